/- The functions, in the abstract machine's form (written by gen.py). -/
import Derived.Test.YtmoimchdhgoeeaaDoorAm34
import Derived.Test.YtmoimchdhgoeeaaDoorProg
set_option linter.unusedVariables false
namespace Go.Am.Rl
open Go.Proofs
set_option maxRecDepth 20000

/-- exitwave/exitwavelaw5.LexTokens -/
abbrev r3_0 : List AOper := [
  ⟨some 2, .mv (.c (.bool false)), none, []⟩]
abbrev r3_1 : List AOper := [
  ⟨some 7, .callF 9 [], none, []⟩,
  ⟨some 8, .un .not (.t 7), none, [0]⟩]
abbrev r3_2 : List AOper := [
  ⟨some 2, .mv (.c (.bool false)), none, []⟩]
abbrev r3_3 : List AOper := [
  ⟨some 9, .mv (.t 0), none, []⟩,
  ⟨some 10, .len 0 (.t 9), none, [0]⟩,
  ⟨some 11, .bin .gtr (.t 10) (.c (.int .i64 16384)), none, [1]⟩]
abbrev r3_4 : List AOper := [
  ⟨some 2, .mv (.c (.bool true)), none, []⟩]
abbrev r3_5 : List AOper := [
  ⟨some 13, .mv (.t 0), none, []⟩,
  ⟨some 14, .callF 10 [(.t 13)], none, [0]⟩,
  ⟨some 12, .mv (.t 14), none, [1]⟩,
  ⟨some 15, .extract (.t 12) 0, none, [2]⟩,
  ⟨some 16, .extract (.t 12) 1, none, [2]⟩,
  ⟨some 4, .alloc 26 (.agg [.int .i64 0, .int .i64 0]), none, []⟩,
  ⟨some 3, .mv (.t 15), none, [3, 1, 0, 1, 2, 3, 5]⟩,
  ⟨none, .store 2 (.t 4) (.t 16), none, [5, 4, 6, 0, 1, 2, 3, 4, 5, 6]⟩]
abbrev r3_6 : List AOper := [
  ⟨some 18, .mv (.t 0), none, []⟩,
  ⟨some 19, .callF 11 [(.t 18)], none, [0]⟩,
  ⟨some 17, .mv (.t 19), none, [1]⟩,
  ⟨some 20, .extract (.t 17) 0, none, [2]⟩,
  ⟨some 21, .extract (.t 17) 1, none, [2]⟩,
  ⟨some 6, .alloc 26 (.agg [.int .i64 0, .int .i64 0]), none, []⟩,
  ⟨some 5, .mv (.t 20), none, [3, 1, 0, 1, 2, 3, 5]⟩,
  ⟨none, .store 2 (.t 6) (.t 21), none, [5, 4, 6, 0, 1, 2, 3, 4, 5, 6]⟩]
abbrev r3_7 : List AOper := [
  ⟨some 22, .load (some 2) (.t 4), none, []⟩,
  ⟨some 23, .load (some 2) (.t 6), none, []⟩,
  ⟨some 24, .eqAgg [1, 1] false (.t 22) (.t 23), none, [0, 1]⟩,
  ⟨some 25, .mv (.t 24), none, [2]⟩,
  ⟨some 26, .mv (.t 3), some (25, true), [3]⟩,
  ⟨some 27, .mv (.t 5), some (25, true), [3]⟩,
  ⟨some 28, .callF 12 [(.t 26), (.t 27), (.c (.bool true))], some (25, true), [4, 5, 3, 3]⟩,
  ⟨some 29, .pick (.t 25) (.t 28) (.c (.bool false)), none, [3, 6]⟩,
  ⟨some 2, .mv (.t 29), none, [7, 6, 0, 1, 2, 3, 4, 5, 6, 7]⟩]
def k3 : List (List Nat) := [[0], [0, 8], [2], [0, 11], [2], [0, 3, 4], [3, 4, 5, 6], [2]]
def f3 : AFunc := { ntmps := 30, results := [.tmp 2], body := (
  .seq (
  .region false r3_0 [0]) (
  .seq (
  .seq (
  .region false r3_1 [0, 8]) (
  .cond (.t 8) (
    .seq (
    .region false r3_2 [2]) (
    .ret)) (
    .skip))) (
  .seq (
  .seq (
  .region false r3_3 [0, 11]) (
  .cond (.t 11) (
    .seq (
    .region false r3_4 [2]) (
    .ret)) (
    .skip))) (
  .seq (
  .region false r3_5 [0, 3, 4]) (
  .seq (
  .region false r3_6 [3, 4, 5, 6]) (
  .seq (
  .region false r3_7 [2]) (
  .ret))))))) }
theorem c3 : cfunc Tryd.prog (kof k3) Tryd.f3 = some f3 := by kernel_rfl

/-- exitwave/exitwavelaw5.LexLong -/
abbrev r4_0 : List AOper := [
  ⟨some 4, .mv (.c (.bool false)), none, []⟩]
abbrev r4_1 : List AOper := [
  ⟨some 12, .callF 9 [], none, []⟩,
  ⟨some 13, .un .not (.t 12), none, [0]⟩]
abbrev r4_2 : List AOper := [
  ⟨some 4, .mv (.c (.bool false)), none, []⟩]
abbrev r4_3 : List AOper := [
  ⟨some 14, .mv (.t 0), none, []⟩,
  ⟨some 15, .len 0 (.t 14), none, [0]⟩,
  ⟨some 16, .bin .eql (.t 15) (.c (.int .i64 0)), none, [1]⟩,
  ⟨some 17, .mv (.t 16), none, [2]⟩,
  ⟨some 18, .mv (.t 0), some (17, false), [3]⟩,
  ⟨some 19, .len 0 (.t 18), some (17, false), [4, 3]⟩,
  ⟨some 20, .bin .gtr (.t 19) (.c (.int .i64 100)), some (17, false), [5, 3]⟩,
  ⟨some 21, .pick (.t 17) (.c (.bool true)) (.t 20), none, [3, 6]⟩]
abbrev r4_4 : List AOper := [
  ⟨some 4, .mv (.c (.bool true)), none, []⟩]
abbrev r4_5 : List AOper := [
  ⟨some 22, .mv (.t 1), none, []⟩,
  ⟨some 23, .bin .rem (.t 22) (.c (.int .i64 4)), none, [0]⟩,
  ⟨some 1, .mv (.t 23), none, [1, 0, 1]⟩]
abbrev r4_6 : List AOper := [
  ⟨some 24, .mv (.t 1), none, []⟩,
  ⟨some 25, .bin .lss (.t 24) (.c (.int .i64 0)), none, [0]⟩]
abbrev r4_7 : List AOper := [
  ⟨some 26, .mv (.t 1), none, []⟩,
  ⟨some 27, .bin .sub (.c (.int .i64 0)) (.t 26), none, [0]⟩,
  ⟨some 1, .mv (.t 27), none, [1, 0, 1]⟩]
abbrev r4_8 : List AOper := [
  ⟨some 28, .mv (.t 1), none, []⟩,
  ⟨some 29, .bin .add (.c (.int .i64 65534)) (.t 28), none, [0]⟩,
  ⟨some 5, .mv (.t 29), none, [1, 0, 1]⟩]
abbrev r4_9 : List AOper := [
  ⟨some 6, .mv (.c (.nils)), none, []⟩]
abbrev r4_10 : List AOper := [
  ⟨some 30, .mv (.t 6), none, []⟩,
  ⟨some 31, .len 1 (.t 30), none, [0]⟩,
  ⟨some 32, .mv (.t 5), none, []⟩,
  ⟨some 33, .bin .lss (.t 31) (.t 32), none, [1, 2]⟩]
abbrev r4_11 : List AOper := [
  ⟨some 34, .mv (.t 6), none, []⟩,
  ⟨some 35, .mv (.t 0), none, []⟩,
  ⟨some 36, .app 5 1 1 (.t 34) (.t 35), none, [0, 1]⟩,
  ⟨some 6, .mv (.t 36), none, [2, 2, 0, 1, 2]⟩]
def l4_0 : ACode :=
  .seq (
  .seq (
  .region false r4_10 [0, 5, 6, 33]) (
  .cond (.t 33) (
    .skip) (
    .exit 0))) (
  .block 1 (
    .region false r4_11 [0, 5, 6]))
abbrev r4_12 : List AOper := [
  ⟨some 37, .mv (.t 6), none, []⟩,
  ⟨some 38, .mv (.t 5), none, []⟩,
  ⟨some 39, .slc 5 1 (.t 37) none (some (.t 38)) none, none, [0, 1]⟩,
  ⟨some 40, .conv .bytesStr (.t 39), none, [2]⟩,
  ⟨some 7, .mv (.t 40), none, [3, 0, 1, 2, 3]⟩]
abbrev r4_13 : List AOper := [
  ⟨some 42, .mv (.t 7), none, []⟩,
  ⟨some 43, .callF 10 [(.t 42)], none, [0]⟩,
  ⟨some 41, .mv (.t 43), none, [1]⟩,
  ⟨some 44, .extract (.t 41) 0, none, [2]⟩,
  ⟨some 45, .extract (.t 41) 1, none, [2]⟩,
  ⟨some 9, .alloc 26 (.agg [.int .i64 0, .int .i64 0]), none, []⟩,
  ⟨some 8, .mv (.t 44), none, [3, 1, 0, 1, 2, 3, 5]⟩,
  ⟨none, .store 2 (.t 9) (.t 45), none, [5, 4, 6, 0, 1, 2, 3, 4, 5, 6]⟩]
abbrev r4_14 : List AOper := [
  ⟨some 47, .mv (.t 7), none, []⟩,
  ⟨some 48, .callF 11 [(.t 47)], none, [0]⟩,
  ⟨some 46, .mv (.t 48), none, [1]⟩,
  ⟨some 49, .extract (.t 46) 0, none, [2]⟩,
  ⟨some 50, .extract (.t 46) 1, none, [2]⟩,
  ⟨some 11, .alloc 26 (.agg [.int .i64 0, .int .i64 0]), none, []⟩,
  ⟨some 10, .mv (.t 49), none, [3, 1, 0, 1, 2, 3, 5]⟩,
  ⟨none, .store 2 (.t 11) (.t 50), none, [5, 4, 6, 0, 1, 2, 3, 4, 5, 6]⟩]
abbrev r4_15 : List AOper := [
  ⟨some 51, .load (some 2) (.t 9), none, []⟩,
  ⟨some 52, .load (some 2) (.t 11), none, []⟩,
  ⟨some 53, .eqAgg [1, 1] false (.t 51) (.t 52), none, [0, 1]⟩,
  ⟨some 54, .mv (.t 53), none, [2]⟩,
  ⟨some 55, .mv (.t 8), some (54, true), [3]⟩,
  ⟨some 56, .mv (.t 10), some (54, true), [3]⟩,
  ⟨some 57, .callF 12 [(.t 55), (.t 56), (.c (.bool true))], some (54, true), [4, 5, 3, 3]⟩,
  ⟨some 58, .pick (.t 54) (.t 57) (.c (.bool false)), none, [3, 6]⟩,
  ⟨some 4, .mv (.t 58), none, [7, 6, 0, 1, 2, 3, 4, 5, 6, 7]⟩]
def k4 : List (List Nat) := [[0, 1], [0, 1, 13], [4], [0, 1, 21], [4], [0, 1], [0, 1, 25], [0, 1], [0, 5], [0, 5, 6], [0, 5, 6, 33], [0, 5, 6], [7], [7, 8, 9], [8, 9, 10, 11], [4]]
def f4 : AFunc := { ntmps := 59, results := [.tmp 4], body := (
  .seq (
  .region false r4_0 [0, 1]) (
  .seq (
  .seq (
  .region false r4_1 [0, 1, 13]) (
  .cond (.t 13) (
    .seq (
    .region false r4_2 [4]) (
    .ret)) (
    .skip))) (
  .seq (
  .seq (
  .region false r4_3 [0, 1, 21]) (
  .cond (.t 21) (
    .seq (
    .region false r4_4 [4]) (
    .ret)) (
    .skip))) (
  .seq (
  .region false r4_5 [0, 1]) (
  .seq (
  .seq (
  .region false r4_6 [0, 1, 25]) (
  .cond (.t 25) (
    .region false r4_7 [0, 1]) (
    .skip))) (
  .seq (
  .region false r4_8 [0, 5]) (
  .seq (
  .region false r4_9 [0, 5, 6]) (
  .seq (
  .block 0 (
    .loop l4_0)) (
  .seq (
  .region false r4_12 [7]) (
  .seq (
  .region false r4_13 [7, 8, 9]) (
  .seq (
  .region false r4_14 [8, 9, 10, 11]) (
  .seq (
  .region false r4_15 [4]) (
  .ret))))))))))))) }
theorem c4 : cfunc Tryd.prog (kof k4) Tryd.f4 = some f4 := by kernel_rfl

/-- exitwave/exitwavelaw5.LexKept -/
abbrev r5_0 : List AOper := [
  ⟨some 2, .mv (.c (.bool false)), none, []⟩]
abbrev r5_1 : List AOper := [
  ⟨some 3, .callF 9 [], none, []⟩,
  ⟨some 4, .un .not (.t 3), none, [0]⟩]
abbrev r5_2 : List AOper := [
  ⟨some 2, .mv (.c (.bool false)), none, []⟩]
abbrev r5_3 : List AOper := [
  ⟨some 5, .mv (.t 0), none, []⟩,
  ⟨some 6, .len 0 (.t 5), none, [0]⟩,
  ⟨some 7, .bin .gtr (.t 6) (.c (.int .i64 16384)), none, [1]⟩,
  ⟨some 8, .mv (.t 7), none, [2]⟩,
  ⟨some 9, .mv (.t 0), some (8, false), [3]⟩,
  ⟨some 10, .callF 13 [(.t 9)], some (8, false), [4, 3, 3]⟩,
  ⟨some 11, .mv (.t 0), some (8, false), [3]⟩,
  ⟨some 12, .callF 14 [(.t 11)], some (8, false), [6, 5, 3]⟩,
  ⟨some 13, .eqB false (.t 10) (.t 12), some (8, false), [5, 7, 3]⟩,
  ⟨some 14, .pick (.t 8) (.c (.bool true)) (.t 13), none, [3, 8]⟩,
  ⟨some 2, .mv (.t 14), none, [9, 7, 0, 1, 2, 3, 4, 5, 6, 7, 8, 9]⟩]
def k5 : List (List Nat) := [[0], [0, 4], [2], [2]]
def f5 : AFunc := { ntmps := 15, results := [.tmp 2], body := (
  .seq (
  .region false r5_0 [0]) (
  .seq (
  .seq (
  .region false r5_1 [0, 4]) (
  .cond (.t 4) (
    .seq (
    .region false r5_2 [2]) (
    .ret)) (
    .skip))) (
  .seq (
  .region false r5_3 [2]) (
  .ret)))) }
theorem c5 : cfunc Tryd.prog (kof k5) Tryd.f5 = some f5 := by kernel_rfl

/-- exitwave/exitwavelaw5.LexAlone -/
abbrev r6_0 : List AOper := [
  ⟨some 4, .mv (.c (.bool false)), none, []⟩]
abbrev r6_1 : List AOper := [
  ⟨some 16, .callF 9 [], none, []⟩,
  ⟨some 17, .un .not (.t 16), none, [0]⟩]
abbrev r6_2 : List AOper := [
  ⟨some 4, .mv (.c (.bool false)), none, []⟩]
abbrev r6_3 : List AOper := [
  ⟨some 18, .mv (.t 0), none, []⟩,
  ⟨some 19, .len 0 (.t 18), none, [0]⟩,
  ⟨some 20, .bin .gtr (.t 19) (.c (.int .i64 2000)), none, [1]⟩,
  ⟨some 21, .mv (.t 20), none, [2]⟩,
  ⟨some 22, .mv (.t 1), some (21, false), [3]⟩,
  ⟨some 23, .len 0 (.t 22), some (21, false), [4, 3]⟩,
  ⟨some 24, .bin .gtr (.t 23) (.c (.int .i64 20)), some (21, false), [5, 3]⟩,
  ⟨some 25, .pick (.t 21) (.c (.bool true)) (.t 24), none, [3, 6]⟩]
abbrev r6_4 : List AOper := [
  ⟨some 4, .mv (.c (.bool true)), none, []⟩]
abbrev r6_5 : List AOper := [
  ⟨some 5, .mv (.c (.int .i64 0)), none, []⟩]
abbrev r6_6 : List AOper := [
  ⟨some 26, .mv (.t 5), none, []⟩,
  ⟨some 27, .mv (.t 1), none, []⟩,
  ⟨some 28, .len 0 (.t 27), none, [1]⟩,
  ⟨some 29, .bin .lss (.t 26) (.t 28), none, [0, 2]⟩]
abbrev r6_8 : List AOper := [
  ⟨some 32, .mv (.t 1), none, []⟩,
  ⟨some 33, .mv (.t 5), none, []⟩,
  ⟨some 34, .idxS (.t 32) (.t 33), none, [0, 1]⟩,
  ⟨some 35, .bin .neq (.t 34) (.c (.int .u8 9)), none, [2]⟩,
  ⟨some 36, .mv (.t 35), none, [3]⟩,
  ⟨some 37, .mv (.t 1), some (36, true), [4]⟩,
  ⟨some 38, .mv (.t 5), some (36, true), [4]⟩,
  ⟨some 39, .idxS (.t 37) (.t 38), some (36, true), [5, 6, 4]⟩,
  ⟨some 40, .bin .neq (.t 39) (.c (.int .u8 10)), some (36, true), [7, 4]⟩,
  ⟨some 41, .pick (.t 36) (.t 40) (.c (.bool false)), none, [4, 8]⟩,
  ⟨some 42, .mv (.t 41), none, [9, 4]⟩,
  ⟨some 43, .mv (.t 1), some (42, true), [10]⟩,
  ⟨some 44, .mv (.t 5), some (42, true), [10]⟩,
  ⟨some 45, .idxS (.t 43) (.t 44), some (42, true), [11, 12, 10]⟩,
  ⟨some 46, .bin .neq (.t 45) (.c (.int .u8 13)), some (42, true), [13, 10]⟩,
  ⟨some 47, .pick (.t 42) (.t 46) (.c (.bool false)), none, [10, 14]⟩,
  ⟨some 48, .mv (.t 47), none, [15, 10]⟩,
  ⟨some 49, .mv (.t 1), some (48, true), [16]⟩,
  ⟨some 50, .mv (.t 5), some (48, true), [16]⟩,
  ⟨some 51, .idxS (.t 49) (.t 50), some (48, true), [17, 18, 16]⟩,
  ⟨some 52, .bin .neq (.t 51) (.c (.int .u8 32)), some (48, true), [19, 16]⟩,
  ⟨some 53, .pick (.t 48) (.t 52) (.c (.bool false)), none, [16, 20]⟩]
abbrev r6_9 : List AOper := [
  ⟨some 4, .mv (.c (.bool true)), none, []⟩]
abbrev r6_7 : List AOper := [
  ⟨some 30, .mv (.t 5), none, []⟩,
  ⟨some 31, .bin .add (.t 30) (.c (.int .i64 1)), none, [0]⟩,
  ⟨some 5, .mv (.t 31), none, [1, 0, 1]⟩]
def l6_0 : ACode :=
  .seq (
  .seq (
  .region false r6_6 [0, 1, 5, 29]) (
  .cond (.t 29) (
    .skip) (
    .exit 0))) (
  .seq (
  .block 1 (
    .seq (
    .region false r6_8 [0, 1, 5, 53]) (
    .cond (.t 53) (
      .seq (
      .region false r6_9 [4]) (
      .ret)) (
      .skip)))) (
  .region false r6_7 [0, 1, 5]))
abbrev r6_10 : List AOper := [
  ⟨some 55, .mv (.t 0), none, []⟩,
  ⟨some 56, .callF 10 [(.t 55)], none, [0]⟩,
  ⟨some 54, .mv (.t 56), none, [1]⟩,
  ⟨some 57, .extract (.t 54) 0, none, [2]⟩,
  ⟨some 58, .extract (.t 54) 1, none, [2]⟩,
  ⟨some 7, .alloc 26 (.agg [.int .i64 0, .int .i64 0]), none, []⟩,
  ⟨some 6, .mv (.t 57), none, [3, 1, 0, 1, 2, 3, 5]⟩,
  ⟨none, .store 2 (.t 7) (.t 58), none, [5, 4, 6, 0, 1, 2, 3, 4, 5, 6]⟩]
abbrev r6_11 : List AOper := [
  ⟨some 59, .load (some 2) (.t 7), none, []⟩,
  ⟨some 60, .build [.int .i64 0, .int .i64 0] [], none, []⟩,
  ⟨some 61, .eqAgg [1, 1] true (.t 59) (.t 60), none, [0, 1]⟩]
abbrev r6_12 : List AOper := [
  ⟨some 62, .mv (.t 6), none, []⟩,
  ⟨some 63, .len 1 (.t 62), none, [0]⟩,
  ⟨some 64, .bin .eql (.t 63) (.c (.int .i64 0)), none, [1]⟩,
  ⟨some 65, .mv (.t 64), none, [2]⟩,
  ⟨some 66, .faddr 1 (.t 7), some (65, true), [3]⟩,
  ⟨some 67, .load none (.t 66), some (65, true), [4, 3]⟩,
  ⟨some 68, .bin .geq (.t 67) (.c (.int .i64 0)), some (65, true), [5, 3]⟩,
  ⟨some 69, .pick (.t 65) (.t 68) (.c (.bool false)), none, [3, 6]⟩,
  ⟨some 70, .mv (.t 69), none, [7, 3]⟩,
  ⟨some 71, .faddr 1 (.t 7), some (70, true), [8]⟩,
  ⟨some 72, .load none (.t 71), some (70, true), [9, 8]⟩,
  ⟨some 73, .mv (.t 0), some (70, true), [8]⟩,
  ⟨some 74, .len 0 (.t 73), some (70, true), [11, 8]⟩,
  ⟨some 75, .bin .leq (.t 72) (.t 74), some (70, true), [10, 12, 8]⟩,
  ⟨some 76, .pick (.t 70) (.t 75) (.c (.bool false)), none, [8, 13]⟩,
  ⟨some 77, .mv (.t 76), none, [14, 8]⟩,
  ⟨some 78, .faddr 0 (.t 7), some (77, true), [15]⟩,
  ⟨some 79, .load none (.t 78), some (77, true), [16, 15]⟩,
  ⟨some 80, .bin .neq (.t 79) (.c (.int .i64 0)), some (77, true), [17, 15]⟩,
  ⟨some 81, .pick (.t 77) (.t 80) (.c (.bool false)), none, [15, 18]⟩,
  ⟨some 4, .mv (.t 81), none, [19, 15, 0, 1, 2, 3, 4, 5, 6, 7, 8, 9, 10, 11, 12, 13, 14, 15, 16, 17, 18, 19]⟩]
abbrev r6_13 : List AOper := [
  ⟨some 82, .mv (.t 1), none, []⟩,
  ⟨some 8, .mv (.t 82), none, [0, 0]⟩]
abbrev r6_14 : List AOper := [
  ⟨some 9, .mv (.c (.int .i64 0)), none, []⟩]
abbrev r6_15 : List AOper := [
  ⟨some 83, .mv (.t 9), none, []⟩,
  ⟨some 84, .bin .add (.t 83) (.c (.int .i64 1)), none, [0]⟩,
  ⟨some 85, .mv (.t 6), none, []⟩,
  ⟨some 86, .len 1 (.t 85), none, [2]⟩,
  ⟨some 87, .bin .lss (.t 84) (.t 86), none, [1, 3]⟩]
abbrev r6_17 : List AOper := [
  ⟨some 90, .mv (.t 6), none, []⟩,
  ⟨some 91, .mv (.t 9), none, []⟩,
  ⟨some 92, .iaddr 5 (.t 90) (.t 91), none, [0, 1]⟩,
  ⟨some 93, .faddr 4 (.t 92), none, [2]⟩,
  ⟨some 94, .load none (.t 93), none, [3]⟩,
  ⟨some 95, .mv (.t 6), none, []⟩,
  ⟨some 96, .mv (.t 9), none, []⟩,
  ⟨some 97, .bin .add (.t 96) (.c (.int .i64 1)), none, [6]⟩,
  ⟨some 98, .iaddr 5 (.t 95) (.t 97), none, [5, 7]⟩,
  ⟨some 99, .faddr 4 (.t 98), none, [8]⟩,
  ⟨some 100, .load none (.t 99), none, [9]⟩,
  ⟨some 101, .bin .geq (.t 94) (.t 100), none, [4, 10]⟩]
abbrev r6_18 : List AOper := [
  ⟨some 4, .mv (.c (.bool false)), none, []⟩]
abbrev r6_19 : List AOper := [
  ⟨some 102, .mv (.t 0), none, []⟩,
  ⟨some 103, .mv (.t 6), none, []⟩,
  ⟨some 104, .mv (.t 9), none, []⟩,
  ⟨some 105, .iaddr 5 (.t 103) (.t 104), none, [1, 2]⟩,
  ⟨some 106, .faddr 4 (.t 105), none, [3]⟩,
  ⟨some 107, .load none (.t 106), none, [4]⟩,
  ⟨some 108, .mv (.t 6), none, []⟩,
  ⟨some 109, .mv (.t 9), none, []⟩,
  ⟨some 110, .bin .add (.t 109) (.c (.int .i64 1)), none, [7]⟩,
  ⟨some 111, .iaddr 5 (.t 108) (.t 110), none, [6, 8]⟩,
  ⟨some 112, .faddr 4 (.t 111), none, [9]⟩,
  ⟨some 113, .load none (.t 112), none, [10]⟩,
  ⟨some 114, .slcS (.t 102) (some (.t 107)) (some (.t 113)), none, [0, 5, 11]⟩,
  ⟨some 10, .mv (.t 114), none, [12, 0, 1, 2, 3, 4, 5, 6, 7, 8, 9, 10, 11, 12]⟩]
abbrev r6_20 : List AOper := [
  ⟨some 116, .mv (.t 10), none, []⟩,
  ⟨some 117, .bin .add (.t 116) (.c (.str ⟨#[32]⟩)), none, [0]⟩,
  ⟨some 118, .callF 10 [(.t 117)], none, [1]⟩,
  ⟨some 115, .mv (.t 118), none, [2]⟩,
  ⟨some 119, .extract (.t 115) 0, none, [3]⟩,
  ⟨some 120, .extract (.t 115) 1, none, [3]⟩,
  ⟨some 12, .alloc 26 (.agg [.int .i64 0, .int .i64 0]), none, []⟩,
  ⟨some 11, .mv (.t 119), none, [4, 2, 0, 1, 2, 3, 4, 6]⟩,
  ⟨none, .store 2 (.t 12) (.t 120), none, [6, 5, 7, 0, 1, 2, 3, 4, 5, 6, 7]⟩]
abbrev r6_21 : List AOper := [
  ⟨some 121, .mv (.t 6), none, []⟩,
  ⟨some 122, .mv (.t 9), none, []⟩,
  ⟨some 123, .iaddr 5 (.t 121) (.t 122), none, [0, 1]⟩,
  ⟨some 124, .load (some 5) (.t 123), none, [2]⟩,
  ⟨some 13, .alloc 35 (.agg [.int .i64 0, .str ⟨#[]⟩, .int .i64 0, .flt .f64 0, .int .i64 0]), none, []⟩,
  ⟨none, .store 5 (.t 13) (.t 124), none, [4, 3, 0, 1, 2, 3, 4]⟩]
abbrev r6_22 : List AOper := [
  ⟨some 125, .faddr 4 (.t 13), none, []⟩,
  ⟨none, .store 1 (.t 125) (.c (.int .i64 0)), none, [0]⟩]
abbrev r6_23 : List AOper := [
  ⟨some 126, .load (some 2) (.t 12), none, []⟩,
  ⟨some 127, .build [.int .i64 0, .int .i64 0] [], none, []⟩,
  ⟨some 128, .eqAgg [1, 1] true (.t 126) (.t 127), none, [0, 1]⟩,
  ⟨some 129, .mv (.t 128), none, [2]⟩,
  ⟨some 130, .mv (.t 11), some (129, false), [3]⟩,
  ⟨some 131, .len 1 (.t 130), some (129, false), [4, 3]⟩,
  ⟨some 132, .bin .neq (.t 131) (.c (.int .i64 2)), some (129, false), [5, 3]⟩,
  ⟨some 133, .pick (.t 129) (.c (.bool true)) (.t 132), none, [3, 6]⟩,
  ⟨some 134, .mv (.t 133), none, [7, 3]⟩,
  ⟨some 135, .mv (.t 11), some (134, false), [8]⟩,
  ⟨some 136, .slc 35 5 (.t 135) none (some (.c (.int .i64 1))) none, some (134, false), [9, 8]⟩,
  ⟨some 137, .load (some 5) (.t 13), some (134, false), [8]⟩,
  ⟨some 138, .bslice 35 1 [.int .i64 0, .str ⟨#[]⟩, .int .i64 0, .flt .f64 0, .int .i64 0] [(0, 5, (.t 137))], some (134, false), [11, 8]⟩,
  ⟨some 139, .callF 12 [(.t 136), (.t 138), (.c (.bool true))], some (134, false), [10, 12, 8, 8]⟩,
  ⟨some 140, .un .not (.t 139), some (134, false), [13, 8]⟩,
  ⟨some 141, .pick (.t 134) (.c (.bool true)) (.t 140), none, [8, 14]⟩]
abbrev r6_24 : List AOper := [
  ⟨some 4, .mv (.c (.bool false)), none, []⟩]
abbrev r6_25 : List AOper := [
  ⟨some 142, .mv (.t 8), none, []⟩,
  ⟨some 143, .mv (.t 10), none, []⟩,
  ⟨some 144, .bin .add (.t 142) (.t 143), none, [0, 1]⟩,
  ⟨some 145, .bin .add (.t 144) (.c (.str ⟨#[10]⟩)), none, [2]⟩,
  ⟨some 146, .mv (.t 1), none, []⟩,
  ⟨some 147, .bin .add (.t 145) (.t 146), none, [3, 4]⟩,
  ⟨some 8, .mv (.t 147), none, [5, 0, 1, 2, 3, 4, 5]⟩]
abbrev r6_16 : List AOper := [
  ⟨some 88, .mv (.t 9), none, []⟩,
  ⟨some 89, .bin .add (.t 88) (.c (.int .i64 1)), none, [0]⟩,
  ⟨some 9, .mv (.t 89), none, [1, 0, 1]⟩]
def l6_1 : ACode :=
  .seq (
  .seq (
  .region false r6_15 [0, 1, 6, 8, 9, 87]) (
  .cond (.t 87) (
    .skip) (
    .exit 2))) (
  .seq (
  .block 3 (
    .seq (
    .seq (
    .region true r6_17 [0, 1, 6, 8, 9, 101]) (
    .cond (.t 101) (
      .seq (
      .region false r6_18 [4]) (
      .ret)) (
      .skip))) (
    .seq (
    .region true r6_19 [0, 1, 6, 8, 9, 10]) (
    .seq (
    .region false r6_20 [0, 1, 6, 8, 9, 10, 11, 12]) (
    .seq (
    .region false r6_21 [0, 1, 6, 8, 9, 10, 11, 12, 13]) (
    .seq (
    .region false r6_22 [0, 1, 6, 8, 9, 10, 11, 12, 13]) (
    .seq (
    .seq (
    .region true r6_23 [0, 1, 6, 8, 9, 10, 141]) (
    .cond (.t 141) (
      .seq (
      .region false r6_24 [4]) (
      .ret)) (
      .skip))) (
    .region false r6_25 [0, 1, 6, 8, 9])))))))) (
  .region false r6_16 [0, 1, 6, 8, 9]))
abbrev r6_26 : List AOper := [
  ⟨some 149, .mv (.t 8), none, []⟩,
  ⟨some 150, .callF 10 [(.t 149)], none, [0]⟩,
  ⟨some 148, .mv (.t 150), none, [1]⟩,
  ⟨some 151, .extract (.t 148) 0, none, [2]⟩,
  ⟨some 152, .extract (.t 148) 1, none, [2]⟩,
  ⟨some 15, .alloc 26 (.agg [.int .i64 0, .int .i64 0]), none, []⟩,
  ⟨some 14, .mv (.t 151), none, [3, 1, 0, 1, 2, 3, 5]⟩,
  ⟨none, .store 2 (.t 15) (.t 152), none, [5, 4, 6, 0, 1, 2, 3, 4, 5, 6]⟩]
abbrev r6_27 : List AOper := [
  ⟨some 153, .mv (.t 6), none, []⟩,
  ⟨some 154, .mv (.t 6), none, []⟩,
  ⟨some 155, .len 1 (.t 154), none, [1]⟩,
  ⟨some 156, .bin .sub (.t 155) (.c (.int .i64 1)), none, [2]⟩,
  ⟨some 157, .iaddr 5 (.t 153) (.t 156), none, [0, 3]⟩,
  ⟨some 158, .faddr 0 (.t 157), none, [4]⟩,
  ⟨some 159, .load none (.t 158), none, [5]⟩,
  ⟨some 160, .bin .eql (.t 159) (.c (.int .i64 8)), none, [6]⟩,
  ⟨some 161, .mv (.t 160), none, [7]⟩,
  ⟨some 162, .mv (.t 6), some (161, true), [8]⟩,
  ⟨some 163, .mv (.t 6), some (161, true), [8]⟩,
  ⟨some 164, .len 1 (.t 163), some (161, true), [10, 8]⟩,
  ⟨some 165, .bin .sub (.t 164) (.c (.int .i64 1)), some (161, true), [11, 8]⟩,
  ⟨some 166, .iaddr 5 (.t 162) (.t 165), some (161, true), [9, 12, 8]⟩,
  ⟨some 167, .faddr 4 (.t 166), some (161, true), [13, 8]⟩,
  ⟨some 168, .load none (.t 167), some (161, true), [14, 8]⟩,
  ⟨some 169, .mv (.t 0), some (161, true), [8]⟩,
  ⟨some 170, .len 0 (.t 169), some (161, true), [16, 8]⟩,
  ⟨some 171, .bin .eql (.t 168) (.t 170), some (161, true), [15, 17, 8]⟩,
  ⟨some 172, .pick (.t 161) (.t 171) (.c (.bool false)), none, [8, 18]⟩,
  ⟨some 173, .mv (.t 172), none, [19, 8]⟩,
  ⟨some 174, .load (some 2) (.t 15), some (173, true), [20]⟩,
  ⟨some 175, .build [.int .i64 0, .int .i64 0] [], some (173, true), [20]⟩,
  ⟨some 176, .eqAgg [1, 1] false (.t 174) (.t 175), some (173, true), [21, 22, 20]⟩,
  ⟨some 177, .pick (.t 173) (.t 176) (.c (.bool false)), none, [20, 23]⟩,
  ⟨some 178, .mv (.t 177), none, [24, 20]⟩,
  ⟨some 179, .mv (.t 14), some (178, true), [25]⟩,
  ⟨some 180, .mv (.t 6), some (178, true), [25]⟩,
  ⟨some 181, .callF 12 [(.t 179), (.t 180), (.c (.bool false))], some (178, true), [26, 27, 25, 25]⟩,
  ⟨some 182, .pick (.t 178) (.t 181) (.c (.bool false)), none, [25, 28]⟩,
  ⟨some 4, .mv (.t 182), none, [29, 28, 0, 1, 2, 3, 4, 5, 6, 7, 8, 9, 10, 11, 12, 13, 14, 15, 16, 17, 18, 19, 20, 21, 22, 23, 24, 25, 26, 27, 28, 29]⟩]
def m6_17 : List Nat := [0, 0, 3, 7, 15, 0, 0, 64, 224, 480, 992, 2047]
theorem d6_17 : okDraw r6_17 m6_17 = true := by kernel_rfl
def m6_19 : List Nat := [0, 0, 0, 6, 14, 30, 0, 0, 128, 448, 960, 1984, 4095, 8191]
theorem d6_19 : okDraw r6_19 m6_19 = true := by kernel_rfl
def m6_23 : List Nat := [0, 0, 3, 7, 15, 31, 63, 127, 255, 511, 1023, 511, 2559, 8191, 16383, 32767]
theorem d6_23 : okDraw r6_23 m6_23 = true := by kernel_rfl
def k6 : List (List Nat) := [[0, 1], [0, 1, 17], [4], [0, 1, 25], [4], [0, 1, 5], [0, 1, 5, 29], [0, 1, 5], [0, 1, 5, 53], [4], [0, 1, 6, 7], [0, 1, 6, 7, 61], [4], [0, 1, 6, 8], [0, 1, 6, 8, 9], [0, 1, 6, 8, 9, 87], [0, 1, 6, 8, 9], [0, 1, 6, 8, 9, 101], [4], [0, 1, 6, 8, 9, 10], [0, 1, 6, 8, 9, 10, 11, 12], [0, 1, 6, 8, 9, 10, 11, 12, 13], [0, 1, 6, 8, 9, 10, 11, 12, 13], [0, 1, 6, 8, 9, 10, 141], [4], [0, 1, 6, 8, 9], [0, 6, 14, 15], [4]]
def f6 : AFunc := { ntmps := 183, results := [.tmp 4], body := (
  .seq (
  .region false r6_0 [0, 1]) (
  .seq (
  .seq (
  .region false r6_1 [0, 1, 17]) (
  .cond (.t 17) (
    .seq (
    .region false r6_2 [4]) (
    .ret)) (
    .skip))) (
  .seq (
  .seq (
  .region false r6_3 [0, 1, 25]) (
  .cond (.t 25) (
    .seq (
    .region false r6_4 [4]) (
    .ret)) (
    .skip))) (
  .seq (
  .seq (
  .region false r6_5 [0, 1, 5]) (
  .block 0 (
    .loop l6_0))) (
  .seq (
  .region false r6_10 [0, 1, 6, 7]) (
  .seq (
  .seq (
  .region false r6_11 [0, 1, 6, 7, 61]) (
  .cond (.t 61) (
    .seq (
    .region false r6_12 [4]) (
    .ret)) (
    .skip))) (
  .seq (
  .region false r6_13 [0, 1, 6, 8]) (
  .seq (
  .seq (
  .region false r6_14 [0, 1, 6, 8, 9]) (
  .block 2 (
    .loop l6_1))) (
  .seq (
  .region false r6_26 [0, 6, 14, 15]) (
  .seq (
  .region false r6_27 [4]) (
  .ret))))))))))) }
theorem c6 : cfunc Tryd.prog (kof k6) Tryd.f6 = some f6 := by kernel_rfl

/-- exitwave/exitwavelaw5.LexFloats -/
abbrev r7_0 : List AOper := [
  ⟨some 6, .mv (.c (.bool false)), none, []⟩]
abbrev r7_1 : List AOper := [
  ⟨some 18, .callF 9 [], none, []⟩,
  ⟨some 19, .un .not (.t 18), none, [0]⟩]
abbrev r7_2 : List AOper := [
  ⟨some 6, .mv (.c (.bool false)), none, []⟩]
abbrev r7_3 : List AOper := [
  ⟨some 7, .mv (.c (.nils)), none, []⟩]
abbrev r7_4 : List AOper := [
  ⟨some 8, .mv (.c (.int .i64 60)), none, []⟩]
abbrev r7_5 : List AOper := [
  ⟨some 20, .mv (.t 8), none, []⟩,
  ⟨some 21, .bin .geq (.t 20) (.c (.int .i64 0)), none, [0]⟩]
abbrev r7_7 : List AOper := [
  ⟨some 24, .mv (.t 0), none, []⟩,
  ⟨some 25, .mv (.t 8), none, []⟩,
  ⟨some 26, .conv (.toInt .u64) (.t 25), none, [1]⟩,
  ⟨some 27, .bin .shr (.t 24) (.t 26), none, [0, 2]⟩,
  ⟨some 28, .bin .and (.t 27) (.c (.int .u64 15)), none, [3]⟩,
  ⟨some 29, .conv (.toInt .u8) (.t 28), none, [4]⟩,
  ⟨some 9, .mv (.t 29), none, [5, 0, 1, 2, 3, 4, 5]⟩]
abbrev r7_8 : List AOper := [
  ⟨some 30, .mv (.t 9), none, []⟩,
  ⟨some 31, .bin .lss (.t 30) (.c (.int .u8 10)), none, [0]⟩]
abbrev r7_9 : List AOper := [
  ⟨some 32, .mv (.t 7), none, []⟩,
  ⟨some 33, .mv (.t 9), none, []⟩,
  ⟨some 34, .bin .add (.c (.int .u8 48)) (.t 33), none, [1]⟩,
  ⟨some 35, .bslice 5 1 [.int .u8 0] [(0, 1, (.t 34))], none, [2]⟩,
  ⟨some 36, .app 5 1 1 (.t 32) (.t 35), none, [0, 3]⟩,
  ⟨some 7, .mv (.t 36), none, [4, 4, 0, 1, 2, 3, 4]⟩]
abbrev r7_10 : List AOper := [
  ⟨some 37, .mv (.t 7), none, []⟩,
  ⟨some 38, .mv (.t 9), none, []⟩,
  ⟨some 39, .bin .add (.c (.int .u8 97)) (.t 38), none, [1]⟩,
  ⟨some 40, .bin .sub (.t 39) (.c (.int .u8 10)), none, [2]⟩,
  ⟨some 41, .bslice 5 1 [.int .u8 0] [(0, 1, (.t 40))], none, [3]⟩,
  ⟨some 42, .app 5 1 1 (.t 37) (.t 41), none, [0, 4]⟩,
  ⟨some 7, .mv (.t 42), none, [5, 5, 0, 1, 2, 3, 4, 5]⟩]
abbrev r7_6 : List AOper := [
  ⟨some 22, .mv (.t 8), none, []⟩,
  ⟨some 23, .bin .sub (.t 22) (.c (.int .i64 4)), none, [0]⟩,
  ⟨some 8, .mv (.t 23), none, [1, 0, 1]⟩]
def l7_0 : ACode :=
  .seq (
  .seq (
  .region false r7_5 [0, 1, 2, 7, 8, 21]) (
  .cond (.t 21) (
    .skip) (
    .exit 0))) (
  .seq (
  .block 1 (
    .seq (
    .region false r7_7 [0, 1, 2, 7, 8, 9]) (
    .seq (
    .region false r7_8 [0, 1, 2, 7, 8, 9, 31]) (
    .cond (.t 31) (
      .region false r7_9 [0, 1, 2, 7, 8]) (
      .region false r7_10 [0, 1, 2, 7, 8]))))) (
  .region false r7_6 [0, 1, 2, 7, 8]))
abbrev r7_11 : List AOper := [
  ⟨some 43, .mv (.t 0), none, []⟩,
  ⟨some 44, .ext 1 [(.t 43)], none, [0]⟩,
  ⟨some 10, .mv (.t 44), none, [1, 1, 0, 1]⟩]
abbrev r7_12 : List AOper := [
  ⟨some 46, .mv (.t 7), none, []⟩,
  ⟨some 47, .conv .bytesStr (.t 46), none, [0]⟩,
  ⟨some 48, .bin .add (.c (.str ⟨#[35]⟩)) (.t 47), none, [1]⟩,
  ⟨some 49, .callF 10 [(.t 48)], none, [2]⟩,
  ⟨some 45, .mv (.t 49), none, [3]⟩,
  ⟨some 50, .extract (.t 45) 0, none, [4]⟩,
  ⟨some 51, .extract (.t 45) 1, none, [4]⟩,
  ⟨some 12, .alloc 26 (.agg [.int .i64 0, .int .i64 0]), none, []⟩,
  ⟨some 11, .mv (.t 50), none, [5, 3, 0, 1, 2, 3, 4, 5, 7]⟩,
  ⟨none, .store 2 (.t 12) (.t 51), none, [7, 6, 8, 0, 1, 2, 3, 4, 5, 6, 7, 8]⟩]
abbrev r7_13 : List AOper := [
  ⟨some 52, .mv (.t 10), none, []⟩,
  ⟨some 53, .mv (.t 10), none, []⟩,
  ⟨some 54, .bin .sub (.t 52) (.t 53), none, [0, 1]⟩,
  ⟨some 55, .bin .neq (.t 54) (.c (.flt .f64 0)), none, [2]⟩]
abbrev r7_14 : List AOper := [
  ⟨some 56, .faddr 0 (.t 12), none, []⟩,
  ⟨some 57, .load none (.t 56), none, [0]⟩,
  ⟨some 58, .bin .neq (.t 57) (.c (.int .i64 22)), none, [1]⟩,
  ⟨some 59, .mv (.t 58), none, [2]⟩,
  ⟨some 60, .faddr 1 (.t 12), some (59, false), [3]⟩,
  ⟨some 61, .load none (.t 60), some (59, false), [4, 3]⟩,
  ⟨some 62, .bin .neq (.t 61) (.c (.int .i64 0)), some (59, false), [5, 3]⟩,
  ⟨some 63, .pick (.t 59) (.c (.bool true)) (.t 62), none, [3, 6]⟩]
abbrev r7_15 : List AOper := [
  ⟨some 6, .mv (.c (.bool false)), none, []⟩]
abbrev r7_16 : List AOper := [
  ⟨some 64, .load (some 2) (.t 12), none, []⟩,
  ⟨some 65, .build [.int .i64 0, .int .i64 0] [], none, []⟩,
  ⟨some 66, .eqAgg [1, 1] true (.t 64) (.t 65), none, [0, 1]⟩,
  ⟨some 67, .mv (.t 66), none, [2]⟩,
  ⟨some 68, .mv (.t 11), some (67, false), [3]⟩,
  ⟨some 69, .len 1 (.t 68), some (67, false), [4, 3]⟩,
  ⟨some 70, .bin .neq (.t 69) (.c (.int .i64 2)), some (67, false), [5, 3]⟩,
  ⟨some 71, .pick (.t 67) (.c (.bool true)) (.t 70), none, [3, 6]⟩,
  ⟨some 72, .mv (.t 71), none, [7, 3]⟩,
  ⟨some 73, .mv (.t 11), some (72, false), [8]⟩,
  ⟨some 74, .iaddr 5 (.t 73) (.c (.int .i64 0)), some (72, false), [9, 8]⟩,
  ⟨some 75, .faddr 0 (.t 74), some (72, false), [10, 8]⟩,
  ⟨some 76, .load none (.t 75), some (72, false), [11, 8]⟩,
  ⟨some 77, .bin .neq (.t 76) (.c (.int .i64 4)), some (72, false), [12, 8]⟩,
  ⟨some 78, .pick (.t 72) (.c (.bool true)) (.t 77), none, [8, 13]⟩,
  ⟨some 79, .mv (.t 78), none, [14, 8]⟩,
  ⟨some 80, .mv (.t 11), some (79, false), [15]⟩,
  ⟨some 81, .iaddr 5 (.t 80) (.c (.int .i64 0)), some (79, false), [16, 15]⟩,
  ⟨some 82, .faddr 3 (.t 81), some (79, false), [17, 15]⟩,
  ⟨some 83, .load none (.t 82), some (79, false), [18, 15]⟩,
  ⟨some 84, .ext 0 [(.t 83)], some (79, false), [19, 15, 15]⟩,
  ⟨some 85, .mv (.t 0), some (79, false), [15]⟩,
  ⟨some 86, .bin .neq (.t 84) (.t 85), some (79, false), [20, 21, 15]⟩,
  ⟨some 87, .pick (.t 79) (.c (.bool true)) (.t 86), none, [15, 22]⟩]
abbrev r7_17 : List AOper := [
  ⟨some 6, .mv (.c (.bool false)), none, []⟩]
abbrev r7_18 : List AOper := [
  ⟨some 88, .mv (.t 1), none, []⟩,
  ⟨some 89, .bin .rem (.t 88) (.c (.int .u64 1000000000000)), none, [0]⟩,
  ⟨some 1, .mv (.t 89), none, [1, 0, 1]⟩]
abbrev r7_19 : List AOper := [
  ⟨some 90, .mv (.t 2), none, []⟩,
  ⟨some 91, .bin .rem (.t 90) (.c (.int .i64 12)), none, [0]⟩,
  ⟨some 2, .mv (.t 91), none, [1, 0, 1]⟩]
abbrev r7_20 : List AOper := [
  ⟨some 92, .mv (.t 2), none, []⟩,
  ⟨some 93, .bin .lss (.t 92) (.c (.int .i64 0)), none, [0]⟩]
abbrev r7_21 : List AOper := [
  ⟨some 94, .mv (.t 2), none, []⟩,
  ⟨some 95, .bin .sub (.c (.int .i64 0)) (.t 94), none, [0]⟩,
  ⟨some 2, .mv (.t 95), none, [1, 0, 1]⟩]
abbrev r7_22 : List AOper := [
  ⟨some 13, .mv (.c (.str ⟨#[]⟩)), none, []⟩]
abbrev r7_23 : List AOper := [
  ⟨some 96, .mv (.t 1), none, []⟩,
  ⟨some 14, .mv (.t 96), none, [0, 0]⟩]
abbrev r7_24 : List AOper := [
  ⟨some 15, .mv (.c (.flt .f64 4607182418800017408)), none, []⟩]
abbrev r7_25 : List AOper := [
  ⟨some 16, .mv (.c (.int .i64 0)), none, []⟩]
abbrev r7_26 : List AOper := [
  ⟨some 97, .mv (.t 16), none, []⟩,
  ⟨some 98, .mv (.t 2), none, []⟩,
  ⟨some 99, .bin .leq (.t 97) (.t 98), none, [0, 1]⟩]
abbrev r7_28 : List AOper := [
  ⟨some 102, .mv (.t 14), none, []⟩,
  ⟨some 103, .bin .rem (.t 102) (.c (.int .u64 10)), none, [0]⟩,
  ⟨some 104, .bin .add (.c (.int .u64 48)) (.t 103), none, [1]⟩,
  ⟨some 105, .conv (.toInt .u8) (.t 104), none, [2]⟩,
  ⟨some 106, .bslice 5 1 [.int .u8 0] [(0, 1, (.t 105))], none, [3]⟩,
  ⟨some 107, .conv .bytesStr (.t 106), none, [4]⟩,
  ⟨some 108, .mv (.t 13), none, []⟩,
  ⟨some 109, .bin .add (.t 107) (.t 108), none, [5, 6]⟩,
  ⟨some 13, .mv (.t 109), none, [7, 0, 1, 2, 3, 4, 5, 6, 7]⟩]
abbrev r7_29 : List AOper := [
  ⟨some 110, .mv (.t 14), none, []⟩,
  ⟨some 111, .bin .quo (.t 110) (.c (.int .u64 10)), none, [0]⟩,
  ⟨some 14, .mv (.t 111), none, [1, 0, 1]⟩]
abbrev r7_30 : List AOper := [
  ⟨some 112, .mv (.t 16), none, []⟩,
  ⟨some 113, .mv (.t 2), none, []⟩,
  ⟨some 114, .bin .lss (.t 112) (.t 113), none, [0, 1]⟩]
abbrev r7_31 : List AOper := [
  ⟨some 115, .mv (.t 15), none, []⟩,
  ⟨some 116, .bin .mul (.t 115) (.c (.flt .f64 4621819117588971520)), none, [0]⟩,
  ⟨some 15, .mv (.t 116), none, [1, 0, 1]⟩]
abbrev r7_27 : List AOper := [
  ⟨some 100, .mv (.t 16), none, []⟩,
  ⟨some 101, .bin .add (.t 100) (.c (.int .i64 1)), none, [0]⟩,
  ⟨some 16, .mv (.t 101), none, [1, 0, 1]⟩]
def l7_1 : ACode :=
  .seq (
  .seq (
  .region false r7_26 [1, 2, 12, 13, 14, 15, 16, 99]) (
  .cond (.t 99) (
    .skip) (
    .exit 2))) (
  .seq (
  .block 3 (
    .seq (
    .region false r7_28 [1, 2, 12, 13, 14, 15, 16]) (
    .seq (
    .region false r7_29 [1, 2, 12, 13, 14, 15, 16]) (
    .seq (
    .region false r7_30 [1, 2, 12, 13, 14, 15, 16, 114]) (
    .cond (.t 114) (
      .region false r7_31 [1, 2, 12, 13, 14, 15, 16]) (
      .skip)))))) (
  .region false r7_27 [1, 2, 12, 13, 14, 15, 16]))
abbrev r7_32 : List AOper := [
  ⟨some 17, .mv (.c (.str ⟨#[48]⟩)), none, []⟩]
abbrev r7_33 : List AOper := [
  ⟨some 117, .mv (.t 14), none, []⟩,
  ⟨some 118, .bin .gtr (.t 117) (.c (.int .u64 0)), none, [0]⟩]
abbrev r7_34 : List AOper := [
  ⟨some 17, .mv (.c (.str ⟨#[]⟩)), none, []⟩]
abbrev r7_35 : List AOper := [
  ⟨some 119, .mv (.t 14), none, []⟩,
  ⟨some 120, .bin .gtr (.t 119) (.c (.int .u64 0)), none, [0]⟩]
abbrev r7_36 : List AOper := [
  ⟨some 121, .mv (.t 14), none, []⟩,
  ⟨some 122, .bin .rem (.t 121) (.c (.int .u64 10)), none, [0]⟩,
  ⟨some 123, .bin .add (.c (.int .u64 48)) (.t 122), none, [1]⟩,
  ⟨some 124, .conv (.toInt .u8) (.t 123), none, [2]⟩,
  ⟨some 125, .bslice 5 1 [.int .u8 0] [(0, 1, (.t 124))], none, [3]⟩,
  ⟨some 126, .conv .bytesStr (.t 125), none, [4]⟩,
  ⟨some 127, .mv (.t 17), none, []⟩,
  ⟨some 128, .bin .add (.t 126) (.t 127), none, [5, 6]⟩,
  ⟨some 17, .mv (.t 128), none, [7, 0, 1, 2, 3, 4, 5, 6, 7]⟩]
abbrev r7_37 : List AOper := [
  ⟨some 129, .mv (.t 14), none, []⟩,
  ⟨some 130, .bin .quo (.t 129) (.c (.int .u64 10)), none, [0]⟩,
  ⟨some 14, .mv (.t 130), none, [1, 0, 1]⟩]
def l7_2 : ACode :=
  .seq (
  .seq (
  .region false r7_35 [1, 12, 13, 14, 15, 17, 120]) (
  .cond (.t 120) (
    .skip) (
    .exit 4))) (
  .block 5 (
    .seq (
    .region false r7_36 [1, 12, 13, 14, 15, 17]) (
    .region false r7_37 [1, 12, 13, 14, 15, 17])))
abbrev r7_38 : List AOper := [
  ⟨some 132, .mv (.t 17), none, []⟩,
  ⟨some 133, .bin .add (.t 132) (.c (.str ⟨#[46]⟩)), none, [0]⟩,
  ⟨some 134, .mv (.t 13), none, []⟩,
  ⟨some 135, .bin .add (.t 133) (.t 134), none, [1, 2]⟩,
  ⟨some 136, .callF 10 [(.t 135)], none, [3]⟩,
  ⟨some 131, .mv (.t 136), none, [4]⟩,
  ⟨some 137, .extract (.t 131) 0, none, [5]⟩,
  ⟨some 138, .extract (.t 131) 1, none, [5]⟩,
  ⟨some 11, .mv (.t 137), none, [6, 4, 0, 1, 2, 3, 4, 5, 6]⟩,
  ⟨none, .store 2 (.t 12) (.t 138), none, [7, 8, 0, 1, 2, 3, 4, 5, 6, 7, 8]⟩]
abbrev r7_39 : List AOper := [
  ⟨some 139, .load (some 2) (.t 12), none, []⟩,
  ⟨some 140, .build [.int .i64 0, .int .i64 0] [], none, []⟩,
  ⟨some 141, .eqAgg [1, 1] false (.t 139) (.t 140), none, [0, 1]⟩,
  ⟨some 142, .mv (.t 141), none, [2]⟩,
  ⟨some 143, .mv (.t 11), some (142, true), [3]⟩,
  ⟨some 144, .len 1 (.t 143), some (142, true), [4, 3]⟩,
  ⟨some 145, .bin .eql (.t 144) (.c (.int .i64 2)), some (142, true), [5, 3]⟩,
  ⟨some 146, .pick (.t 142) (.t 145) (.c (.bool false)), none, [3, 6]⟩,
  ⟨some 147, .mv (.t 146), none, [7, 3]⟩,
  ⟨some 148, .mv (.t 11), some (147, true), [8]⟩,
  ⟨some 149, .iaddr 5 (.t 148) (.c (.int .i64 0)), some (147, true), [9, 8]⟩,
  ⟨some 150, .faddr 0 (.t 149), some (147, true), [10, 8]⟩,
  ⟨some 151, .load none (.t 150), some (147, true), [11, 8]⟩,
  ⟨some 152, .bin .eql (.t 151) (.c (.int .i64 4)), some (147, true), [12, 8]⟩,
  ⟨some 153, .pick (.t 147) (.t 152) (.c (.bool false)), none, [8, 13]⟩,
  ⟨some 154, .mv (.t 153), none, [14, 8]⟩,
  ⟨some 155, .mv (.t 11), some (154, true), [15]⟩,
  ⟨some 156, .iaddr 5 (.t 155) (.c (.int .i64 0)), some (154, true), [16, 15]⟩,
  ⟨some 157, .faddr 3 (.t 156), some (154, true), [17, 15]⟩,
  ⟨some 158, .load none (.t 157), some (154, true), [18, 15]⟩,
  ⟨some 159, .mv (.t 1), some (154, true), [15]⟩,
  ⟨some 160, .conv (.toFlt .f64) (.t 159), some (154, true), [20, 15]⟩,
  ⟨some 161, .mv (.t 15), some (154, true), [15]⟩,
  ⟨some 162, .bin .mul (.t 161) (.c (.flt .f64 4621819117588971520)), some (154, true), [22, 15]⟩,
  ⟨some 163, .bin .quo (.t 160) (.t 162), some (154, true), [21, 23, 15]⟩,
  ⟨some 164, .bin .eql (.t 158) (.t 163), some (154, true), [19, 24, 15]⟩,
  ⟨some 165, .pick (.t 154) (.t 164) (.c (.bool false)), none, [15, 25]⟩,
  ⟨some 6, .mv (.t 165), none, [26, 15, 0, 1, 2, 3, 4, 5, 6, 7, 8, 9, 10, 11, 12, 13, 14, 15, 16, 17, 18, 19, 20, 21, 22, 23, 24, 25, 26]⟩]
def k7 : List (List Nat) := [[0, 1, 2], [0, 1, 2, 19], [6], [0, 1, 2, 7], [0, 1, 2, 7, 8], [0, 1, 2, 7, 8, 21], [0, 1, 2, 7, 8], [0, 1, 2, 7, 8, 9], [0, 1, 2, 7, 8, 9, 31], [0, 1, 2, 7, 8], [0, 1, 2, 7, 8], [0, 1, 2, 7, 10], [0, 1, 2, 10, 11, 12], [0, 1, 2, 11, 12, 55], [1, 2, 12, 63], [6], [1, 2, 12, 87], [6], [1, 2, 12], [1, 2, 12], [1, 2, 12, 93], [1, 2, 12], [1, 2, 12, 13], [1, 2, 12, 13, 14], [1, 2, 12, 13, 14, 15], [1, 2, 12, 13, 14, 15, 16], [1, 2, 12, 13, 14, 15, 16, 99], [1, 2, 12, 13, 14, 15, 16], [1, 2, 12, 13, 14, 15, 16], [1, 2, 12, 13, 14, 15, 16], [1, 2, 12, 13, 14, 15, 16, 114], [1, 2, 12, 13, 14, 15, 16], [1, 12, 13, 14, 15, 17], [1, 12, 13, 14, 15, 17, 118], [1, 12, 13, 14, 15, 17], [1, 12, 13, 14, 15, 17, 120], [1, 12, 13, 14, 15, 17], [1, 12, 13, 14, 15, 17], [1, 11, 12, 15], [6]]
def f7 : AFunc := { ntmps := 166, results := [.tmp 6], body := (
  .seq (
  .region false r7_0 [0, 1, 2]) (
  .seq (
  .seq (
  .region false r7_1 [0, 1, 2, 19]) (
  .cond (.t 19) (
    .seq (
    .region false r7_2 [6]) (
    .ret)) (
    .skip))) (
  .seq (
  .region false r7_3 [0, 1, 2, 7]) (
  .seq (
  .seq (
  .region false r7_4 [0, 1, 2, 7, 8]) (
  .block 0 (
    .loop l7_0))) (
  .seq (
  .region false r7_11 [0, 1, 2, 7, 10]) (
  .seq (
  .region false r7_12 [0, 1, 2, 10, 11, 12]) (
  .seq (
  .seq (
  .region false r7_13 [0, 1, 2, 11, 12, 55]) (
  .cond (.t 55) (
    .seq (
    .region false r7_14 [1, 2, 12, 63]) (
    .cond (.t 63) (
      .seq (
      .region false r7_15 [6]) (
      .ret)) (
      .skip))) (
    .seq (
    .region false r7_16 [1, 2, 12, 87]) (
    .cond (.t 87) (
      .seq (
      .region false r7_17 [6]) (
      .ret)) (
      .skip))))) (
  .seq (
  .region false r7_18 [1, 2, 12]) (
  .seq (
  .region false r7_19 [1, 2, 12]) (
  .seq (
  .seq (
  .region false r7_20 [1, 2, 12, 93]) (
  .cond (.t 93) (
    .region false r7_21 [1, 2, 12]) (
    .skip))) (
  .seq (
  .region false r7_22 [1, 2, 12, 13]) (
  .seq (
  .region false r7_23 [1, 2, 12, 13, 14]) (
  .seq (
  .region false r7_24 [1, 2, 12, 13, 14, 15]) (
  .seq (
  .seq (
  .region false r7_25 [1, 2, 12, 13, 14, 15, 16]) (
  .block 2 (
    .loop l7_1))) (
  .seq (
  .region false r7_32 [1, 12, 13, 14, 15, 17]) (
  .seq (
  .seq (
  .region false r7_33 [1, 12, 13, 14, 15, 17, 118]) (
  .cond (.t 118) (
    .region false r7_34 [1, 12, 13, 14, 15, 17]) (
    .skip))) (
  .seq (
  .block 4 (
    .loop l7_2)) (
  .seq (
  .region false r7_38 [1, 11, 12, 15]) (
  .seq (
  .region false r7_39 [6]) (
  .ret)))))))))))))))))))) }
theorem c7 : cfunc Tryd.prog (kof k7) Tryd.f7 = some f7 := by kernel_rfl

/-- exitwave/exitwavelaw5.LexTerms -/
abbrev r8_0 : List AOper := [
  ⟨some 1, .box 44 (.t 0), none, []⟩,
  ⟨some 2, .mv (.c (.bool false)), none, []⟩]
abbrev r8_1 : List AOper := [
  ⟨some 9, .callF 9 [], none, []⟩,
  ⟨some 10, .un .not (.t 9), none, [0]⟩]
abbrev r8_2 : List AOper := [
  ⟨some 2, .mv (.c (.bool false)), none, []⟩]
abbrev r8_3 : List AOper := [
  ⟨some 11, .load (some 5) (.t 1), none, []⟩,
  ⟨some 12, .callF 17 [(.t 11)], none, [0]⟩,
  ⟨some 13, .un .not (.t 12), none, [1]⟩,
  ⟨some 14, .mv (.t 13), none, [2, 1]⟩,
  ⟨some 15, .load (some 5) (.t 1), some (14, false), [3]⟩,
  ⟨some 16, .callF 18 [(.t 15)], some (14, false), [4, 3, 3]⟩,
  ⟨some 17, .un .not (.t 16), some (14, false), [5, 3]⟩,
  ⟨some 18, .pick (.t 14) (.c (.bool true)) (.t 17), none, [3, 6]⟩]
abbrev r8_4 : List AOper := [
  ⟨some 2, .mv (.c (.bool true)), none, []⟩]
abbrev r8_5 : List AOper := [
  ⟨some 19, .load (some 5) (.t 1), none, []⟩,
  ⟨some 20, .callF 19 [(.t 19)], none, [0]⟩,
  ⟨some 3, .mv (.t 20), none, [1, 1, 0, 1]⟩]
abbrev r8_6 : List AOper := [
  ⟨some 21, .mv (.t 3), none, []⟩,
  ⟨some 22, .len 0 (.t 21), none, [0]⟩,
  ⟨some 23, .bin .gtr (.t 22) (.c (.int .i64 16384)), none, [1]⟩]
abbrev r8_7 : List AOper := [
  ⟨some 2, .mv (.c (.bool true)), none, []⟩]
abbrev r8_8 : List AOper := [
  ⟨some 25, .mv (.t 3), none, []⟩,
  ⟨some 26, .callF 10 [(.t 25)], none, [0]⟩,
  ⟨some 24, .mv (.t 26), none, [1]⟩,
  ⟨some 27, .extract (.t 24) 0, none, [2]⟩,
  ⟨some 28, .extract (.t 24) 1, none, [2]⟩,
  ⟨some 5, .alloc 26 (.agg [.int .i64 0, .int .i64 0]), none, []⟩,
  ⟨some 4, .mv (.t 27), none, [3, 1, 0, 1, 2, 3, 5]⟩,
  ⟨none, .store 2 (.t 5) (.t 28), none, [5, 4, 6, 0, 1, 2, 3, 4, 5, 6]⟩]
abbrev r8_9 : List AOper := [
  ⟨some 29, .load (some 2) (.t 5), none, []⟩,
  ⟨some 30, .build [.int .i64 0, .int .i64 0] [], none, []⟩,
  ⟨some 31, .eqAgg [1, 1] true (.t 29) (.t 30), none, [0, 1]⟩]
abbrev r8_10 : List AOper := [
  ⟨some 2, .mv (.c (.bool false)), none, []⟩]
abbrev r8_11 : List AOper := [
  ⟨some 6, .mv (.c (.nils)), none, []⟩]
abbrev r8_12 : List AOper := [
  ⟨some 7, .mv (.c (.int .i64 0)), none, []⟩]
abbrev r8_13 : List AOper := [
  ⟨some 32, .mv (.t 7), none, []⟩,
  ⟨some 33, .bin .add (.t 32) (.c (.int .i64 1)), none, [0]⟩,
  ⟨some 34, .mv (.t 4), none, []⟩,
  ⟨some 35, .len 1 (.t 34), none, [2]⟩,
  ⟨some 36, .bin .lss (.t 33) (.t 35), none, [1, 3]⟩]
abbrev r8_15 : List AOper := [
  ⟨some 39, .mv (.t 4), none, []⟩,
  ⟨some 40, .mv (.t 7), none, []⟩,
  ⟨some 41, .iaddr 5 (.t 39) (.t 40), none, [0, 1]⟩,
  ⟨some 42, .load (some 5) (.t 41), none, [2]⟩,
  ⟨some 8, .alloc 35 (.agg [.int .i64 0, .str ⟨#[]⟩, .int .i64 0, .flt .f64 0, .int .i64 0]), none, []⟩,
  ⟨none, .store 5 (.t 8) (.t 42), none, [4, 3, 0, 1, 2, 3, 4]⟩]
abbrev r8_16 : List AOper := [
  ⟨some 43, .faddr 4 (.t 8), none, []⟩,
  ⟨none, .store 1 (.t 43) (.c (.int .i64 0)), none, [0]⟩]
abbrev r8_17 : List AOper := [
  ⟨some 44, .faddr 0 (.t 8), none, []⟩,
  ⟨some 45, .load none (.t 44), none, [0]⟩,
  ⟨some 46, .bin .eql (.t 45) (.c (.int .i64 6)), none, [1]⟩,
  ⟨some 47, .mv (.t 46), none, [2]⟩,
  ⟨some 48, .faddr 1 (.t 8), some (47, true), [3]⟩,
  ⟨some 49, .load none (.t 48), some (47, true), [4, 3]⟩,
  ⟨some 50, .bin .neq (.t 49) (.c (.str ⟨#[45]⟩)), some (47, true), [5, 3]⟩,
  ⟨some 51, .pick (.t 47) (.t 50) (.c (.bool false)), none, [3, 6]⟩]
abbrev r8_18 : List AOper := [
  ⟨some 52, .faddr 1 (.t 8), none, []⟩,
  ⟨some 53, .load none (.t 52), none, [0]⟩,
  ⟨some 54, .bin .neq (.t 53) (.c (.str ⟨#[123]⟩)), none, [1]⟩,
  ⟨some 55, .mv (.t 54), none, [2]⟩,
  ⟨some 56, .faddr 1 (.t 8), some (55, true), [3]⟩,
  ⟨some 57, .load none (.t 56), some (55, true), [4, 3]⟩,
  ⟨some 58, .bin .neq (.t 57) (.c (.str ⟨#[125]⟩)), some (55, true), [5, 3]⟩,
  ⟨some 59, .pick (.t 55) (.t 58) (.c (.bool false)), none, [3, 6]⟩,
  ⟨some 60, .mv (.t 59), none, [7, 3]⟩,
  ⟨some 61, .faddr 1 (.t 8), some (60, true), [8]⟩,
  ⟨some 62, .load none (.t 61), some (60, true), [9, 8]⟩,
  ⟨some 63, .bin .neq (.t 62) (.c (.str ⟨#[91]⟩)), some (60, true), [10, 8]⟩,
  ⟨some 64, .pick (.t 60) (.t 63) (.c (.bool false)), none, [8, 11]⟩,
  ⟨some 65, .mv (.t 64), none, [12, 8]⟩,
  ⟨some 66, .faddr 1 (.t 8), some (65, true), [13]⟩,
  ⟨some 67, .load none (.t 66), some (65, true), [14, 13]⟩,
  ⟨some 68, .bin .neq (.t 67) (.c (.str ⟨#[93]⟩)), some (65, true), [15, 13]⟩,
  ⟨some 69, .pick (.t 65) (.t 68) (.c (.bool false)), none, [13, 16]⟩,
  ⟨some 70, .mv (.t 69), none, [17, 13]⟩,
  ⟨some 71, .faddr 1 (.t 8), some (70, true), [18]⟩,
  ⟨some 72, .load none (.t 71), some (70, true), [19, 18]⟩,
  ⟨some 73, .bin .neq (.t 72) (.c (.str ⟨#[44]⟩)), some (70, true), [20, 18]⟩,
  ⟨some 74, .pick (.t 70) (.t 73) (.c (.bool false)), none, [18, 21]⟩]
abbrev r8_19 : List AOper := [
  ⟨some 2, .mv (.c (.bool false)), none, []⟩]
abbrev r8_20 : List AOper := [
  ⟨some 75, .mv (.t 6), none, []⟩,
  ⟨some 76, .load (some 5) (.t 8), none, []⟩,
  ⟨some 77, .bslice 35 1 [.int .i64 0, .str ⟨#[]⟩, .int .i64 0, .flt .f64 0, .int .i64 0] [(0, 5, (.t 76))], none, [1]⟩,
  ⟨some 78, .app 35 5 48 (.t 75) (.t 77), none, [0, 2]⟩,
  ⟨some 6, .mv (.t 78), none, [3, 3, 0, 1, 2, 3]⟩]
abbrev r8_14 : List AOper := [
  ⟨some 37, .mv (.t 7), none, []⟩,
  ⟨some 38, .bin .add (.t 37) (.c (.int .i64 1)), none, [0]⟩,
  ⟨some 7, .mv (.t 38), none, [1, 0, 1]⟩]
def l8_0 : ACode :=
  .seq (
  .seq (
  .region false r8_13 [1, 4, 6, 7, 36]) (
  .cond (.t 36) (
    .skip) (
    .exit 0))) (
  .seq (
  .block 1 (
    .seq (
    .region false r8_15 [1, 4, 6, 7, 8]) (
    .seq (
    .region false r8_16 [1, 4, 6, 7, 8]) (
    .seq (
    .seq (
    .region false r8_17 [1, 4, 6, 7, 8, 51]) (
    .cond (.t 51) (
      .seq (
      .seq (
      .region false r8_18 [1, 4, 6, 7, 74]) (
      .cond (.t 74) (
        .seq (
        .region false r8_19 [2]) (
        .ret)) (
        .skip))) (
      .exit 1)) (
      .skip))) (
    .region false r8_20 [1, 4, 6, 7]))))) (
  .region false r8_14 [1, 4, 6, 7]))
abbrev r8_21 : List AOper := [
  ⟨some 79, .mv (.t 6), none, []⟩,
  ⟨some 80, .load (some 5) (.t 1), none, []⟩,
  ⟨some 81, .callF 20 [(.t 80), (.c (.nils))], none, [1]⟩,
  ⟨some 82, .callF 12 [(.t 79), (.t 81), (.c (.bool true))], none, [0, 2, 2]⟩,
  ⟨some 2, .mv (.t 82), none, [3, 3, 0, 1, 2, 3]⟩]
def k8 : List (List Nat) := [[1], [1, 10], [2], [1, 18], [2], [1, 3], [1, 3, 23], [2], [1, 4, 5], [1, 4, 31], [2], [1, 4, 6], [1, 4, 6, 7], [1, 4, 6, 7, 36], [1, 4, 6, 7], [1, 4, 6, 7, 8], [1, 4, 6, 7, 8], [1, 4, 6, 7, 8, 51], [1, 4, 6, 7, 74], [2], [1, 4, 6, 7], [2]]
def f8 : AFunc := { ntmps := 83, results := [.tmp 2], body := (
  .seq (
  .region false r8_0 [1]) (
  .seq (
  .seq (
  .region false r8_1 [1, 10]) (
  .cond (.t 10) (
    .seq (
    .region false r8_2 [2]) (
    .ret)) (
    .skip))) (
  .seq (
  .seq (
  .region false r8_3 [1, 18]) (
  .cond (.t 18) (
    .seq (
    .region false r8_4 [2]) (
    .ret)) (
    .skip))) (
  .seq (
  .region false r8_5 [1, 3]) (
  .seq (
  .seq (
  .region false r8_6 [1, 3, 23]) (
  .cond (.t 23) (
    .seq (
    .region false r8_7 [2]) (
    .ret)) (
    .skip))) (
  .seq (
  .region false r8_8 [1, 4, 5]) (
  .seq (
  .seq (
  .region false r8_9 [1, 4, 31]) (
  .cond (.t 31) (
    .seq (
    .region false r8_10 [2]) (
    .ret)) (
    .skip))) (
  .seq (
  .region false r8_11 [1, 4, 6]) (
  .seq (
  .seq (
  .region false r8_12 [1, 4, 6, 7]) (
  .block 0 (
    .loop l8_0))) (
  .seq (
  .region false r8_21 [2]) (
  .ret))))))))))) }
theorem c8 : cfunc Tryd.prog (kof k8) Tryd.f8 = some f8 := by kernel_rfl

/-- exitwave/exitwavelaw5.known -/
abbrev r9_0 : List AOper := [
  ⟨some 0, .mv (.c (.bool false)), none, []⟩]
abbrev r9_1 : List AOper := [
  ⟨some 4, .callF 10 [(.c (.str ⟨#[102, 40, 88, 41, 45, 62, 88, 43, 49, 46, 53, 46, 37, 101]⟩))], none, []⟩,
  ⟨some 3, .mv (.t 4), none, [0]⟩,
  ⟨some 5, .extract (.t 3) 0, none, [1]⟩,
  ⟨some 6, .extract (.t 3) 1, none, [1]⟩,
  ⟨some 2, .alloc 26 (.agg [.int .i64 0, .int .i64 0]), none, []⟩,
  ⟨some 1, .mv (.t 5), none, [2, 0, 0, 1, 2, 4]⟩,
  ⟨none, .store 2 (.t 2) (.t 6), none, [4, 3, 5, 0, 1, 2, 3, 4, 5]⟩]
abbrev r9_2 : List AOper := [
  ⟨some 7, .load (some 2) (.t 2), none, []⟩,
  ⟨some 8, .build [.int .i64 0, .int .i64 0] [], none, []⟩,
  ⟨some 9, .eqAgg [1, 1] false (.t 7) (.t 8), none, [0, 1]⟩,
  ⟨some 10, .mv (.t 9), none, [2]⟩,
  ⟨some 11, .mv (.t 1), some (10, true), [3]⟩,
  ⟨some 12, .len 1 (.t 11), some (10, true), [4, 3]⟩,
  ⟨some 13, .bin .eql (.t 12) (.c (.int .i64 10)), some (10, true), [5, 3]⟩,
  ⟨some 14, .pick (.t 10) (.t 13) (.c (.bool false)), none, [3, 6]⟩,
  ⟨some 15, .mv (.t 14), none, [7, 3]⟩,
  ⟨some 16, .mv (.t 1), some (15, true), [8]⟩,
  ⟨some 17, .iaddr 5 (.t 16) (.c (.int .i64 7)), some (15, true), [9, 8]⟩,
  ⟨some 18, .faddr 0 (.t 17), some (15, true), [10, 8]⟩,
  ⟨some 19, .load none (.t 18), some (15, true), [11, 8]⟩,
  ⟨some 20, .bin .eql (.t 19) (.c (.int .i64 4)), some (15, true), [12, 8]⟩,
  ⟨some 21, .pick (.t 15) (.t 20) (.c (.bool false)), none, [8, 13]⟩,
  ⟨some 22, .mv (.t 21), none, [14, 8]⟩,
  ⟨some 23, .mv (.t 1), some (22, true), [15]⟩,
  ⟨some 24, .iaddr 5 (.t 23) (.c (.int .i64 7)), some (22, true), [16, 15]⟩,
  ⟨some 25, .faddr 3 (.t 24), some (22, true), [17, 15]⟩,
  ⟨some 26, .load none (.t 25), some (22, true), [18, 15]⟩,
  ⟨some 27, .bin .eql (.t 26) (.c (.flt .f64 4609434218613702656)), some (22, true), [19, 15]⟩,
  ⟨some 28, .pick (.t 22) (.t 27) (.c (.bool false)), none, [15, 20]⟩,
  ⟨some 29, .mv (.t 28), none, [21, 15]⟩,
  ⟨some 30, .mv (.t 1), some (29, true), [22]⟩,
  ⟨some 31, .iaddr 5 (.t 30) (.c (.int .i64 9)), some (29, true), [23, 22]⟩,
  ⟨some 32, .faddr 0 (.t 31), some (29, true), [24, 22]⟩,
  ⟨some 33, .load none (.t 32), some (29, true), [25, 22]⟩,
  ⟨some 34, .bin .eql (.t 33) (.c (.int .i64 8)), some (29, true), [26, 22]⟩,
  ⟨some 35, .pick (.t 29) (.t 34) (.c (.bool false)), none, [22, 27]⟩,
  ⟨some 36, .mv (.t 35), none, [28, 22]⟩,
  ⟨some 37, .mv (.t 1), some (36, true), [29]⟩,
  ⟨some 38, .iaddr 5 (.t 37) (.c (.int .i64 9)), some (36, true), [30, 29]⟩,
  ⟨some 39, .faddr 4 (.t 38), some (36, true), [31, 29]⟩,
  ⟨some 40, .load none (.t 39), some (36, true), [32, 29]⟩,
  ⟨some 41, .bin .eql (.t 40) (.c (.int .i64 14)), some (36, true), [33, 29]⟩,
  ⟨some 42, .pick (.t 36) (.t 41) (.c (.bool false)), none, [29, 34]⟩,
  ⟨some 43, .mv (.t 42), none, [35, 29]⟩,
  ⟨some 44, .callF 13 [(.c (.str ⟨#[101, 110, 100]⟩))], some (43, true), [36, 36]⟩,
  ⟨some 45, .pick (.t 43) (.t 44) (.c (.bool false)), none, [36, 37]⟩,
  ⟨some 46, .mv (.t 45), none, [38, 37]⟩,
  ⟨some 47, .callF 13 [(.c (.str ⟨#[101, 110, 100, 115]⟩))], some (46, true), [39, 39]⟩,
  ⟨some 48, .un .not (.t 47), some (46, true), [40, 39]⟩,
  ⟨some 49, .pick (.t 46) (.t 48) (.c (.bool false)), none, [39, 41]⟩,
  ⟨some 0, .mv (.t 49), none, [42, 40, 0, 1, 2, 3, 4, 5, 6, 7, 8, 9, 10, 11, 12, 13, 14, 15, 16, 17, 18, 19, 20, 21, 22, 23, 24, 25, 26, 27, 28, 29, 30, 31, 32, 33, 34, 35, 36, 37, 38, 39, 40, 41, 42]⟩]
def k9 : List (List Nat) := [[], [1, 2], [0]]
def f9 : AFunc := { ntmps := 50, results := [.tmp 0], body := (
  .seq (
  .region false r9_0 []) (
  .seq (
  .region false r9_1 [1, 2]) (
  .seq (
  .region false r9_2 [0]) (
  .ret)))) }
theorem c9 : cfunc Tryd.prog (kof k9) Tryd.f9 = some f9 := by kernel_rfl

/-- exitwave/lex.Tokens -/
abbrev r10_0 : List AOper := [
  ⟨some 2, .mv (.c (.nils)), none, []⟩,
  ⟨some 3, .alloc 26 (.agg [.int .i64 0, .int .i64 0]), none, []⟩]
abbrev r10_1 : List AOper := [
  ⟨some 9, .mv (.t 0), none, []⟩,
  ⟨some 10, .len 0 (.t 9), none, [0]⟩,
  ⟨some 11, .bin .gtr (.t 10) (.c (.int .i64 65536)), none, [1]⟩]
abbrev r10_2 : List AOper := [
  ⟨some 12, .build [.int .i64 0, .int .i64 0] [(0, 1, (.c (.int .i64 3)))], none, []⟩,
  ⟨some 2, .mv (.c (.nils)), none, []⟩,
  ⟨none, .store 2 (.t 3) (.t 12), none, [0, 1, 0, 1]⟩]
abbrev r10_3 : List AOper := [
  ⟨some 13, .mv (.t 0), none, []⟩,
  ⟨some 14, .build [.str ⟨#[]⟩, .int .i64 0, .int .i64 0] [(0, 1, (.t 13))], none, [0]⟩,
  ⟨some 15, .box 50 (.t 14), none, [1]⟩,
  ⟨some 4, .mv (.t 15), none, [2, 0, 1, 2]⟩]
abbrev r10_4 : List AOper := [
  ⟨some 5, .mv (.c (.nils)), none, []⟩]
abbrev r10_5 : List AOper := [
  ⟨some 16, .mv (.t 4), none, []⟩,
  ⟨some 17, .nilchk (.t 16), none, [0]⟩,
  ⟨some 18, .faddr 1 (.t 17), none, [1]⟩,
  ⟨some 19, .load none (.t 18), none, [2]⟩,
  ⟨some 20, .mv (.t 0), none, []⟩,
  ⟨some 21, .len 0 (.t 20), none, [4]⟩,
  ⟨some 22, .bin .lss (.t 19) (.t 21), none, [3, 5]⟩]
abbrev r10_6 : List AOper := [
  ⟨some 23, .mv (.t 0), none, []⟩,
  ⟨some 24, .mv (.t 4), none, []⟩,
  ⟨some 25, .nilchk (.t 24), none, [1]⟩,
  ⟨some 26, .faddr 1 (.t 25), none, [2]⟩,
  ⟨some 27, .load none (.t 26), none, [3]⟩,
  ⟨some 28, .idxS (.t 23) (.t 27), none, [0, 4]⟩,
  ⟨some 6, .mv (.t 28), none, [5, 0, 1, 2, 3, 4, 5]⟩]
abbrev r10_7 : List AOper := [
  ⟨some 30, .mv (.t 6), none, []⟩,
  ⟨some 31, .bin .eql (.t 30) (.c (.int .u8 32)), none, [0]⟩,
  ⟨some 32, .mv (.t 31), none, [1]⟩,
  ⟨some 33, .mv (.t 6), some (32, false), [2]⟩,
  ⟨some 34, .bin .eql (.t 33) (.c (.int .u8 9)), some (32, false), [3, 2]⟩,
  ⟨some 35, .pick (.t 32) (.c (.bool true)) (.t 34), none, [2, 4]⟩,
  ⟨some 36, .mv (.t 35), none, [5, 2]⟩,
  ⟨some 37, .mv (.t 6), some (36, false), [6]⟩,
  ⟨some 38, .bin .eql (.t 37) (.c (.int .u8 10)), some (36, false), [7, 6]⟩,
  ⟨some 39, .pick (.t 36) (.c (.bool true)) (.t 38), none, [6, 8]⟩,
  ⟨some 40, .mv (.t 39), none, [9, 6]⟩,
  ⟨some 41, .mv (.t 6), some (40, false), [10]⟩,
  ⟨some 42, .bin .eql (.t 41) (.c (.int .u8 13)), some (40, false), [11, 10]⟩,
  ⟨some 43, .pick (.t 40) (.c (.bool true)) (.t 42), none, [10, 12]⟩,
  ⟨some 29, .mv (.t 43), none, [13, 10]⟩]
abbrev r10_8 : List AOper := [
  ⟨some 44, .mv (.t 4), none, []⟩,
  ⟨some 45, .nilchk (.t 44), none, [0]⟩,
  ⟨some 46, .faddr 1 (.t 45), none, [1]⟩,
  ⟨some 47, .load none (.t 46), none, [2]⟩,
  ⟨some 48, .bin .add (.t 47) (.c (.int .i64 1)), none, [3]⟩,
  ⟨some 49, .nilchk (.t 44), none, [0, 0, 1, 2, 3, 4]⟩,
  ⟨some 50, .faddr 1 (.t 49), none, [5, 0, 1, 2, 3, 4]⟩,
  ⟨none, .store 1 (.t 50) (.t 48), none, [6, 4, 0, 1, 2, 3, 4]⟩]
abbrev r10_9 : List AOper := [
  ⟨some 52, .mv (.t 6), none, []⟩,
  ⟨some 53, .bin .eql (.t 52) (.c (.int .u8 37)), none, [0]⟩,
  ⟨some 51, .mv (.t 53), none, [1]⟩]
abbrev r10_10 : List AOper := [
  ⟨some 54, .mv (.t 4), none, []⟩,
  ⟨some 55, .mv (.t 4), none, []⟩,
  ⟨some 56, .mv (.t 4), none, []⟩,
  ⟨some 57, .nilchk (.t 56), none, [2]⟩,
  ⟨some 58, .faddr 1 (.t 57), none, [3]⟩,
  ⟨some 59, .load none (.t 58), none, [4]⟩,
  ⟨some 60, .callF 21 [(.t 55), (.t 59), (.c (.fn (.func 22) [] []))], none, [1, 5]⟩,
  ⟨some 61, .nilchk (.t 54), none, [0, 0, 1, 2, 3, 4, 5, 6]⟩,
  ⟨some 62, .faddr 1 (.t 61), none, [7, 0, 1, 2, 3, 4, 5, 6]⟩,
  ⟨none, .store 1 (.t 62) (.t 60), none, [8, 6, 6, 0, 1, 2, 3, 4, 5, 6]⟩]
abbrev r10_11 : List AOper := [
  ⟨some 64, .mv (.t 4), none, []⟩,
  ⟨some 65, .callF 23 [(.t 64)], none, [0]⟩,
  ⟨some 63, .mv (.t 65), none, [1]⟩,
  ⟨some 66, .extract (.t 63) 0, none, [2]⟩,
  ⟨some 67, .extract (.t 63) 1, none, [2]⟩,
  ⟨some 7, .alloc 35 (.agg [.int .i64 0, .str ⟨#[]⟩, .int .i64 0, .flt .f64 0, .int .i64 0]), none, []⟩,
  ⟨none, .store 5 (.t 7) (.t 66), none, [5, 3, 1, 0, 1, 2, 3, 5]⟩,
  ⟨some 8, .mv (.t 67), none, [4, 6, 0, 1, 2, 3, 4, 5, 6]⟩]
abbrev r10_12 : List AOper := [
  ⟨some 68, .mv (.t 4), none, []⟩,
  ⟨some 69, .nilchk (.t 68), none, [0]⟩,
  ⟨some 70, .faddr 2 (.t 69), none, [1]⟩,
  ⟨some 71, .load none (.t 70), none, [2]⟩,
  ⟨some 72, .bin .neq (.t 71) (.c (.int .i64 0)), none, [3]⟩]
abbrev r10_13 : List AOper := [
  ⟨some 73, .mv (.t 4), none, []⟩,
  ⟨some 74, .nilchk (.t 73), none, [0]⟩,
  ⟨some 75, .faddr 2 (.t 74), none, [1]⟩,
  ⟨some 76, .load none (.t 75), none, [2]⟩,
  ⟨some 77, .mv (.t 4), none, []⟩,
  ⟨some 78, .nilchk (.t 77), none, [4]⟩,
  ⟨some 79, .faddr 1 (.t 78), none, [5]⟩,
  ⟨some 80, .load none (.t 79), none, [6]⟩,
  ⟨some 81, .build [.int .i64 0, .int .i64 0] [(0, 1, (.t 76)), (1, 1, (.t 80))], none, [3, 7]⟩,
  ⟨some 2, .mv (.c (.nils)), none, []⟩,
  ⟨none, .store 2 (.t 3) (.t 81), none, [8, 9, 0, 1, 2, 3, 4, 5, 6, 7, 8, 9]⟩]
abbrev r10_14 : List AOper := [
  ⟨some 82, .mv (.t 4), none, []⟩,
  ⟨some 83, .nilchk (.t 82), none, [0]⟩,
  ⟨some 84, .faddr 1 (.t 83), none, [1]⟩,
  ⟨some 85, .load none (.t 84), none, [2]⟩,
  ⟨some 86, .faddr 4 (.t 7), none, [0, 1, 2, 3]⟩,
  ⟨none, .store 1 (.t 86) (.t 85), none, [4, 3, 0, 1, 2, 3]⟩]
abbrev r10_15 : List AOper := [
  ⟨some 87, .mv (.t 5), none, []⟩,
  ⟨some 88, .load (some 5) (.t 7), none, []⟩,
  ⟨some 89, .bslice 35 1 [.int .i64 0, .str ⟨#[]⟩, .int .i64 0, .flt .f64 0, .int .i64 0] [(0, 5, (.t 88))], none, [1]⟩,
  ⟨some 90, .app 35 5 48 (.t 87) (.t 89), none, [0, 2]⟩,
  ⟨some 5, .mv (.t 90), none, [3, 3, 0, 1, 2, 3]⟩]
abbrev r10_16 : List AOper := [
  ⟨some 91, .mv (.t 4), none, []⟩,
  ⟨some 92, .mv (.t 8), none, []⟩,
  ⟨some 93, .nilchk (.t 91), none, [0, 0, 1]⟩,
  ⟨some 94, .faddr 1 (.t 93), none, [2, 0, 1]⟩,
  ⟨none, .store 1 (.t 94) (.t 92), none, [3, 1, 0, 1]⟩]
def l10_0 : ACode :=
  .seq (
  .seq (
  .region false r10_5 [0, 3, 4, 5, 22]) (
  .cond (.t 22) (
    .skip) (
    .exit 0))) (
  .block 1 (
    .seq (
    .seq (
    .region false r10_6 [0, 3, 4, 5, 6]) (
    .block 2 (
      .seq (
      .region false r10_7 [0, 3, 4, 5, 6, 29]) (
      .cond (.t 29) (
        .seq (
        .region false r10_8 [0, 3, 4, 5]) (
        .exit 1)) (
        .seq (
        .region false r10_9 [0, 3, 4, 5, 51]) (
        .cond (.t 51) (
          .seq (
          .region false r10_10 [0, 3, 4, 5]) (
          .exit 1)) (
          .skip))))))) (
    .seq (
    .region false r10_11 [0, 3, 4, 5, 7, 8]) (
    .seq (
    .seq (
    .region false r10_12 [0, 3, 4, 5, 7, 8, 72]) (
    .cond (.t 72) (
      .seq (
      .region true r10_13 [2, 3]) (
      .ret)) (
      .skip))) (
    .seq (
    .region false r10_14 [0, 3, 4, 5, 7, 8]) (
    .seq (
    .region false r10_15 [0, 3, 4, 5, 8]) (
    .region false r10_16 [0, 3, 4, 5])))))))
abbrev r10_17 : List AOper := [
  ⟨some 95, .mv (.t 5), none, []⟩,
  ⟨some 96, .mv (.t 0), none, []⟩,
  ⟨some 97, .len 0 (.t 96), none, [1]⟩,
  ⟨some 98, .build [.int .i64 0, .str ⟨#[]⟩, .int .i64 0, .flt .f64 0, .int .i64 0] [(0, 1, (.c (.int .i64 8))), (4, 1, (.t 97))], none, [2]⟩,
  ⟨some 99, .bslice 35 1 [.int .i64 0, .str ⟨#[]⟩, .int .i64 0, .flt .f64 0, .int .i64 0] [(0, 5, (.t 98))], none, [3]⟩,
  ⟨some 100, .app 35 5 48 (.t 95) (.t 99), none, [0, 4]⟩,
  ⟨some 101, .build [.int .i64 0, .int .i64 0] [], none, []⟩,
  ⟨some 2, .mv (.t 100), none, [5, 5, 0, 1, 2, 3, 4, 5]⟩,
  ⟨none, .store 2 (.t 3) (.t 101), none, [6, 7, 0, 1, 2, 3, 4, 5, 6, 7]⟩]
def m10_13 : List Nat := [0, 1, 3, 7, 0, 16, 48, 112, 255, 0, 1023]
theorem d10_13 : okDraw r10_13 m10_13 = true := by kernel_rfl
def k10 : List (List Nat) := [[0, 3], [0, 3, 11], [2, 3], [0, 3, 4], [0, 3, 4, 5], [0, 3, 4, 5, 22], [0, 3, 4, 5, 6], [0, 3, 4, 5, 6, 29], [0, 3, 4, 5], [0, 3, 4, 5, 51], [0, 3, 4, 5], [0, 3, 4, 5, 7, 8], [0, 3, 4, 5, 7, 8, 72], [2, 3], [0, 3, 4, 5, 7, 8], [0, 3, 4, 5, 8], [0, 3, 4, 5], [2, 3]]
def f10 : AFunc := { ntmps := 102, results := [.tmp 2, .cell 3 (some 2)], body := (
  .seq (
  .region false r10_0 [0, 3]) (
  .scope (
    .seq (
    .seq (
    .region false r10_1 [0, 3, 11]) (
    .cond (.t 11) (
      .seq (
      .region false r10_2 [2, 3]) (
      .ret)) (
      .skip))) (
    .seq (
    .region false r10_3 [0, 3, 4]) (
    .seq (
    .region false r10_4 [0, 3, 4, 5]) (
    .seq (
    .label 0) (
    .seq (
    .block 0 (
      .loop l10_0)) (
    .seq (
    .region false r10_17 [2, 3]) (
    .ret))))))))) }
theorem c10 : cfunc Tryd.prog (kof k10) Tryd.f10 = some f10 := by kernel_rfl

/-- exitwave/exitwaveref5.Tokens -/
abbrev r11_0 : List AOper := [
  ⟨some 2, .mv (.c (.nils)), none, []⟩,
  ⟨some 3, .alloc 26 (.agg [.int .i64 0, .int .i64 0]), none, []⟩]
abbrev r11_1 : List AOper := [
  ⟨some 9, .mv (.t 0), none, []⟩,
  ⟨some 10, .len 0 (.t 9), none, [0]⟩,
  ⟨some 11, .bin .gtr (.t 10) (.c (.int .i64 65536)), none, [1]⟩]
abbrev r11_2 : List AOper := [
  ⟨some 12, .build [.int .i64 0, .int .i64 0] [(0, 1, (.c (.int .i64 3)))], none, []⟩,
  ⟨some 2, .mv (.c (.nils)), none, []⟩,
  ⟨none, .store 2 (.t 3) (.t 12), none, [0, 1, 0, 1]⟩]
abbrev r11_3 : List AOper := [
  ⟨some 4, .mv (.c (.nils)), none, []⟩]
abbrev r11_4 : List AOper := [
  ⟨some 13, .mv (.t 0), none, []⟩,
  ⟨some 14, .callF 24 [(.t 13), (.c (.int .i64 0))], none, [0]⟩,
  ⟨some 5, .mv (.t 14), none, [1, 1, 0, 1]⟩]
abbrev r11_5 : List AOper := [
  ⟨some 15, .mv (.t 5), none, []⟩,
  ⟨some 16, .mv (.t 0), none, []⟩,
  ⟨some 17, .len 0 (.t 16), none, [1]⟩,
  ⟨some 18, .bin .lss (.t 15) (.t 17), none, [0, 2]⟩]
abbrev r11_6 : List AOper := [
  ⟨some 20, .mv (.t 0), none, []⟩,
  ⟨some 21, .mv (.t 5), none, []⟩,
  ⟨some 22, .callF 25 [(.t 20), (.t 21)], none, [0, 1]⟩,
  ⟨some 19, .mv (.t 22), none, [2]⟩,
  ⟨some 23, .extract (.t 19) 0, none, [3]⟩,
  ⟨some 24, .extract (.t 19) 1, none, [3]⟩,
  ⟨some 25, .extract (.t 19) 2, none, [3]⟩,
  ⟨some 6, .alloc 35 (.agg [.int .i64 0, .str ⟨#[]⟩, .int .i64 0, .flt .f64 0, .int .i64 0]), none, []⟩,
  ⟨none, .store 5 (.t 6) (.t 23), none, [7, 4, 2, 0, 1, 2, 3, 4, 7]⟩,
  ⟨some 7, .mv (.t 24), none, [5, 8, 0, 1, 2, 3, 4, 5, 7, 8]⟩,
  ⟨some 8, .mv (.t 25), none, [6, 9, 0, 1, 2, 3, 4, 5, 6, 7, 8, 9]⟩]
abbrev r11_7 : List AOper := [
  ⟨some 26, .mv (.t 8), none, []⟩,
  ⟨some 27, .bin .neq (.t 26) (.c (.int .i64 0)), none, [0]⟩]
abbrev r11_8 : List AOper := [
  ⟨some 28, .mv (.t 8), none, []⟩,
  ⟨some 29, .mv (.t 5), none, []⟩,
  ⟨some 30, .build [.int .i64 0, .int .i64 0] [(0, 1, (.t 28)), (1, 1, (.t 29))], none, [0, 1]⟩,
  ⟨some 2, .mv (.c (.nils)), none, []⟩,
  ⟨none, .store 2 (.t 3) (.t 30), none, [2, 3, 0, 1, 2, 3]⟩]
abbrev r11_9 : List AOper := [
  ⟨some 31, .mv (.t 4), none, []⟩,
  ⟨some 32, .load (some 5) (.t 6), none, []⟩,
  ⟨some 33, .bslice 35 1 [.int .i64 0, .str ⟨#[]⟩, .int .i64 0, .flt .f64 0, .int .i64 0] [(0, 5, (.t 32))], none, [1]⟩,
  ⟨some 34, .app 35 5 48 (.t 31) (.t 33), none, [0, 2]⟩,
  ⟨some 4, .mv (.t 34), none, [3, 3, 0, 1, 2, 3]⟩]
abbrev r11_10 : List AOper := [
  ⟨some 35, .mv (.t 0), none, []⟩,
  ⟨some 36, .mv (.t 7), none, []⟩,
  ⟨some 37, .callF 24 [(.t 35), (.t 36)], none, [0, 1]⟩,
  ⟨some 5, .mv (.t 37), none, [2, 2, 0, 1, 2]⟩]
def l11_0 : ACode :=
  .seq (
  .seq (
  .region false r11_5 [0, 3, 4, 5, 18]) (
  .cond (.t 18) (
    .skip) (
    .exit 0))) (
  .block 1 (
    .seq (
    .region false r11_6 [0, 3, 4, 5, 6, 7, 8]) (
    .seq (
    .seq (
    .region false r11_7 [0, 3, 4, 5, 6, 7, 8, 27]) (
    .cond (.t 27) (
      .seq (
      .region false r11_8 [2, 3]) (
      .ret)) (
      .skip))) (
    .seq (
    .region false r11_9 [0, 3, 4, 7]) (
    .region false r11_10 [0, 3, 4, 5])))))
abbrev r11_11 : List AOper := [
  ⟨some 38, .mv (.t 4), none, []⟩,
  ⟨some 39, .mv (.t 0), none, []⟩,
  ⟨some 40, .len 0 (.t 39), none, [1]⟩,
  ⟨some 41, .build [.int .i64 0, .str ⟨#[]⟩, .int .i64 0, .flt .f64 0, .int .i64 0] [(0, 1, (.c (.int .i64 8))), (4, 1, (.t 40))], none, [2]⟩,
  ⟨some 42, .bslice 35 1 [.int .i64 0, .str ⟨#[]⟩, .int .i64 0, .flt .f64 0, .int .i64 0] [(0, 5, (.t 41))], none, [3]⟩,
  ⟨some 43, .app 35 5 48 (.t 38) (.t 42), none, [0, 4]⟩,
  ⟨some 44, .build [.int .i64 0, .int .i64 0] [], none, []⟩,
  ⟨some 2, .mv (.t 43), none, [5, 5, 0, 1, 2, 3, 4, 5]⟩,
  ⟨none, .store 2 (.t 3) (.t 44), none, [6, 7, 0, 1, 2, 3, 4, 5, 6, 7]⟩]
def k11 : List (List Nat) := [[0, 3], [0, 3, 11], [2, 3], [0, 3, 4], [0, 3, 4, 5], [0, 3, 4, 5, 18], [0, 3, 4, 5, 6, 7, 8], [0, 3, 4, 5, 6, 7, 8, 27], [2, 3], [0, 3, 4, 7], [0, 3, 4, 5], [2, 3]]
def f11 : AFunc := { ntmps := 45, results := [.tmp 2, .cell 3 (some 2)], body := (
  .seq (
  .region false r11_0 [0, 3]) (
  .seq (
  .seq (
  .region false r11_1 [0, 3, 11]) (
  .cond (.t 11) (
    .seq (
    .region false r11_2 [2, 3]) (
    .ret)) (
    .skip))) (
  .seq (
  .region false r11_3 [0, 3, 4]) (
  .seq (
  .region false r11_4 [0, 3, 4, 5]) (
  .seq (
  .block 0 (
    .loop l11_0)) (
  .seq (
  .region false r11_11 [2, 3]) (
  .ret))))))) }
theorem c11 : cfunc Tryd.prog (kof k11) Tryd.f11 = some f11 := by kernel_rfl

/-- exitwave/exitwavelaw5.Same -/
abbrev r12_0 : List AOper := [
  ⟨some 6, .mv (.c (.bool false)), none, []⟩]
abbrev r12_1 : List AOper := [
  ⟨some 10, .mv (.t 0), none, []⟩,
  ⟨some 11, .len 1 (.t 10), none, [0]⟩,
  ⟨some 12, .mv (.t 1), none, []⟩,
  ⟨some 13, .len 1 (.t 12), none, [2]⟩,
  ⟨some 14, .bin .neq (.t 11) (.t 13), none, [1, 3]⟩]
abbrev r12_2 : List AOper := [
  ⟨some 6, .mv (.c (.bool false)), none, []⟩]
abbrev r12_3 : List AOper := [
  ⟨some 7, .mv (.c (.int .i64 0)), none, []⟩]
abbrev r12_4 : List AOper := [
  ⟨some 15, .mv (.t 7), none, []⟩,
  ⟨some 16, .mv (.t 0), none, []⟩,
  ⟨some 17, .len 1 (.t 16), none, [1]⟩,
  ⟨some 18, .bin .lss (.t 15) (.t 17), none, [0, 2]⟩]
abbrev r12_6 : List AOper := [
  ⟨some 21, .mv (.t 0), none, []⟩,
  ⟨some 22, .mv (.t 7), none, []⟩,
  ⟨some 23, .iaddr 5 (.t 21) (.t 22), none, [0, 1]⟩,
  ⟨some 24, .load (some 5) (.t 23), none, [2]⟩,
  ⟨some 8, .alloc 35 (.agg [.int .i64 0, .str ⟨#[]⟩, .int .i64 0, .flt .f64 0, .int .i64 0]), none, []⟩,
  ⟨none, .store 5 (.t 8) (.t 24), none, [4, 3, 0, 1, 2, 3, 4]⟩]
abbrev r12_7 : List AOper := [
  ⟨some 25, .mv (.t 1), none, []⟩,
  ⟨some 26, .mv (.t 7), none, []⟩,
  ⟨some 27, .iaddr 5 (.t 25) (.t 26), none, [0, 1]⟩,
  ⟨some 28, .load (some 5) (.t 27), none, [2]⟩,
  ⟨some 9, .alloc 35 (.agg [.int .i64 0, .str ⟨#[]⟩, .int .i64 0, .flt .f64 0, .int .i64 0]), none, []⟩,
  ⟨none, .store 5 (.t 9) (.t 28), none, [4, 3, 0, 1, 2, 3, 4]⟩]
abbrev r12_8 : List AOper := [
  ⟨some 29, .faddr 0 (.t 8), none, []⟩,
  ⟨some 30, .load none (.t 29), none, [0]⟩,
  ⟨some 31, .faddr 0 (.t 9), none, []⟩,
  ⟨some 32, .load none (.t 31), none, [2]⟩,
  ⟨some 33, .bin .neq (.t 30) (.t 32), none, [1, 3]⟩,
  ⟨some 34, .mv (.t 33), none, [4]⟩,
  ⟨some 35, .faddr 1 (.t 8), some (34, false), [5]⟩,
  ⟨some 36, .load none (.t 35), some (34, false), [6, 5]⟩,
  ⟨some 37, .faddr 1 (.t 9), some (34, false), [5]⟩,
  ⟨some 38, .load none (.t 37), some (34, false), [8, 5]⟩,
  ⟨some 39, .bin .neq (.t 36) (.t 38), some (34, false), [7, 9, 5]⟩,
  ⟨some 40, .pick (.t 34) (.c (.bool true)) (.t 39), none, [5, 10]⟩,
  ⟨some 41, .mv (.t 40), none, [11, 5]⟩,
  ⟨some 42, .faddr 2 (.t 8), some (41, false), [12]⟩,
  ⟨some 43, .load none (.t 42), some (41, false), [13, 12]⟩,
  ⟨some 44, .faddr 2 (.t 9), some (41, false), [12]⟩,
  ⟨some 45, .load none (.t 44), some (41, false), [15, 12]⟩,
  ⟨some 46, .bin .neq (.t 43) (.t 45), some (41, false), [14, 16, 12]⟩,
  ⟨some 47, .pick (.t 41) (.c (.bool true)) (.t 46), none, [12, 17]⟩,
  ⟨some 48, .mv (.t 47), none, [18, 12]⟩,
  ⟨some 49, .faddr 3 (.t 8), some (48, false), [19]⟩,
  ⟨some 50, .load none (.t 49), some (48, false), [20, 19]⟩,
  ⟨some 51, .ext 0 [(.t 50)], some (48, false), [21, 19, 19]⟩,
  ⟨some 52, .faddr 3 (.t 9), some (48, false), [19]⟩,
  ⟨some 53, .load none (.t 52), some (48, false), [23, 19]⟩,
  ⟨some 54, .ext 0 [(.t 53)], some (48, false), [24, 22, 19]⟩,
  ⟨some 55, .bin .neq (.t 51) (.t 54), some (48, false), [22, 25, 19]⟩,
  ⟨some 56, .pick (.t 48) (.c (.bool true)) (.t 55), none, [19, 26]⟩,
  ⟨some 57, .mv (.t 56), none, [27, 25]⟩,
  ⟨some 58, .mv (.t 2), some (57, false), [28]⟩,
  ⟨some 59, .mv (.t 58), some (57, false), [29, 28, 28]⟩,
  ⟨some 60, .faddr 4 (.t 8), some (59, true), [30]⟩,
  ⟨some 61, .load none (.t 60), some (59, true), [31, 30]⟩,
  ⟨some 62, .faddr 4 (.t 9), some (59, true), [30]⟩,
  ⟨some 63, .load none (.t 62), some (59, true), [33, 30]⟩,
  ⟨some 64, .bin .neq (.t 61) (.t 63), some (59, true), [32, 34, 30]⟩,
  ⟨some 65, .pick (.t 59) (.t 64) (.c (.bool false)), some (57, false), [30, 35, 28]⟩,
  ⟨some 66, .pick (.t 57) (.c (.bool true)) (.t 65), none, [28, 36]⟩]
abbrev r12_9 : List AOper := [
  ⟨some 6, .mv (.c (.bool false)), none, []⟩]
abbrev r12_5 : List AOper := [
  ⟨some 19, .mv (.t 7), none, []⟩,
  ⟨some 20, .bin .add (.t 19) (.c (.int .i64 1)), none, [0]⟩,
  ⟨some 7, .mv (.t 20), none, [1, 0, 1]⟩]
def l12_0 : ACode :=
  .seq (
  .seq (
  .region false r12_4 [0, 1, 2, 7, 18]) (
  .cond (.t 18) (
    .skip) (
    .exit 0))) (
  .seq (
  .block 1 (
    .seq (
    .region false r12_6 [0, 1, 2, 7, 8]) (
    .seq (
    .region false r12_7 [0, 1, 2, 7, 8, 9]) (
    .seq (
    .region true r12_8 [0, 1, 2, 7, 66]) (
    .cond (.t 66) (
      .seq (
      .region false r12_9 [6]) (
      .ret)) (
      .skip)))))) (
  .region false r12_5 [0, 1, 2, 7]))
abbrev r12_10 : List AOper := [
  ⟨some 6, .mv (.c (.bool true)), none, []⟩]
def m12_8 : List Nat := [0, 1, 0, 4, 15, 31, 63, 127, 63, 319, 1023, 2047, 4095, 8191, 16383, 8191, 40959, 131071, 262143, 524287, 1048575, 2097151, 4194303, 1048575, 9437183, 33554431, 67108863, 134217727, 268435455, 536870911, 1073741823, 2147483647, 4294967295, 2147483647, 10737418239, 34359738367, 68719476735, 137438953471]
theorem d12_8 : okDraw r12_8 m12_8 = true := by kernel_rfl
def k12 : List (List Nat) := [[0, 1, 2], [0, 1, 2, 14], [6], [0, 1, 2, 7], [0, 1, 2, 7, 18], [0, 1, 2, 7], [0, 1, 2, 7, 8], [0, 1, 2, 7, 8, 9], [0, 1, 2, 7, 66], [6], [6]]
def f12 : AFunc := { ntmps := 67, results := [.tmp 6], body := (
  .seq (
  .region false r12_0 [0, 1, 2]) (
  .seq (
  .seq (
  .region false r12_1 [0, 1, 2, 14]) (
  .cond (.t 14) (
    .seq (
    .region false r12_2 [6]) (
    .ret)) (
    .skip))) (
  .seq (
  .seq (
  .region false r12_3 [0, 1, 2, 7]) (
  .block 0 (
    .loop l12_0))) (
  .seq (
  .region false r12_10 [6]) (
  .ret))))) }
theorem c12 : cfunc Tryd.prog (kof k12) Tryd.f12 = some f12 := by kernel_rfl

/-- exitwave/lex.Kept -/
abbrev r13_0 : List AOper := [
  ⟨some 2, .mv (.c (.bool false)), none, []⟩]
abbrev r13_1 : List AOper := [
  ⟨some 3, .mv (.t 0), none, []⟩]
abbrev r13_2 : List AOper := [
  ⟨some 5, .bin .eql (.t 3) (.c (.str ⟨#[97, 102, 116, 101, 114]⟩)), none, []⟩,
  ⟨some 4, .mv (.t 5), none, [0]⟩]
abbrev r13_3 : List AOper := [
  ⟨some 6, .bin .eql (.t 3) (.c (.str ⟨#[97, 110, 100, 97, 108, 115, 111]⟩)), none, []⟩,
  ⟨some 4, .mv (.t 6), none, [0]⟩]
abbrev r13_4 : List AOper := [
  ⟨some 7, .bin .eql (.t 3) (.c (.str ⟨#[98, 101, 103, 105, 110]⟩)), none, []⟩,
  ⟨some 4, .mv (.t 7), none, [0]⟩]
abbrev r13_5 : List AOper := [
  ⟨some 8, .bin .eql (.t 3) (.c (.str ⟨#[99, 97, 115, 101]⟩)), none, []⟩,
  ⟨some 4, .mv (.t 8), none, [0]⟩]
abbrev r13_6 : List AOper := [
  ⟨some 9, .bin .eql (.t 3) (.c (.str ⟨#[99, 97, 116, 99, 104]⟩)), none, []⟩,
  ⟨some 4, .mv (.t 9), none, [0]⟩]
abbrev r13_7 : List AOper := [
  ⟨some 10, .bin .eql (.t 3) (.c (.str ⟨#[100, 105, 118]⟩)), none, []⟩,
  ⟨some 4, .mv (.t 10), none, [0]⟩]
abbrev r13_8 : List AOper := [
  ⟨some 11, .bin .eql (.t 3) (.c (.str ⟨#[101, 110, 100]⟩)), none, []⟩,
  ⟨some 4, .mv (.t 11), none, [0]⟩]
abbrev r13_9 : List AOper := [
  ⟨some 12, .bin .eql (.t 3) (.c (.str ⟨#[102, 117, 110]⟩)), none, []⟩,
  ⟨some 4, .mv (.t 12), none, [0]⟩]
abbrev r13_10 : List AOper := [
  ⟨some 13, .bin .eql (.t 3) (.c (.str ⟨#[110, 111, 116]⟩)), none, []⟩,
  ⟨some 4, .mv (.t 13), none, [0]⟩]
abbrev r13_11 : List AOper := [
  ⟨some 14, .bin .eql (.t 3) (.c (.str ⟨#[111, 102]⟩)), none, []⟩,
  ⟨some 4, .mv (.t 14), none, [0]⟩]
abbrev r13_12 : List AOper := [
  ⟨some 15, .bin .eql (.t 3) (.c (.str ⟨#[111, 114, 101, 108, 115, 101]⟩)), none, []⟩,
  ⟨some 4, .mv (.t 15), none, [0]⟩]
abbrev r13_13 : List AOper := [
  ⟨some 16, .bin .eql (.t 3) (.c (.str ⟨#[114, 101, 99, 101, 105, 118, 101]⟩)), none, []⟩,
  ⟨some 4, .mv (.t 16), none, [0]⟩]
abbrev r13_14 : List AOper := [
  ⟨some 17, .bin .eql (.t 3) (.c (.str ⟨#[114, 101, 109]⟩)), none, []⟩,
  ⟨some 4, .mv (.t 17), none, [0]⟩]
abbrev r13_15 : List AOper := [
  ⟨some 18, .bin .eql (.t 3) (.c (.str ⟨#[116, 114, 121]⟩)), none, []⟩,
  ⟨some 4, .mv (.t 18), none, [0]⟩]
abbrev r13_16 : List AOper := [
  ⟨some 19, .bin .eql (.t 3) (.c (.str ⟨#[119, 104, 101, 110]⟩)), none, []⟩,
  ⟨some 4, .mv (.t 19), none, [0]⟩]
abbrev r13_17 : List AOper := [
  ⟨some 2, .mv (.c (.bool true)), none, []⟩]
abbrev r13_18 : List AOper := [
  ⟨some 2, .mv (.c (.bool false)), none, []⟩]
def k13 : List (List Nat) := [[0], [3], [3, 4], [3, 4], [3, 4], [3, 4], [3, 4], [3, 4], [3, 4], [3, 4], [3, 4], [3, 4], [3, 4], [3, 4], [3, 4], [3, 4], [4], [2], [2]]
def f13 : AFunc := { ntmps := 20, results := [.tmp 2], body := (
  .seq (
  .region false r13_0 [0]) (
  .seq (
  .seq (
  .region false r13_1 [3]) (
  .block 0 (
    .seq (
    .seq (
    .region false r13_2 [3, 4]) (
    .cond (.t 4) (
      .skip) (
      .seq (
      .region false r13_3 [3, 4]) (
      .cond (.t 4) (
        .skip) (
        .seq (
        .region false r13_4 [3, 4]) (
        .cond (.t 4) (
          .skip) (
          .seq (
          .region false r13_5 [3, 4]) (
          .cond (.t 4) (
            .skip) (
            .seq (
            .region false r13_6 [3, 4]) (
            .cond (.t 4) (
              .skip) (
              .seq (
              .region false r13_7 [3, 4]) (
              .cond (.t 4) (
                .skip) (
                .seq (
                .region false r13_8 [3, 4]) (
                .cond (.t 4) (
                  .skip) (
                  .seq (
                  .region false r13_9 [3, 4]) (
                  .cond (.t 4) (
                    .skip) (
                    .seq (
                    .region false r13_10 [3, 4]) (
                    .cond (.t 4) (
                      .skip) (
                      .seq (
                      .region false r13_11 [3, 4]) (
                      .cond (.t 4) (
                        .skip) (
                        .seq (
                        .region false r13_12 [3, 4]) (
                        .cond (.t 4) (
                          .skip) (
                          .seq (
                          .region false r13_13 [3, 4]) (
                          .cond (.t 4) (
                            .skip) (
                            .seq (
                            .region false r13_14 [3, 4]) (
                            .cond (.t 4) (
                              .skip) (
                              .seq (
                              .region false r13_15 [3, 4]) (
                              .cond (.t 4) (
                                .skip) (
                                .region false r13_16 [4]))))))))))))))))))))))))))))) (
    .cond (.t 4) (
      .seq (
      .region false r13_17 [2]) (
      .ret)) (
      .skip))))) (
  .seq (
  .region false r13_18 [2]) (
  .ret)))) }
theorem c13 : cfunc Tryd.prog (kof k13) Tryd.f13 = some f13 := by kernel_rfl

/-- exitwave/exitwaveref5.Kept -/
abbrev r14_0 : List AOper := [
  ⟨some 2, .mv (.c (.bool false)), none, []⟩]
abbrev r14_1 : List AOper := [
  ⟨some 3, .mv (.t 0), none, []⟩,
  ⟨some 4, .callF 26 [(.t 3)], none, [0]⟩,
  ⟨some 2, .mv (.t 4), none, [1, 1, 0, 1]⟩]
def k14 : List (List Nat) := [[0], [2]]
def f14 : AFunc := { ntmps := 5, results := [.tmp 2], body := (
  .seq (
  .region false r14_0 [0]) (
  .seq (
  .region false r14_1 [2]) (
  .ret))) }
theorem c14 : cfunc Tryd.prog (kof k14) Tryd.f14 = some f14 := by kernel_rfl

/-- exitwave/exitwaveref2.Right -/
abbrev r17_0 : List AOper := [
  ⟨some 1, .box 44 (.t 0), none, []⟩,
  ⟨some 2, .mv (.c (.bool false)), none, []⟩]
abbrev r17_1 : List AOper := [
  ⟨some 3, .load (some 5) (.t 1), none, []⟩,
  ⟨some 4, .callF 27 [(.t 3)], none, [0]⟩,
  ⟨some 5, .bin .eql (.t 4) (.c (.int .i64 0)), none, [1]⟩,
  ⟨some 2, .mv (.t 5), none, [2, 1, 0, 1, 2]⟩]
def k17 : List (List Nat) := [[1], [2]]
def f17 : AFunc := { ntmps := 6, results := [.tmp 2], body := (
  .seq (
  .region false r17_0 [1]) (
  .seq (
  .region false r17_1 [2]) (
  .ret))) }
theorem c17 : cfunc Tryd.prog (kof k17) Tryd.f17 = some f17 := by kernel_rfl

/-- exitwave/exitwavelaw5.sayable -/
abbrev r18_0 : List AOper := [
  ⟨some 1, .box 44 (.t 0), none, []⟩,
  ⟨some 2, .mv (.c (.bool false)), none, []⟩]
abbrev r18_1 : List AOper := [
  ⟨some 4, .faddr 0 (.t 1), none, []⟩,
  ⟨some 5, .load none (.t 4), none, [0]⟩,
  ⟨some 6, .bin .eql (.t 5) (.c (.int .i64 4)), none, [1]⟩,
  ⟨some 7, .mv (.t 6), none, [2]⟩,
  ⟨some 8, .faddr 0 (.t 1), some (7, false), [3]⟩,
  ⟨some 9, .load none (.t 8), some (7, false), [4, 3]⟩,
  ⟨some 10, .bin .eql (.t 9) (.c (.int .i64 6)), some (7, false), [5, 3]⟩,
  ⟨some 11, .pick (.t 7) (.c (.bool true)) (.t 10), none, [3, 6]⟩,
  ⟨some 12, .mv (.t 11), none, [7, 3]⟩,
  ⟨some 13, .faddr 0 (.t 1), some (12, false), [8]⟩,
  ⟨some 14, .load none (.t 13), some (12, false), [9, 8]⟩,
  ⟨some 15, .bin .eql (.t 14) (.c (.int .i64 5)), some (12, false), [10, 8]⟩,
  ⟨some 16, .pick (.t 12) (.c (.bool true)) (.t 15), none, [8, 11]⟩,
  ⟨some 17, .mv (.t 16), none, [12, 8]⟩,
  ⟨some 18, .faddr 0 (.t 1), some (17, false), [13]⟩,
  ⟨some 19, .load none (.t 18), some (17, false), [14, 13]⟩,
  ⟨some 20, .bin .eql (.t 19) (.c (.int .i64 1)), some (17, false), [15, 13]⟩,
  ⟨some 21, .mv (.t 20), some (17, false), [16, 13, 13]⟩,
  ⟨some 22, .faddr 1 (.t 1), some (21, true), [17]⟩,
  ⟨some 23, .load none (.t 22), some (21, true), [18, 17]⟩,
  ⟨some 24, .bin .eql (.t 23) (.c (.int .i64 (-576460752303423488))), some (21, true), [19, 17]⟩,
  ⟨some 25, .pick (.t 21) (.t 24) (.c (.bool false)), some (17, false), [17, 20, 13]⟩,
  ⟨some 26, .pick (.t 17) (.c (.bool true)) (.t 25), none, [13, 21]⟩]
abbrev r18_2 : List AOper := [
  ⟨some 2, .mv (.c (.bool false)), none, []⟩]
abbrev r18_3 : List AOper := [
  ⟨some 3, .mv (.c (.int .i64 0)), none, []⟩]
abbrev r18_4 : List AOper := [
  ⟨some 27, .mv (.t 3), none, []⟩,
  ⟨some 28, .faddr 4 (.t 1), none, []⟩,
  ⟨some 29, .load none (.t 28), none, [1]⟩,
  ⟨some 30, .len 1 (.t 29), none, [2]⟩,
  ⟨some 31, .bin .lss (.t 27) (.t 30), none, [0, 3]⟩]
abbrev r18_6 : List AOper := [
  ⟨some 34, .faddr 4 (.t 1), none, []⟩,
  ⟨some 35, .load none (.t 34), none, [0]⟩,
  ⟨some 36, .mv (.t 3), none, []⟩,
  ⟨some 37, .iaddr 5 (.t 35) (.t 36), none, [1, 2]⟩,
  ⟨some 38, .load (some 5) (.t 37), none, [3]⟩,
  ⟨some 39, .callF 18 [(.t 38)], none, [4]⟩,
  ⟨some 40, .un .not (.t 39), none, [5]⟩]
abbrev r18_7 : List AOper := [
  ⟨some 2, .mv (.c (.bool false)), none, []⟩]
abbrev r18_5 : List AOper := [
  ⟨some 32, .mv (.t 3), none, []⟩,
  ⟨some 33, .bin .add (.t 32) (.c (.int .i64 1)), none, [0]⟩,
  ⟨some 3, .mv (.t 33), none, [1, 0, 1]⟩]
def l18_0 : ACode :=
  .seq (
  .seq (
  .region false r18_4 [1, 3, 31]) (
  .cond (.t 31) (
    .skip) (
    .exit 0))) (
  .seq (
  .block 1 (
    .seq (
    .region false r18_6 [1, 3, 40]) (
    .cond (.t 40) (
      .seq (
      .region false r18_7 [2]) (
      .ret)) (
      .skip)))) (
  .region false r18_5 [1, 3]))
abbrev r18_8 : List AOper := [
  ⟨some 2, .mv (.c (.bool true)), none, []⟩]
def k18 : List (List Nat) := [[1], [1, 26], [2], [1, 3], [1, 3, 31], [1, 3], [1, 3, 40], [2], [2]]
def f18 : AFunc := { ntmps := 41, results := [.tmp 2], body := (
  .seq (
  .region false r18_0 [1]) (
  .seq (
  .seq (
  .region false r18_1 [1, 26]) (
  .cond (.t 26) (
    .seq (
    .region false r18_2 [2]) (
    .ret)) (
    .skip))) (
  .seq (
  .seq (
  .region false r18_3 [1, 3]) (
  .block 0 (
    .loop l18_0))) (
  .seq (
  .region false r18_8 [2]) (
  .ret))))) }
theorem c18 : cfunc Tryd.prog (kof k18) Tryd.f18 = some f18 := by kernel_rfl

/-- exitwave/exitwaveref2.Write -/
abbrev r19_0 : List AOper := [
  ⟨some 1, .box 44 (.t 0), none, []⟩,
  ⟨some 2, .mv (.c (.str ⟨#[]⟩)), none, []⟩]
abbrev r19_1 : List AOper := [
  ⟨some 3, .faddr 0 (.t 1), none, []⟩,
  ⟨some 4, .load none (.t 3), none, [0]⟩]
abbrev r19_2 : List AOper := [
  ⟨some 6, .bin .eql (.t 4) (.c (.int .i64 1)), none, []⟩,
  ⟨some 5, .mv (.t 6), none, [0]⟩]
abbrev r19_3 : List AOper := [
  ⟨some 7, .bin .eql (.t 4) (.c (.int .i64 2)), none, []⟩,
  ⟨some 5, .mv (.t 7), none, [0]⟩]
abbrev r19_4 : List AOper := [
  ⟨some 8, .load (some 5) (.t 1), none, []⟩,
  ⟨some 9, .callF 28 [(.t 8)], none, [0]⟩,
  ⟨some 2, .mv (.t 9), none, [1, 1, 0, 1]⟩]
abbrev r19_5 : List AOper := [
  ⟨some 11, .bin .eql (.t 4) (.c (.int .i64 3)), none, []⟩,
  ⟨some 10, .mv (.t 11), none, [0]⟩]
abbrev r19_6 : List AOper := [
  ⟨some 12, .faddr 3 (.t 1), none, []⟩,
  ⟨some 13, .load none (.t 12), none, [0]⟩,
  ⟨some 14, .callF 29 [(.t 13)], none, [1]⟩,
  ⟨some 2, .mv (.t 14), none, [2, 2, 0, 1, 2]⟩]
abbrev r19_7 : List AOper := [
  ⟨some 16, .bin .eql (.t 4) (.c (.int .i64 4)), none, []⟩,
  ⟨some 15, .mv (.t 16), none, [0]⟩]
abbrev r19_8 : List AOper := [
  ⟨some 17, .faddr 1 (.t 1), none, []⟩,
  ⟨some 18, .load none (.t 17), none, [0]⟩,
  ⟨some 19, .callF 30 [(.t 18)], none, [1]⟩,
  ⟨some 20, .bin .add (.c (.str ⟨#[35, 82, 101, 102]⟩)) (.t 19), none, [2]⟩,
  ⟨some 2, .mv (.t 20), none, [3, 2, 0, 1, 2, 3]⟩]
abbrev r19_9 : List AOper := [
  ⟨some 22, .bin .eql (.t 4) (.c (.int .i64 6)), none, []⟩,
  ⟨some 21, .mv (.t 22), none, [0]⟩]
abbrev r19_10 : List AOper := [
  ⟨some 23, .faddr 1 (.t 1), none, []⟩,
  ⟨some 24, .load none (.t 23), none, [0]⟩,
  ⟨some 25, .callF 30 [(.t 24)], none, [1]⟩,
  ⟨some 26, .bin .add (.c (.str ⟨#[35, 80, 105, 100]⟩)) (.t 25), none, [2]⟩,
  ⟨some 2, .mv (.t 26), none, [3, 2, 0, 1, 2, 3]⟩]
abbrev r19_11 : List AOper := [
  ⟨some 28, .bin .eql (.t 4) (.c (.int .i64 5)), none, []⟩,
  ⟨some 27, .mv (.t 28), none, [0]⟩]
abbrev r19_12 : List AOper := [
  ⟨some 29, .faddr 4 (.t 1), none, []⟩,
  ⟨some 30, .load none (.t 29), none, [0]⟩,
  ⟨some 31, .len 1 (.t 30), none, [1]⟩,
  ⟨some 32, .bin .eql (.t 31) (.c (.int .i64 0)), none, [2]⟩]
abbrev r19_13 : List AOper := [
  ⟨some 33, .faddr 1 (.t 1), none, []⟩,
  ⟨some 34, .load none (.t 33), none, [0]⟩,
  ⟨some 35, .callF 30 [(.t 34)], none, [1]⟩,
  ⟨some 36, .bin .add (.c (.str ⟨#[35, 70, 117, 110]⟩)) (.t 35), none, [2]⟩,
  ⟨some 2, .mv (.t 36), none, [3, 2, 0, 1, 2, 3]⟩]
abbrev r19_14 : List AOper := [
  ⟨some 37, .faddr 1 (.t 1), none, []⟩,
  ⟨some 38, .load none (.t 37), none, [0]⟩,
  ⟨some 39, .callF 30 [(.t 38)], none, [1]⟩,
  ⟨some 40, .bin .add (.c (.str ⟨#[35, 70, 117, 110]⟩)) (.t 39), none, [2]⟩,
  ⟨some 41, .faddr 4 (.t 1), none, []⟩,
  ⟨some 42, .load none (.t 41), none, [4]⟩,
  ⟨some 43, .callF 31 [(.t 42), (.c (.str ⟨#[91]⟩)), (.c (.str ⟨#[93]⟩))], none, [5, 2]⟩,
  ⟨some 44, .bin .add (.t 40) (.t 43), none, [3, 6]⟩,
  ⟨some 2, .mv (.t 44), none, [7, 6, 0, 1, 2, 3, 4, 5, 6, 7]⟩]
abbrev r19_15 : List AOper := [
  ⟨some 46, .bin .eql (.t 4) (.c (.int .i64 7)), none, []⟩,
  ⟨some 45, .mv (.t 46), none, [0]⟩]
abbrev r19_16 : List AOper := [
  ⟨some 47, .faddr 4 (.t 1), none, []⟩,
  ⟨some 48, .load none (.t 47), none, [0]⟩,
  ⟨some 49, .callF 31 [(.t 48), (.c (.str ⟨#[123]⟩)), (.c (.str ⟨#[125]⟩))], none, [1]⟩,
  ⟨some 2, .mv (.t 49), none, [2, 2, 0, 1, 2]⟩]
abbrev r19_17 : List AOper := [
  ⟨some 50, .faddr 4 (.t 1), none, []⟩,
  ⟨some 51, .load none (.t 50), none, [0]⟩,
  ⟨some 52, .callF 31 [(.t 51), (.c (.str ⟨#[91]⟩)), (.c (.str ⟨#[93]⟩))], none, [1]⟩,
  ⟨some 2, .mv (.t 52), none, [2, 2, 0, 1, 2]⟩]
def m19_14 : List Nat := [0, 1, 3, 7, 0, 16, 55, 127, 255]
theorem d19_14 : okDraw r19_14 m19_14 = true := by kernel_rfl
def k19 : List (List Nat) := [[1], [1, 4], [1, 4, 5], [1, 4, 5], [2], [1, 4, 10], [2], [1, 4, 15], [2], [1, 4, 21], [2], [1, 4, 27], [1, 32], [2], [2], [1, 45], [2], [2]]
def f19 : AFunc := { ntmps := 53, results := [.tmp 2], body := (
  .seq (
  .region false r19_0 [1]) (
  .seq (
  .seq (
  .region false r19_1 [1, 4]) (
  .block 0 (
    .seq (
    .seq (
    .region false r19_2 [1, 4, 5]) (
    .cond (.t 5) (
      .skip) (
      .region false r19_3 [1, 4, 5]))) (
    .cond (.t 5) (
      .seq (
      .region false r19_4 [2]) (
      .ret)) (
      .seq (
      .region false r19_5 [1, 4, 10]) (
      .cond (.t 10) (
        .seq (
        .region false r19_6 [2]) (
        .ret)) (
        .seq (
        .region false r19_7 [1, 4, 15]) (
        .cond (.t 15) (
          .seq (
          .region false r19_8 [2]) (
          .ret)) (
          .seq (
          .region false r19_9 [1, 4, 21]) (
          .cond (.t 21) (
            .seq (
            .region false r19_10 [2]) (
            .ret)) (
            .seq (
            .region false r19_11 [1, 4, 27]) (
            .cond (.t 27) (
              .seq (
              .seq (
              .region false r19_12 [1, 32]) (
              .cond (.t 32) (
                .seq (
                .region false r19_13 [2]) (
                .ret)) (
                .skip))) (
              .seq (
              .region true r19_14 [2]) (
              .ret))) (
              .seq (
              .region false r19_15 [1, 45]) (
              .cond (.t 45) (
                .seq (
                .region false r19_16 [2]) (
                .ret)) (
                .skip))))))))))))))) (
  .seq (
  .region false r19_17 [2]) (
  .ret)))) }
theorem c19 : cfunc Tryd.prog (kof k19) Tryd.f19 = some f19 := by kernel_rfl

/-- exitwave/exitwavelaw5.atoms -/
abbrev r20_0 : List AOper := [
  ⟨some 2, .box 44 (.t 0), none, []⟩,
  ⟨some 4, .mv (.c (.nils)), none, []⟩]
abbrev r20_1 : List AOper := [
  ⟨some 7, .faddr 0 (.t 2), none, []⟩,
  ⟨some 8, .load none (.t 7), none, [0]⟩]
abbrev r20_2 : List AOper := [
  ⟨some 10, .bin .eql (.t 8) (.c (.int .i64 3)), none, []⟩,
  ⟨some 9, .mv (.t 10), none, [0]⟩]
abbrev r20_3 : List AOper := [
  ⟨some 11, .mv (.t 1), none, []⟩,
  ⟨some 12, .faddr 3 (.t 2), none, []⟩,
  ⟨some 13, .load none (.t 12), none, [1]⟩,
  ⟨some 14, .build [.int .i64 0, .str ⟨#[]⟩, .int .i64 0, .flt .f64 0, .int .i64 0] [(0, 1, (.c (.int .i64 1))), (1, 1, (.t 13))], none, [2]⟩,
  ⟨some 15, .bslice 35 1 [.int .i64 0, .str ⟨#[]⟩, .int .i64 0, .flt .f64 0, .int .i64 0] [(0, 5, (.t 14))], none, [3]⟩,
  ⟨some 16, .app 35 5 48 (.t 11) (.t 15), none, [0, 4]⟩,
  ⟨some 1, .mv (.t 16), none, [5, 5, 0, 1, 2, 3, 4, 5]⟩]
abbrev r20_4 : List AOper := [
  ⟨some 18, .bin .eql (.t 8) (.c (.int .i64 1)), none, []⟩,
  ⟨some 17, .mv (.t 18), none, [0]⟩]
abbrev r20_5 : List AOper := [
  ⟨some 19, .faddr 1 (.t 2), none, []⟩,
  ⟨some 20, .load none (.t 19), none, [0]⟩,
  ⟨some 5, .mv (.t 20), none, [1, 0, 1]⟩]
abbrev r20_6 : List AOper := [
  ⟨some 21, .mv (.t 5), none, []⟩,
  ⟨some 22, .bin .lss (.t 21) (.c (.int .i64 0)), none, [0]⟩]
abbrev r20_7 : List AOper := [
  ⟨some 23, .mv (.t 1), none, []⟩,
  ⟨some 24, .build [.int .i64 0, .str ⟨#[]⟩, .int .i64 0, .flt .f64 0, .int .i64 0] [(0, 1, (.c (.int .i64 6))), (1, 1, (.c (.str ⟨#[45]⟩)))], none, []⟩,
  ⟨some 25, .bslice 35 1 [.int .i64 0, .str ⟨#[]⟩, .int .i64 0, .flt .f64 0, .int .i64 0] [(0, 5, (.t 24))], none, [1]⟩,
  ⟨some 26, .app 35 5 48 (.t 23) (.t 25), none, [0, 2]⟩,
  ⟨some 1, .mv (.t 26), none, [3, 3, 0, 1, 2, 3]⟩]
abbrev r20_8 : List AOper := [
  ⟨some 27, .mv (.t 5), none, []⟩,
  ⟨some 28, .bin .sub (.c (.int .i64 0)) (.t 27), none, [0]⟩,
  ⟨some 5, .mv (.t 28), none, [1, 0, 1]⟩]
abbrev r20_9 : List AOper := [
  ⟨some 29, .mv (.t 1), none, []⟩,
  ⟨some 30, .mv (.t 5), none, []⟩,
  ⟨some 31, .build [.int .i64 0, .str ⟨#[]⟩, .int .i64 0, .flt .f64 0, .int .i64 0] [(0, 1, (.c (.int .i64 3))), (2, 1, (.t 30))], none, [1]⟩,
  ⟨some 32, .bslice 35 1 [.int .i64 0, .str ⟨#[]⟩, .int .i64 0, .flt .f64 0, .int .i64 0] [(0, 5, (.t 31))], none, [2]⟩,
  ⟨some 33, .app 35 5 48 (.t 29) (.t 32), none, [0, 3]⟩,
  ⟨some 1, .mv (.t 33), none, [4, 4, 0, 1, 2, 3, 4]⟩]
abbrev r20_10 : List AOper := [
  ⟨some 35, .bin .eql (.t 8) (.c (.int .i64 2)), none, []⟩,
  ⟨some 34, .mv (.t 35), none, [0]⟩]
abbrev r20_11 : List AOper := [
  ⟨some 36, .mv (.t 1), none, []⟩,
  ⟨some 37, .faddr 2 (.t 2), none, []⟩,
  ⟨some 38, .load none (.t 37), none, [1]⟩,
  ⟨some 39, .build [.int .i64 0, .str ⟨#[]⟩, .int .i64 0, .flt .f64 0, .int .i64 0] [(0, 1, (.c (.int .i64 4))), (3, 1, (.t 38))], none, [2]⟩,
  ⟨some 40, .bslice 35 1 [.int .i64 0, .str ⟨#[]⟩, .int .i64 0, .flt .f64 0, .int .i64 0] [(0, 5, (.t 39))], none, [3]⟩,
  ⟨some 41, .app 35 5 48 (.t 36) (.t 40), none, [0, 4]⟩,
  ⟨some 1, .mv (.t 41), none, [5, 5, 0, 1, 2, 3, 4, 5]⟩]
abbrev r20_12 : List AOper := [
  ⟨some 6, .mv (.c (.int .i64 0)), none, []⟩]
abbrev r20_13 : List AOper := [
  ⟨some 42, .mv (.t 6), none, []⟩,
  ⟨some 43, .faddr 4 (.t 2), none, []⟩,
  ⟨some 44, .load none (.t 43), none, [1]⟩,
  ⟨some 45, .len 1 (.t 44), none, [2]⟩,
  ⟨some 46, .bin .lss (.t 42) (.t 45), none, [0, 3]⟩]
abbrev r20_15 : List AOper := [
  ⟨some 49, .faddr 4 (.t 2), none, []⟩,
  ⟨some 50, .load none (.t 49), none, [0]⟩,
  ⟨some 51, .mv (.t 6), none, []⟩,
  ⟨some 52, .iaddr 5 (.t 50) (.t 51), none, [1, 2]⟩,
  ⟨some 53, .load (some 5) (.t 52), none, [3]⟩,
  ⟨some 54, .mv (.t 1), none, []⟩,
  ⟨some 55, .callF 20 [(.t 53), (.t 54)], none, [4, 5]⟩,
  ⟨some 1, .mv (.t 55), none, [6, 6, 0, 1, 2, 3, 4, 5, 6]⟩]
abbrev r20_14 : List AOper := [
  ⟨some 47, .mv (.t 6), none, []⟩,
  ⟨some 48, .bin .add (.t 47) (.c (.int .i64 1)), none, [0]⟩,
  ⟨some 6, .mv (.t 48), none, [1, 0, 1]⟩]
def l20_0 : ACode :=
  .seq (
  .seq (
  .region false r20_13 [1, 2, 6, 46]) (
  .cond (.t 46) (
    .skip) (
    .exit 1))) (
  .seq (
  .block 2 (
    .region false r20_15 [1, 2, 6])) (
  .region false r20_14 [1, 2, 6]))
abbrev r20_16 : List AOper := [
  ⟨some 56, .mv (.t 1), none, []⟩,
  ⟨some 4, .mv (.t 56), none, [0, 0]⟩]
def k20 : List (List Nat) := [[1, 2], [1, 2, 8], [1, 2, 8, 9], [1, 2], [1, 2, 8, 17], [1, 2, 5], [1, 2, 5, 22], [1, 2, 5], [1, 2, 5], [1, 2], [1, 2, 34], [1, 2], [1, 2, 6], [1, 2, 6, 46], [1, 2, 6], [1, 2, 6], [4]]
def f20 : AFunc := { ntmps := 57, results := [.tmp 4], body := (
  .seq (
  .region false r20_0 [1, 2]) (
  .seq (
  .seq (
  .region false r20_1 [1, 2, 8]) (
  .block 0 (
    .seq (
    .region false r20_2 [1, 2, 8, 9]) (
    .cond (.t 9) (
      .region false r20_3 [1, 2]) (
      .seq (
      .region false r20_4 [1, 2, 8, 17]) (
      .cond (.t 17) (
        .seq (
        .region false r20_5 [1, 2, 5]) (
        .seq (
        .seq (
        .region false r20_6 [1, 2, 5, 22]) (
        .cond (.t 22) (
          .seq (
          .region false r20_7 [1, 2, 5]) (
          .region false r20_8 [1, 2, 5])) (
          .skip))) (
        .region false r20_9 [1, 2]))) (
        .seq (
        .region false r20_10 [1, 2, 34]) (
        .cond (.t 34) (
          .region false r20_11 [1, 2]) (
          .skip))))))))) (
  .seq (
  .seq (
  .region false r20_12 [1, 2, 6]) (
  .block 1 (
    .loop l20_0))) (
  .seq (
  .region false r20_16 [4]) (
  .ret))))) }
theorem c20 : cfunc Tryd.prog (kof k20) Tryd.f20 = some f20 := by kernel_rfl

/-- (*exitwave/lex.scanner).run -/
abbrev r21_0 : List AOper := [
  ⟨some 6, .mv (.c (.int .i64 0)), none, []⟩]
abbrev r21_1 : List AOper := [
  ⟨some 7, .mv (.t 1), none, []⟩,
  ⟨some 8, .mv (.t 0), none, []⟩,
  ⟨some 9, .nilchk (.t 8), none, [1]⟩,
  ⟨some 10, .faddr 0 (.t 9), none, [2]⟩,
  ⟨some 11, .load none (.t 10), none, [3]⟩,
  ⟨some 12, .len 0 (.t 11), none, [4]⟩,
  ⟨some 13, .bin .lss (.t 7) (.t 12), none, [0, 5]⟩,
  ⟨some 14, .mv (.t 13), none, [6]⟩,
  ⟨some 15, .mv (.t 2), some (14, true), [7]⟩,
  ⟨some 16, .mv (.t 0), some (14, true), [7]⟩,
  ⟨some 17, .nilchk (.t 16), some (14, true), [9, 7]⟩,
  ⟨some 18, .faddr 0 (.t 17), some (14, true), [10, 7]⟩,
  ⟨some 19, .load none (.t 18), some (14, true), [11, 7]⟩,
  ⟨some 20, .mv (.t 1), some (14, true), [7]⟩,
  ⟨some 21, .idxS (.t 19) (.t 20), some (14, true), [12, 13, 7]⟩,
  ⟨some 22, .callV (.t 15) [(.t 21)], some (14, true), [8, 14, 7, 7]⟩,
  ⟨some 23, .pick (.t 14) (.t 22) (.c (.bool false)), none, [7, 15]⟩]
abbrev r21_2 : List AOper := [
  ⟨some 24, .mv (.t 1), none, []⟩,
  ⟨some 25, .bin .add (.t 24) (.c (.int .i64 1)), none, [0]⟩,
  ⟨some 1, .mv (.t 25), none, [1, 0, 1]⟩]
def l21_0 : ACode :=
  .seq (
  .seq (
  .region false r21_1 [0, 1, 2, 23]) (
  .cond (.t 23) (
    .skip) (
    .exit 0))) (
  .block 1 (
    .region false r21_2 [0, 1, 2]))
abbrev r21_3 : List AOper := [
  ⟨some 26, .mv (.t 1), none, []⟩,
  ⟨some 6, .mv (.t 26), none, [0, 0]⟩]
def k21 : List (List Nat) := [[0, 1, 2], [0, 1, 2, 23], [0, 1, 2], [6]]
def f21 : AFunc := { ntmps := 27, results := [.tmp 6], body := (
  .seq (
  .region false r21_0 [0, 1, 2]) (
  .seq (
  .block 0 (
    .loop l21_0)) (
  .seq (
  .region false r21_3 [6]) (
  .ret)))) }
theorem c21 : cfunc Tryd.prog (kof k21) Tryd.f21 = some f21 := by kernel_rfl

/-- exitwave/lex.Tokens$1 -/
abbrev r22_0 : List AOper := [
  ⟨some 2, .mv (.c (.bool false)), none, []⟩]
abbrev r22_1 : List AOper := [
  ⟨some 3, .mv (.t 0), none, []⟩,
  ⟨some 4, .bin .neq (.t 3) (.c (.int .u8 10)), none, [0]⟩,
  ⟨some 2, .mv (.t 4), none, [1, 0, 1]⟩]
def k22 : List (List Nat) := [[0], [2]]
def f22 : AFunc := { ntmps := 5, results := [.tmp 2], body := (
  .seq (
  .region false r22_0 [0]) (
  .seq (
  .region false r22_1 [2]) (
  .ret))) }
theorem c22 : cfunc Tryd.prog (kof k22) Tryd.f22 = some f22 := by kernel_rfl

/-- (*exitwave/lex.scanner).token -/
abbrev r23_0 : List AOper := [
  ⟨some 2, .alloc 35 (.agg [.int .i64 0, .str ⟨#[]⟩, .int .i64 0, .flt .f64 0, .int .i64 0]), none, []⟩,
  ⟨some 3, .mv (.c (.int .i64 0)), none, []⟩]
abbrev r23_1 : List AOper := [
  ⟨some 6, .mv (.t 0), none, []⟩,
  ⟨some 7, .nilchk (.t 6), none, [0]⟩,
  ⟨some 8, .faddr 0 (.t 7), none, [1]⟩,
  ⟨some 9, .load none (.t 8), none, [2]⟩,
  ⟨some 10, .mv (.t 0), none, []⟩,
  ⟨some 11, .nilchk (.t 10), none, [4]⟩,
  ⟨some 12, .faddr 1 (.t 11), none, [5]⟩,
  ⟨some 13, .load none (.t 12), none, [6]⟩,
  ⟨some 14, .idxS (.t 9) (.t 13), none, [3, 7]⟩,
  ⟨some 4, .mv (.c (.str ⟨#[]⟩)), none, []⟩,
  ⟨some 5, .mv (.t 14), none, [8, 9, 0, 1, 2, 3, 4, 5, 6, 7, 8, 9]⟩]
abbrev r23_2 : List AOper := [
  ⟨some 16, .mv (.t 5), none, []⟩,
  ⟨some 17, .callF 32 [(.t 16)], none, [0]⟩,
  ⟨some 15, .mv (.t 17), none, [1, 1]⟩]
abbrev r23_3 : List AOper := [
  ⟨some 19, .mv (.t 5), none, []⟩,
  ⟨some 20, .callF 33 [(.t 19)], none, [0]⟩,
  ⟨some 21, .mv (.t 20), none, [1, 1]⟩,
  ⟨some 22, .mv (.t 5), some (21, false), [2]⟩,
  ⟨some 23, .bin .eql (.t 22) (.c (.int .u8 95)), some (21, false), [3, 2]⟩,
  ⟨some 24, .pick (.t 21) (.c (.bool true)) (.t 23), none, [2, 4]⟩,
  ⟨some 18, .mv (.t 24), none, [5, 2]⟩]
abbrev r23_4 : List AOper := [
  ⟨some 26, .mv (.t 5), none, []⟩,
  ⟨some 27, .callF 34 [(.t 26)], none, [0]⟩,
  ⟨some 25, .mv (.t 27), none, [1, 1]⟩]
abbrev r23_5 : List AOper := [
  ⟨some 28, .mv (.t 0), none, []⟩,
  ⟨some 29, .callF 35 [(.t 28)], none, [0]⟩,
  ⟨some 30, .extract (.t 29) 0, none, [1]⟩,
  ⟨some 31, .extract (.t 29) 1, none, [1]⟩,
  ⟨none, .store 5 (.t 2) (.t 30), none, [2, 1, 0, 1, 2, 3]⟩,
  ⟨some 3, .mv (.t 31), none, [3, 4, 0, 1, 2, 3, 4]⟩]
abbrev r23_6 : List AOper := [
  ⟨some 33, .mv (.t 5), none, []⟩,
  ⟨some 34, .bin .eql (.t 33) (.c (.int .u8 35)), none, [0]⟩,
  ⟨some 32, .mv (.t 34), none, [1]⟩]
abbrev r23_7 : List AOper := [
  ⟨some 35, .mv (.t 0), none, []⟩,
  ⟨some 36, .callF 36 [(.t 35)], none, [0]⟩,
  ⟨some 37, .extract (.t 36) 0, none, [1]⟩,
  ⟨some 38, .extract (.t 36) 1, none, [1]⟩,
  ⟨none, .store 5 (.t 2) (.t 37), none, [2, 1, 0, 1, 2, 3]⟩,
  ⟨some 3, .mv (.t 38), none, [3, 4, 0, 1, 2, 3, 4]⟩]
abbrev r23_8 : List AOper := [
  ⟨some 40, .mv (.t 5), none, []⟩,
  ⟨some 41, .bin .eql (.t 40) (.c (.int .u8 39)), none, [0]⟩,
  ⟨some 39, .mv (.t 41), none, [1]⟩]
abbrev r23_9 : List AOper := [
  ⟨some 43, .mv (.t 5), none, []⟩,
  ⟨some 44, .bin .eql (.t 43) (.c (.int .u8 34)), none, [0]⟩,
  ⟨some 42, .mv (.t 44), none, [1]⟩]
abbrev r23_10 : List AOper := [
  ⟨some 46, .mv (.t 0), none, []⟩,
  ⟨some 47, .mv (.t 5), none, []⟩,
  ⟨some 48, .callF 37 [(.t 46), (.t 47)], none, [0, 1]⟩,
  ⟨some 45, .mv (.t 48), none, [2]⟩,
  ⟨some 49, .extract (.t 45) 0, none, [3]⟩,
  ⟨some 50, .extract (.t 45) 1, none, [3]⟩,
  ⟨some 4, .mv (.t 49), none, [4, 2, 0, 1, 2, 3, 4]⟩,
  ⟨some 3, .mv (.t 50), none, [5, 6, 0, 1, 2, 3, 4, 5, 6]⟩]
abbrev r23_11 : List AOper := [
  ⟨some 51, .mv (.t 4), none, []⟩,
  ⟨some 52, .build [.int .i64 0, .str ⟨#[]⟩, .int .i64 0, .flt .f64 0, .int .i64 0] [(0, 1, (.c (.int .i64 5))), (1, 1, (.t 51))], none, [0]⟩,
  ⟨some 53, .mv (.t 3), none, []⟩,
  ⟨none, .store 5 (.t 2) (.t 52), none, [1, 0, 1]⟩,
  ⟨some 3, .mv (.t 53), none, [2, 3, 0, 1, 2, 3]⟩]
abbrev r23_12 : List AOper := [
  ⟨some 54, .mv (.t 0), none, []⟩,
  ⟨some 55, .callF 38 [(.t 54)], none, [0]⟩,
  ⟨some 4, .mv (.t 55), none, [1, 1, 0, 1]⟩]
abbrev r23_13 : List AOper := [
  ⟨some 56, .mv (.t 4), none, []⟩,
  ⟨some 57, .bin .eql (.t 56) (.c (.str ⟨#[]⟩)), none, [0]⟩]
abbrev r23_14 : List AOper := [
  ⟨some 58, .mv (.t 0), none, []⟩,
  ⟨some 59, .nilchk (.t 58), none, [0, 0]⟩,
  ⟨some 60, .faddr 2 (.t 59), none, [1, 0]⟩,
  ⟨none, .store 1 (.t 60) (.c (.int .i64 21)), none, [2, 0]⟩]
abbrev r23_15 : List AOper := [
  ⟨some 61, .mv (.t 4), none, []⟩,
  ⟨some 62, .build [.int .i64 0, .str ⟨#[]⟩, .int .i64 0, .flt .f64 0, .int .i64 0] [(0, 1, (.c (.int .i64 6))), (1, 1, (.t 61))], none, [0]⟩,
  ⟨some 63, .mv (.t 0), none, []⟩,
  ⟨some 64, .nilchk (.t 63), none, [2]⟩,
  ⟨some 65, .faddr 1 (.t 64), none, [3]⟩,
  ⟨some 66, .load none (.t 65), none, [4]⟩,
  ⟨some 67, .mv (.t 4), none, []⟩,
  ⟨some 68, .len 0 (.t 67), none, [6]⟩,
  ⟨some 69, .bin .add (.t 66) (.t 68), none, [5, 7]⟩,
  ⟨none, .store 5 (.t 2) (.t 62), none, [1, 0, 1]⟩,
  ⟨some 3, .mv (.t 69), none, [8, 9, 0, 1, 2, 3, 4, 5, 6, 7, 8, 9]⟩]
abbrev r23_16 : List AOper := [
  ⟨some 70, .mv (.t 0), none, []⟩,
  ⟨some 71, .mv (.t 0), none, []⟩,
  ⟨some 72, .nilchk (.t 71), none, [1]⟩,
  ⟨some 73, .faddr 1 (.t 72), none, [2]⟩,
  ⟨some 74, .load none (.t 73), none, [3]⟩,
  ⟨some 75, .callF 21 [(.t 70), (.t 74), (.c (.fn (.func 39) [] []))], none, [0, 4]⟩,
  ⟨some 3, .mv (.t 75), none, [5, 5, 0, 1, 2, 3, 4, 5]⟩]
abbrev r23_17 : List AOper := [
  ⟨some 76, .mv (.t 0), none, []⟩,
  ⟨some 77, .nilchk (.t 76), none, [0]⟩,
  ⟨some 78, .faddr 0 (.t 77), none, [1]⟩,
  ⟨some 79, .load none (.t 78), none, [2]⟩,
  ⟨some 80, .mv (.t 0), none, []⟩,
  ⟨some 81, .nilchk (.t 80), none, [4]⟩,
  ⟨some 82, .faddr 1 (.t 81), none, [5]⟩,
  ⟨some 83, .load none (.t 82), none, [6]⟩,
  ⟨some 84, .mv (.t 3), none, []⟩,
  ⟨some 85, .slcS (.t 79) (some (.t 83)) (some (.t 84)), none, [3, 7, 8]⟩,
  ⟨some 4, .mv (.t 85), none, [9, 0, 1, 2, 3, 4, 5, 6, 7, 8, 9]⟩]
abbrev r23_18 : List AOper := [
  ⟨some 86, .mv (.t 4), none, []⟩,
  ⟨some 87, .callF 13 [(.t 86)], none, [0]⟩]
abbrev r23_19 : List AOper := [
  ⟨some 88, .mv (.t 4), none, []⟩,
  ⟨some 89, .build [.int .i64 0, .str ⟨#[]⟩, .int .i64 0, .flt .f64 0, .int .i64 0] [(0, 1, (.c (.int .i64 7))), (1, 1, (.t 88))], none, [0]⟩,
  ⟨some 90, .mv (.t 3), none, []⟩,
  ⟨none, .store 5 (.t 2) (.t 89), none, [1, 0, 1]⟩,
  ⟨some 3, .mv (.t 90), none, [2, 3, 0, 1, 2, 3]⟩]
abbrev r23_20 : List AOper := [
  ⟨some 91, .mv (.t 0), none, []⟩,
  ⟨some 92, .mv (.t 0), none, []⟩,
  ⟨some 93, .nilchk (.t 92), none, [1]⟩,
  ⟨some 94, .faddr 1 (.t 93), none, [2]⟩,
  ⟨some 95, .load none (.t 94), none, [3]⟩,
  ⟨some 96, .callF 21 [(.t 91), (.t 95), (.c (.fn (.func 39) [] []))], none, [0, 4]⟩,
  ⟨some 3, .mv (.t 96), none, [5, 5, 0, 1, 2, 3, 4, 5]⟩]
abbrev r23_21 : List AOper := [
  ⟨some 97, .mv (.t 0), none, []⟩,
  ⟨some 98, .nilchk (.t 97), none, [0]⟩,
  ⟨some 99, .faddr 0 (.t 98), none, [1]⟩,
  ⟨some 100, .load none (.t 99), none, [2]⟩,
  ⟨some 101, .mv (.t 0), none, []⟩,
  ⟨some 102, .nilchk (.t 101), none, [4]⟩,
  ⟨some 103, .faddr 1 (.t 102), none, [5]⟩,
  ⟨some 104, .load none (.t 103), none, [6]⟩,
  ⟨some 105, .mv (.t 3), none, []⟩,
  ⟨some 106, .slcS (.t 100) (some (.t 104)) (some (.t 105)), none, [3, 7, 8]⟩,
  ⟨some 107, .build [.int .i64 0, .str ⟨#[]⟩, .int .i64 0, .flt .f64 0, .int .i64 0] [(0, 1, (.c (.int .i64 2))), (1, 1, (.t 106))], none, [9]⟩,
  ⟨some 108, .mv (.t 3), none, []⟩,
  ⟨none, .store 5 (.t 2) (.t 107), none, [10, 0, 1, 2, 3, 4, 5, 6, 7, 8, 9, 10]⟩,
  ⟨some 3, .mv (.t 108), none, [11, 12, 0, 1, 2, 3, 4, 5, 6, 7, 8, 9, 10, 11, 12]⟩]
abbrev r23_22 : List AOper := [
  ⟨some 110, .mv (.t 0), none, []⟩,
  ⟨some 111, .mv (.t 5), none, []⟩,
  ⟨some 112, .callF 37 [(.t 110), (.t 111)], none, [0, 1]⟩,
  ⟨some 109, .mv (.t 112), none, [2]⟩,
  ⟨some 113, .extract (.t 109) 0, none, [3]⟩,
  ⟨some 114, .extract (.t 109) 1, none, [3]⟩,
  ⟨some 4, .mv (.t 113), none, [4, 2, 0, 1, 2, 3, 4]⟩,
  ⟨some 3, .mv (.t 114), none, [5, 6, 0, 1, 2, 3, 4, 5, 6]⟩]
abbrev r23_23 : List AOper := [
  ⟨some 115, .mv (.t 0), none, []⟩,
  ⟨some 116, .nilchk (.t 115), none, [0]⟩,
  ⟨some 117, .faddr 2 (.t 116), none, [1]⟩,
  ⟨some 118, .load none (.t 117), none, [2]⟩,
  ⟨some 119, .bin .eql (.t 118) (.c (.int .i64 0)), none, [3]⟩,
  ⟨some 120, .mv (.t 119), none, [4]⟩,
  ⟨some 121, .mv (.t 4), some (120, true), [5]⟩,
  ⟨some 122, .len 0 (.t 121), some (120, true), [6, 5]⟩,
  ⟨some 123, .bin .gtr (.t 122) (.c (.int .i64 64)), some (120, true), [7, 5]⟩,
  ⟨some 124, .pick (.t 120) (.t 123) (.c (.bool false)), none, [5, 8]⟩]
abbrev r23_24 : List AOper := [
  ⟨some 125, .mv (.t 0), none, []⟩,
  ⟨some 126, .nilchk (.t 125), none, [0, 0]⟩,
  ⟨some 127, .faddr 2 (.t 126), none, [1, 0]⟩,
  ⟨none, .store 1 (.t 127) (.c (.int .i64 23)), none, [2, 0]⟩]
abbrev r23_25 : List AOper := [
  ⟨some 128, .mv (.t 4), none, []⟩,
  ⟨some 129, .build [.int .i64 0, .str ⟨#[]⟩, .int .i64 0, .flt .f64 0, .int .i64 0] [(0, 1, (.c (.int .i64 1))), (1, 1, (.t 128))], none, [0]⟩,
  ⟨some 130, .mv (.t 3), none, []⟩,
  ⟨none, .store 5 (.t 2) (.t 129), none, [1, 0, 1]⟩,
  ⟨some 3, .mv (.t 130), none, [2, 3, 0, 1, 2, 3]⟩]
def m23_1 : List Nat := [0, 1, 3, 7, 0, 16, 48, 112, 255, 0, 1023]
theorem d23_1 : okDraw r23_1 m23_1 = true := by kernel_rfl
def m23_15 : List Nat := [0, 1, 0, 4, 12, 28, 0, 64, 252, 3, 1023]
theorem d23_15 : okDraw r23_15 m23_15 = true := by kernel_rfl
def m23_17 : List Nat := [0, 1, 3, 7, 0, 16, 48, 112, 0, 511, 1023]
theorem d23_17 : okDraw r23_17 m23_17 = true := by kernel_rfl
def m23_21 : List Nat := [0, 1, 3, 7, 0, 16, 48, 112, 0, 511, 1023, 0, 2047, 8191]
theorem d23_21 : okDraw r23_21 m23_21 = true := by kernel_rfl
def k23 : List (List Nat) := [[0, 2], [0, 2, 5], [0, 2, 5, 15], [0, 2, 5, 18], [0, 2, 5, 25], [2, 3], [0, 2, 5, 32], [2, 3], [0, 2, 5, 39], [0, 2, 5, 42], [2, 3, 4], [2, 3], [0, 2, 4], [0, 2, 4, 57], [0, 2, 4], [2, 3], [0, 2, 3], [0, 2, 3, 4], [0, 2, 3, 4, 87], [2, 3], [0, 2, 3], [2, 3], [0, 2, 3, 4], [0, 2, 3, 4, 124], [2, 3, 4], [2, 3]]
def f23 : AFunc := { ntmps := 131, results := [.cell 2 (some 5), .tmp 3], body := (
  .seq (
  .region false r23_0 [0, 2]) (
  .scope (
    .seq (
    .region true r23_1 [0, 2, 5]) (
    .seq (
    .block 0 (
      .seq (
      .region false r23_2 [0, 2, 5, 15]) (
      .cond (.t 15) (
        .goto 0) (
        .seq (
        .region false r23_3 [0, 2, 5, 18]) (
        .cond (.t 18) (
          .goto 1) (
          .seq (
          .region false r23_4 [0, 2, 5, 25]) (
          .cond (.t 25) (
            .seq (
            .region false r23_5 [2, 3]) (
            .ret)) (
            .seq (
            .region false r23_6 [0, 2, 5, 32]) (
            .cond (.t 32) (
              .seq (
              .region false r23_7 [2, 3]) (
              .ret)) (
              .seq (
              .region false r23_8 [0, 2, 5, 39]) (
              .cond (.t 39) (
                .goto 2) (
                .seq (
                .region false r23_9 [0, 2, 5, 42]) (
                .cond (.t 42) (
                  .seq (
                  .region false r23_10 [2, 3, 4]) (
                  .seq (
                  .region false r23_11 [2, 3]) (
                  .ret))) (
                  .skip)))))))))))))) (
    .seq (
    .seq (
    .region false r23_12 [0, 2, 4]) (
    .seq (
    .region false r23_13 [0, 2, 4, 57]) (
    .cond (.t 57) (
      .region false r23_14 [0, 2, 4]) (
      .skip)))) (
    .seq (
    .seq (
    .region true r23_15 [2, 3]) (
    .ret)) (
    .seq (
    .label 0) (
    .seq (
    .region false r23_16 [0, 2, 3]) (
    .seq (
    .region true r23_17 [0, 2, 3, 4]) (
    .seq (
    .seq (
    .region false r23_18 [0, 2, 3, 4, 87]) (
    .cond (.t 87) (
      .seq (
      .region false r23_19 [2, 3]) (
      .ret)) (
      .skip))) (
    .seq (
    .goto 3) (
    .seq (
    .label 1) (
    .seq (
    .region false r23_20 [0, 2, 3]) (
    .seq (
    .seq (
    .region true r23_21 [2, 3]) (
    .ret)) (
    .seq (
    .label 2) (
    .seq (
    .region false r23_22 [0, 2, 3, 4]) (
    .seq (
    .label 3) (
    .seq (
    .seq (
    .region false r23_23 [0, 2, 3, 4, 124]) (
    .cond (.t 124) (
      .region false r23_24 [2, 3, 4]) (
      .skip))) (
    .seq (
    .region false r23_25 [2, 3]) (
    .ret)))))))))))))))))))) }
theorem c23 : cfunc Tryd.prog (kof k23) Tryd.f23 = some f23 := by kernel_rfl

/-- exitwave/exitwaveref5.passed -/
abbrev r24_0 : List AOper := [
  ⟨some 4, .mv (.c (.int .i64 0)), none, []⟩]
abbrev r24_1 : List AOper := [
  ⟨some 6, .mv (.t 1), none, []⟩,
  ⟨some 7, .mv (.t 0), none, []⟩,
  ⟨some 8, .len 0 (.t 7), none, [1]⟩,
  ⟨some 9, .bin .lss (.t 6) (.t 8), none, [0, 2]⟩]
abbrev r24_2 : List AOper := [
  ⟨some 10, .mv (.t 0), none, []⟩,
  ⟨some 11, .mv (.t 1), none, []⟩,
  ⟨some 12, .idxS (.t 10) (.t 11), none, [0, 1]⟩,
  ⟨some 5, .mv (.t 12), none, [2, 0, 1, 2]⟩]
abbrev r24_3 : List AOper := [
  ⟨some 13, .mv (.t 5), none, []⟩,
  ⟨some 14, .bin .eql (.t 13) (.c (.int .u8 37)), none, [0]⟩]
abbrev r24_4 : List AOper := [
  ⟨some 15, .mv (.t 1), none, []⟩,
  ⟨some 16, .mv (.t 0), none, []⟩,
  ⟨some 17, .len 0 (.t 16), none, [1]⟩,
  ⟨some 18, .bin .lss (.t 15) (.t 17), none, [0, 2]⟩,
  ⟨some 19, .mv (.t 18), none, [3]⟩,
  ⟨some 20, .mv (.t 0), some (19, true), [4]⟩,
  ⟨some 21, .mv (.t 1), some (19, true), [4]⟩,
  ⟨some 22, .idxS (.t 20) (.t 21), some (19, true), [5, 6, 4]⟩,
  ⟨some 23, .bin .neq (.t 22) (.c (.int .u8 10)), some (19, true), [7, 4]⟩,
  ⟨some 24, .pick (.t 19) (.t 23) (.c (.bool false)), none, [4, 8]⟩]
abbrev r24_5 : List AOper := [
  ⟨some 25, .mv (.t 1), none, []⟩,
  ⟨some 26, .bin .add (.t 25) (.c (.int .i64 1)), none, [0]⟩,
  ⟨some 1, .mv (.t 26), none, [1, 0, 1]⟩]
def l24_0 : ACode :=
  .seq (
  .seq (
  .region false r24_4 [0, 1, 24]) (
  .cond (.t 24) (
    .skip) (
    .exit 2))) (
  .block 3 (
    .region false r24_5 [0, 1]))
abbrev r24_6 : List AOper := [
  ⟨some 27, .mv (.t 5), none, []⟩,
  ⟨some 28, .bin .eql (.t 27) (.c (.int .u8 9)), none, [0]⟩,
  ⟨some 29, .mv (.t 28), none, [1]⟩,
  ⟨some 30, .mv (.t 5), some (29, false), [2]⟩,
  ⟨some 31, .bin .eql (.t 30) (.c (.int .u8 10)), some (29, false), [3, 2]⟩,
  ⟨some 32, .pick (.t 29) (.c (.bool true)) (.t 31), none, [2, 4]⟩,
  ⟨some 33, .mv (.t 32), none, [5, 2]⟩,
  ⟨some 34, .mv (.t 5), some (33, false), [6]⟩,
  ⟨some 35, .bin .eql (.t 34) (.c (.int .u8 13)), some (33, false), [7, 6]⟩,
  ⟨some 36, .pick (.t 33) (.c (.bool true)) (.t 35), none, [6, 8]⟩,
  ⟨some 37, .mv (.t 36), none, [9, 6]⟩,
  ⟨some 38, .mv (.t 5), some (37, false), [10]⟩,
  ⟨some 39, .bin .eql (.t 38) (.c (.int .u8 32)), some (37, false), [11, 10]⟩,
  ⟨some 40, .pick (.t 37) (.c (.bool true)) (.t 39), none, [10, 12]⟩]
abbrev r24_7 : List AOper := [
  ⟨some 41, .mv (.t 1), none, []⟩,
  ⟨some 42, .bin .add (.t 41) (.c (.int .i64 1)), none, [0]⟩,
  ⟨some 1, .mv (.t 42), none, [1, 0, 1]⟩]
abbrev r24_8 : List AOper := [
  ⟨some 43, .mv (.t 1), none, []⟩,
  ⟨some 4, .mv (.t 43), none, [0, 0]⟩]
def l24_1 : ACode :=
  .seq (
  .seq (
  .region false r24_1 [0, 1, 9]) (
  .cond (.t 9) (
    .skip) (
    .exit 0))) (
  .block 1 (
    .seq (
    .region false r24_2 [0, 1, 5]) (
    .seq (
    .region false r24_3 [0, 1, 5, 14]) (
    .cond (.t 14) (
      .block 2 (
        .loop l24_0)) (
      .seq (
      .region false r24_6 [0, 1, 40]) (
      .cond (.t 40) (
        .region false r24_7 [0, 1]) (
        .seq (
        .region false r24_8 [4]) (
        .ret))))))))
abbrev r24_9 : List AOper := [
  ⟨some 44, .mv (.t 1), none, []⟩,
  ⟨some 4, .mv (.t 44), none, [0, 0]⟩]
def k24 : List (List Nat) := [[0, 1], [0, 1, 9], [0, 1, 5], [0, 1, 5, 14], [0, 1, 24], [0, 1], [0, 1, 40], [0, 1], [4], [4]]
def f24 : AFunc := { ntmps := 45, results := [.tmp 4], body := (
  .seq (
  .region false r24_0 [0, 1]) (
  .seq (
  .block 0 (
    .loop l24_1)) (
  .seq (
  .region false r24_9 [4]) (
  .ret)))) }
theorem c24 : cfunc Tryd.prog (kof k24) Tryd.f24 = some f24 := by kernel_rfl

/-- exitwave/exitwaveref5.token -/
abbrev r25_0 : List AOper := [
  ⟨some 4, .alloc 35 (.agg [.int .i64 0, .str ⟨#[]⟩, .int .i64 0, .flt .f64 0, .int .i64 0]), none, []⟩,
  ⟨some 5, .mv (.c (.int .i64 0)), none, []⟩,
  ⟨some 6, .mv (.c (.int .i64 0)), none, [1]⟩]
abbrev r25_1 : List AOper := [
  ⟨some 14, .mv (.t 0), none, []⟩,
  ⟨some 15, .mv (.t 1), none, []⟩,
  ⟨some 16, .idxS (.t 14) (.t 15), none, [0, 1]⟩,
  ⟨some 7, .mv (.t 16), none, [2, 0, 1, 2]⟩]
abbrev r25_2 : List AOper := [
  ⟨some 17, .mv (.t 7), none, []⟩,
  ⟨some 18, .bin .geq (.t 17) (.c (.int .u8 97)), none, [0]⟩,
  ⟨some 19, .mv (.t 18), none, [1]⟩,
  ⟨some 20, .mv (.t 7), some (19, true), [2]⟩,
  ⟨some 21, .bin .leq (.t 20) (.c (.int .u8 122)), some (19, true), [3, 2]⟩,
  ⟨some 22, .pick (.t 19) (.t 21) (.c (.bool false)), none, [2, 4]⟩,
  ⟨some 23, .mv (.t 22), none, [5, 2]⟩,
  ⟨some 24, .mv (.t 7), some (23, false), [6]⟩,
  ⟨some 25, .bin .geq (.t 24) (.c (.int .u8 65)), some (23, false), [7, 6]⟩,
  ⟨some 26, .mv (.t 25), some (23, false), [8, 6, 6]⟩,
  ⟨some 27, .mv (.t 7), some (26, true), [9]⟩,
  ⟨some 28, .bin .leq (.t 27) (.c (.int .u8 90)), some (26, true), [10, 9]⟩,
  ⟨some 29, .pick (.t 26) (.t 28) (.c (.bool false)), some (23, false), [9, 11, 6]⟩,
  ⟨some 30, .pick (.t 23) (.c (.bool true)) (.t 29), none, [6, 12]⟩,
  ⟨some 31, .mv (.t 30), none, [13, 9]⟩,
  ⟨some 32, .mv (.t 7), some (31, false), [14]⟩,
  ⟨some 33, .bin .eql (.t 32) (.c (.int .u8 95)), some (31, false), [15, 14]⟩,
  ⟨some 34, .pick (.t 31) (.c (.bool true)) (.t 33), none, [14, 16]⟩]
abbrev r25_3 : List AOper := [
  ⟨some 35, .mv (.t 0), none, []⟩,
  ⟨some 36, .mv (.t 1), none, []⟩,
  ⟨some 37, .callF 40 [(.t 35), (.t 36)], none, [0, 1]⟩,
  ⟨some 8, .mv (.t 37), none, [2, 2, 0, 1, 2]⟩]
abbrev r25_4 : List AOper := [
  ⟨some 38, .mv (.t 0), none, []⟩,
  ⟨some 39, .mv (.t 1), none, []⟩,
  ⟨some 40, .mv (.t 8), none, []⟩,
  ⟨some 41, .slcS (.t 38) (some (.t 39)) (some (.t 40)), none, [0, 1, 2]⟩,
  ⟨some 42, .mv (.t 1), none, []⟩,
  ⟨some 43, .build [.int .i64 0, .str ⟨#[]⟩, .int .i64 0, .flt .f64 0, .int .i64 0] [(0, 1, (.c (.int .i64 2))), (1, 1, (.t 41)), (4, 1, (.t 42))], none, [3, 4]⟩,
  ⟨some 9, .alloc 35 (.agg [.int .i64 0, .str ⟨#[]⟩, .int .i64 0, .flt .f64 0, .int .i64 0]), none, []⟩,
  ⟨none, .store 5 (.t 9) (.t 43), none, [6, 5, 0, 1, 2, 3, 4, 5, 6]⟩]
abbrev r25_5 : List AOper := [
  ⟨some 44, .mv (.t 7), none, []⟩,
  ⟨some 45, .bin .geq (.t 44) (.c (.int .u8 97)), none, [0]⟩,
  ⟨some 46, .mv (.t 45), none, [1]⟩,
  ⟨some 47, .mv (.t 7), some (46, true), [2]⟩,
  ⟨some 48, .bin .leq (.t 47) (.c (.int .u8 122)), some (46, true), [3, 2]⟩,
  ⟨some 49, .pick (.t 46) (.t 48) (.c (.bool false)), none, [2, 4]⟩]
abbrev r25_6 : List AOper := [
  ⟨some 50, .faddr 0 (.t 9), none, []⟩,
  ⟨none, .store 1 (.t 50) (.c (.int .i64 1)), none, [0]⟩]
abbrev r25_7 : List AOper := [
  ⟨some 51, .faddr 1 (.t 9), none, []⟩,
  ⟨some 52, .load none (.t 51), none, [0]⟩,
  ⟨some 53, .callF 14 [(.t 52)], none, [1]⟩]
abbrev r25_8 : List AOper := [
  ⟨some 54, .faddr 0 (.t 9), none, []⟩,
  ⟨none, .store 1 (.t 54) (.c (.int .i64 7)), none, [0]⟩]
abbrev r25_9 : List AOper := [
  ⟨some 55, .faddr 1 (.t 9), none, []⟩,
  ⟨some 56, .load none (.t 55), none, [0]⟩,
  ⟨some 57, .len 0 (.t 56), none, [1]⟩,
  ⟨some 58, .bin .gtr (.t 57) (.c (.int .i64 64)), none, [2]⟩]
abbrev r25_10 : List AOper := [
  ⟨some 59, .build [.int .i64 0, .str ⟨#[]⟩, .int .i64 0, .flt .f64 0, .int .i64 0] [], none, []⟩,
  ⟨none, .store 5 (.t 4) (.t 59), none, [0, 0]⟩,
  ⟨some 5, .mv (.c (.int .i64 0)), none, [1, 0, 1]⟩,
  ⟨some 6, .mv (.c (.int .i64 23)), none, [2, 0, 1, 2]⟩]
abbrev r25_11 : List AOper := [
  ⟨some 60, .load (some 5) (.t 9), none, []⟩,
  ⟨some 61, .mv (.t 8), none, []⟩,
  ⟨none, .store 5 (.t 4) (.t 60), none, [0, 0]⟩,
  ⟨some 5, .mv (.t 61), none, [1, 2, 0, 1, 2]⟩,
  ⟨some 6, .mv (.c (.int .i64 0)), none, [3, 0, 1, 2, 3]⟩]
abbrev r25_12 : List AOper := [
  ⟨some 62, .mv (.t 7), none, []⟩,
  ⟨some 63, .callF 41 [(.t 62)], none, [0]⟩]
abbrev r25_13 : List AOper := [
  ⟨some 64, .mv (.t 0), none, []⟩,
  ⟨some 65, .mv (.t 1), none, []⟩,
  ⟨some 66, .callF 42 [(.t 64), (.t 65)], none, [0, 1]⟩,
  ⟨some 67, .extract (.t 66) 0, none, [2]⟩,
  ⟨some 68, .extract (.t 66) 1, none, [2]⟩,
  ⟨some 69, .extract (.t 66) 2, none, [2]⟩,
  ⟨none, .store 5 (.t 4) (.t 67), none, [3, 2, 0, 1, 2, 3, 4, 5]⟩,
  ⟨some 5, .mv (.t 68), none, [4, 6, 0, 1, 2, 3, 4, 5, 6]⟩,
  ⟨some 6, .mv (.t 69), none, [5, 7, 0, 1, 2, 3, 4, 5, 6, 7]⟩]
abbrev r25_14 : List AOper := [
  ⟨some 70, .mv (.t 7), none, []⟩,
  ⟨some 71, .bin .eql (.t 70) (.c (.int .u8 35)), none, [0]⟩]
abbrev r25_15 : List AOper := [
  ⟨some 72, .mv (.t 0), none, []⟩,
  ⟨some 73, .mv (.t 1), none, []⟩,
  ⟨some 74, .callF 43 [(.t 72), (.t 73)], none, [0, 1]⟩,
  ⟨some 75, .extract (.t 74) 0, none, [2]⟩,
  ⟨some 76, .extract (.t 74) 1, none, [2]⟩,
  ⟨some 77, .extract (.t 74) 2, none, [2]⟩,
  ⟨none, .store 5 (.t 4) (.t 75), none, [3, 2, 0, 1, 2, 3, 4, 5]⟩,
  ⟨some 5, .mv (.t 76), none, [4, 6, 0, 1, 2, 3, 4, 5, 6]⟩,
  ⟨some 6, .mv (.t 77), none, [5, 7, 0, 1, 2, 3, 4, 5, 6, 7]⟩]
abbrev r25_16 : List AOper := [
  ⟨some 78, .mv (.t 7), none, []⟩,
  ⟨some 79, .bin .eql (.t 78) (.c (.int .u8 39)), none, [0]⟩,
  ⟨some 80, .mv (.t 79), none, [1]⟩,
  ⟨some 81, .mv (.t 7), some (80, false), [2]⟩,
  ⟨some 82, .bin .eql (.t 81) (.c (.int .u8 34)), some (80, false), [3, 2]⟩,
  ⟨some 83, .pick (.t 80) (.c (.bool true)) (.t 82), none, [2, 4]⟩]
abbrev r25_17 : List AOper := [
  ⟨some 85, .mv (.t 0), none, []⟩,
  ⟨some 86, .mv (.t 1), none, []⟩,
  ⟨some 87, .callF 44 [(.t 85), (.t 86)], none, [0, 1]⟩,
  ⟨some 84, .mv (.t 87), none, [2]⟩,
  ⟨some 88, .extract (.t 84) 0, none, [3]⟩,
  ⟨some 89, .extract (.t 84) 1, none, [3]⟩,
  ⟨some 90, .extract (.t 84) 2, none, [3]⟩,
  ⟨some 10, .mv (.t 88), none, [4, 2, 0, 1, 2, 3, 4]⟩,
  ⟨some 11, .mv (.t 89), none, [5, 7, 0, 1, 2, 3, 4, 5, 7]⟩,
  ⟨some 12, .mv (.t 90), none, [6, 8, 0, 1, 2, 3, 4, 5, 6, 7, 8]⟩]
abbrev r25_18 : List AOper := [
  ⟨some 91, .mv (.t 12), none, []⟩,
  ⟨some 92, .un .not (.t 91), none, [0]⟩,
  ⟨some 93, .mv (.t 92), none, [1]⟩,
  ⟨some 94, .mv (.t 7), some (93, false), [2]⟩,
  ⟨some 95, .bin .eql (.t 94) (.c (.int .u8 39)), some (93, false), [3, 2]⟩,
  ⟨some 96, .mv (.t 95), some (93, false), [4, 2, 2]⟩,
  ⟨some 97, .mv (.t 10), some (96, true), [5]⟩,
  ⟨some 98, .len 0 (.t 97), some (96, true), [6, 5]⟩,
  ⟨some 99, .bin .gtr (.t 98) (.c (.int .i64 64)), some (96, true), [7, 5]⟩,
  ⟨some 100, .pick (.t 96) (.t 99) (.c (.bool false)), some (93, false), [5, 8, 2]⟩,
  ⟨some 101, .pick (.t 93) (.c (.bool true)) (.t 100), none, [2, 9]⟩]
abbrev r25_19 : List AOper := [
  ⟨some 102, .build [.int .i64 0, .str ⟨#[]⟩, .int .i64 0, .flt .f64 0, .int .i64 0] [], none, []⟩,
  ⟨none, .store 5 (.t 4) (.t 102), none, [0, 0]⟩,
  ⟨some 5, .mv (.c (.int .i64 0)), none, [1, 0, 1]⟩,
  ⟨some 6, .mv (.c (.int .i64 23)), none, [2, 0, 1, 2]⟩]
abbrev r25_20 : List AOper := [
  ⟨some 103, .mv (.t 7), none, []⟩,
  ⟨some 104, .bin .eql (.t 103) (.c (.int .u8 39)), none, [0]⟩]
abbrev r25_21 : List AOper := [
  ⟨some 105, .mv (.t 10), none, []⟩,
  ⟨some 106, .mv (.t 1), none, []⟩,
  ⟨some 107, .build [.int .i64 0, .str ⟨#[]⟩, .int .i64 0, .flt .f64 0, .int .i64 0] [(0, 1, (.c (.int .i64 1))), (1, 1, (.t 105)), (4, 1, (.t 106))], none, [0, 1]⟩,
  ⟨some 108, .mv (.t 11), none, []⟩,
  ⟨none, .store 5 (.t 4) (.t 107), none, [2, 0, 1, 2]⟩,
  ⟨some 5, .mv (.t 108), none, [3, 4, 0, 1, 2, 3, 4]⟩,
  ⟨some 6, .mv (.c (.int .i64 0)), none, [5, 0, 1, 2, 3, 4, 5]⟩]
abbrev r25_22 : List AOper := [
  ⟨some 109, .mv (.t 10), none, []⟩,
  ⟨some 110, .mv (.t 1), none, []⟩,
  ⟨some 111, .build [.int .i64 0, .str ⟨#[]⟩, .int .i64 0, .flt .f64 0, .int .i64 0] [(0, 1, (.c (.int .i64 5))), (1, 1, (.t 109)), (4, 1, (.t 110))], none, [0, 1]⟩,
  ⟨some 112, .mv (.t 11), none, []⟩,
  ⟨none, .store 5 (.t 4) (.t 111), none, [2, 0, 1, 2]⟩,
  ⟨some 5, .mv (.t 112), none, [3, 4, 0, 1, 2, 3, 4]⟩,
  ⟨some 6, .mv (.c (.int .i64 0)), none, [5, 0, 1, 2, 3, 4, 5]⟩]
abbrev r25_23 : List AOper := [
  ⟨some 113, .mv (.t 0), none, []⟩,
  ⟨some 114, .mv (.t 1), none, []⟩,
  ⟨some 115, .callF 45 [(.t 113), (.t 114)], none, [0, 1]⟩,
  ⟨some 13, .mv (.t 115), none, [2, 2, 0, 1, 2]⟩]
abbrev r25_24 : List AOper := [
  ⟨some 116, .mv (.t 13), none, []⟩,
  ⟨some 117, .bin .eql (.t 116) (.c (.str ⟨#[]⟩)), none, [0]⟩]
abbrev r25_25 : List AOper := [
  ⟨some 118, .build [.int .i64 0, .str ⟨#[]⟩, .int .i64 0, .flt .f64 0, .int .i64 0] [], none, []⟩,
  ⟨none, .store 5 (.t 4) (.t 118), none, [0, 0]⟩,
  ⟨some 5, .mv (.c (.int .i64 0)), none, [1, 0, 1]⟩,
  ⟨some 6, .mv (.c (.int .i64 21)), none, [2, 0, 1, 2]⟩]
abbrev r25_26 : List AOper := [
  ⟨some 119, .mv (.t 13), none, []⟩,
  ⟨some 120, .mv (.t 1), none, []⟩,
  ⟨some 121, .build [.int .i64 0, .str ⟨#[]⟩, .int .i64 0, .flt .f64 0, .int .i64 0] [(0, 1, (.c (.int .i64 6))), (1, 1, (.t 119)), (4, 1, (.t 120))], none, [0, 1]⟩,
  ⟨some 122, .mv (.t 1), none, []⟩,
  ⟨some 123, .mv (.t 13), none, []⟩,
  ⟨some 124, .len 0 (.t 123), none, [4]⟩,
  ⟨some 125, .bin .add (.t 122) (.t 124), none, [3, 5]⟩,
  ⟨none, .store 5 (.t 4) (.t 121), none, [2, 0, 1, 2]⟩,
  ⟨some 5, .mv (.t 125), none, [6, 7, 0, 1, 2, 3, 4, 5, 6, 7]⟩,
  ⟨some 6, .mv (.c (.int .i64 0)), none, [8, 0, 1, 2, 3, 4, 5, 6, 7, 8]⟩]
def k25 : List (List Nat) := [[0, 1, 4], [0, 1, 4, 7], [0, 1, 4, 7, 34], [0, 1, 4, 7, 8], [4, 7, 8, 9], [4, 8, 9, 49], [4, 8, 9], [4, 8, 9, 53], [4, 8, 9], [4, 8, 9, 58], [4, 5, 6], [4, 5, 6], [0, 1, 4, 7, 63], [4, 5, 6], [0, 1, 4, 7, 71], [4, 5, 6], [0, 1, 4, 7, 83], [1, 4, 7, 10, 11, 12], [1, 4, 7, 10, 11, 101], [4, 5, 6], [1, 4, 10, 11, 104], [4, 5, 6], [4, 5, 6], [1, 4, 13], [1, 4, 13, 117], [4, 5, 6], [4, 5, 6]]
def f25 : AFunc := { ntmps := 126, results := [.cell 4 (some 5), .tmp 5, .tmp 6], body := (
  .seq (
  .region false r25_0 [0, 1, 4]) (
  .seq (
  .region false r25_1 [0, 1, 4, 7]) (
  .seq (
  .seq (
  .region false r25_2 [0, 1, 4, 7, 34]) (
  .cond (.t 34) (
    .seq (
    .region false r25_3 [0, 1, 4, 7, 8]) (
    .seq (
    .region false r25_4 [4, 7, 8, 9]) (
    .seq (
    .seq (
    .region false r25_5 [4, 8, 9, 49]) (
    .cond (.t 49) (
      .seq (
      .region false r25_6 [4, 8, 9]) (
      .seq (
      .seq (
      .region false r25_7 [4, 8, 9, 53]) (
      .cond (.t 53) (
        .region false r25_8 [4, 8, 9]) (
        .skip))) (
      .seq (
      .region false r25_9 [4, 8, 9, 58]) (
      .cond (.t 58) (
        .seq (
        .region false r25_10 [4, 5, 6]) (
        .ret)) (
        .skip))))) (
      .skip))) (
    .seq (
    .region false r25_11 [4, 5, 6]) (
    .ret))))) (
    .skip))) (
  .seq (
  .seq (
  .region false r25_12 [0, 1, 4, 7, 63]) (
  .cond (.t 63) (
    .seq (
    .region false r25_13 [4, 5, 6]) (
    .ret)) (
    .skip))) (
  .seq (
  .seq (
  .region false r25_14 [0, 1, 4, 7, 71]) (
  .cond (.t 71) (
    .seq (
    .region false r25_15 [4, 5, 6]) (
    .ret)) (
    .skip))) (
  .seq (
  .seq (
  .region false r25_16 [0, 1, 4, 7, 83]) (
  .cond (.t 83) (
    .seq (
    .region false r25_17 [1, 4, 7, 10, 11, 12]) (
    .seq (
    .seq (
    .region false r25_18 [1, 4, 7, 10, 11, 101]) (
    .cond (.t 101) (
      .seq (
      .region false r25_19 [4, 5, 6]) (
      .ret)) (
      .skip))) (
    .seq (
    .seq (
    .region false r25_20 [1, 4, 10, 11, 104]) (
    .cond (.t 104) (
      .seq (
      .region false r25_21 [4, 5, 6]) (
      .ret)) (
      .skip))) (
    .seq (
    .region false r25_22 [4, 5, 6]) (
    .ret))))) (
    .skip))) (
  .seq (
  .region false r25_23 [1, 4, 13]) (
  .seq (
  .seq (
  .region false r25_24 [1, 4, 13, 117]) (
  .cond (.t 117) (
    .seq (
    .region false r25_25 [4, 5, 6]) (
    .ret)) (
    .skip))) (
  .seq (
  .region false r25_26 [4, 5, 6]) (
  .ret)))))))))) }
theorem c25 : cfunc Tryd.prog (kof k25) Tryd.f25 = some f25 := by kernel_rfl

/-- exitwave/exitwaveref2.Kept -/
abbrev r26_0 : List AOper := [
  ⟨some 2, .mv (.c (.bool false)), none, []⟩]
abbrev r26_1 : List AOper := [
  ⟨some 3, .mv (.t 0), none, []⟩]
abbrev r26_2 : List AOper := [
  ⟨some 5, .bin .eql (.t 3) (.c (.str ⟨#[97, 102, 116, 101, 114]⟩)), none, []⟩,
  ⟨some 4, .mv (.t 5), none, [0]⟩]
abbrev r26_3 : List AOper := [
  ⟨some 6, .bin .eql (.t 3) (.c (.str ⟨#[97, 110, 100, 97, 108, 115, 111]⟩)), none, []⟩,
  ⟨some 4, .mv (.t 6), none, [0]⟩]
abbrev r26_4 : List AOper := [
  ⟨some 7, .bin .eql (.t 3) (.c (.str ⟨#[98, 101, 103, 105, 110]⟩)), none, []⟩,
  ⟨some 4, .mv (.t 7), none, [0]⟩]
abbrev r26_5 : List AOper := [
  ⟨some 8, .bin .eql (.t 3) (.c (.str ⟨#[99, 97, 115, 101]⟩)), none, []⟩,
  ⟨some 4, .mv (.t 8), none, [0]⟩]
abbrev r26_6 : List AOper := [
  ⟨some 9, .bin .eql (.t 3) (.c (.str ⟨#[99, 97, 116, 99, 104]⟩)), none, []⟩,
  ⟨some 4, .mv (.t 9), none, [0]⟩]
abbrev r26_7 : List AOper := [
  ⟨some 10, .bin .eql (.t 3) (.c (.str ⟨#[100, 105, 118]⟩)), none, []⟩,
  ⟨some 4, .mv (.t 10), none, [0]⟩]
abbrev r26_8 : List AOper := [
  ⟨some 11, .bin .eql (.t 3) (.c (.str ⟨#[101, 110, 100]⟩)), none, []⟩,
  ⟨some 4, .mv (.t 11), none, [0]⟩]
abbrev r26_9 : List AOper := [
  ⟨some 12, .bin .eql (.t 3) (.c (.str ⟨#[102, 117, 110]⟩)), none, []⟩,
  ⟨some 4, .mv (.t 12), none, [0]⟩]
abbrev r26_10 : List AOper := [
  ⟨some 13, .bin .eql (.t 3) (.c (.str ⟨#[110, 111, 116]⟩)), none, []⟩,
  ⟨some 4, .mv (.t 13), none, [0]⟩]
abbrev r26_11 : List AOper := [
  ⟨some 14, .bin .eql (.t 3) (.c (.str ⟨#[111, 102]⟩)), none, []⟩,
  ⟨some 4, .mv (.t 14), none, [0]⟩]
abbrev r26_12 : List AOper := [
  ⟨some 15, .bin .eql (.t 3) (.c (.str ⟨#[111, 114, 101, 108, 115, 101]⟩)), none, []⟩,
  ⟨some 4, .mv (.t 15), none, [0]⟩]
abbrev r26_13 : List AOper := [
  ⟨some 16, .bin .eql (.t 3) (.c (.str ⟨#[114, 101, 99, 101, 105, 118, 101]⟩)), none, []⟩,
  ⟨some 4, .mv (.t 16), none, [0]⟩]
abbrev r26_14 : List AOper := [
  ⟨some 17, .bin .eql (.t 3) (.c (.str ⟨#[114, 101, 109]⟩)), none, []⟩,
  ⟨some 4, .mv (.t 17), none, [0]⟩]
abbrev r26_15 : List AOper := [
  ⟨some 18, .bin .eql (.t 3) (.c (.str ⟨#[116, 114, 121]⟩)), none, []⟩,
  ⟨some 4, .mv (.t 18), none, [0]⟩]
abbrev r26_16 : List AOper := [
  ⟨some 19, .bin .eql (.t 3) (.c (.str ⟨#[119, 104, 101, 110]⟩)), none, []⟩,
  ⟨some 4, .mv (.t 19), none, [0]⟩]
abbrev r26_17 : List AOper := [
  ⟨some 2, .mv (.c (.bool true)), none, []⟩]
abbrev r26_18 : List AOper := [
  ⟨some 2, .mv (.c (.bool false)), none, []⟩]
def k26 : List (List Nat) := [[0], [3], [3, 4], [3, 4], [3, 4], [3, 4], [3, 4], [3, 4], [3, 4], [3, 4], [3, 4], [3, 4], [3, 4], [3, 4], [3, 4], [3, 4], [4], [2], [2]]
def f26 : AFunc := { ntmps := 20, results := [.tmp 2], body := (
  .seq (
  .region false r26_0 [0]) (
  .seq (
  .seq (
  .region false r26_1 [3]) (
  .block 0 (
    .seq (
    .seq (
    .region false r26_2 [3, 4]) (
    .cond (.t 4) (
      .skip) (
      .seq (
      .region false r26_3 [3, 4]) (
      .cond (.t 4) (
        .skip) (
        .seq (
        .region false r26_4 [3, 4]) (
        .cond (.t 4) (
          .skip) (
          .seq (
          .region false r26_5 [3, 4]) (
          .cond (.t 4) (
            .skip) (
            .seq (
            .region false r26_6 [3, 4]) (
            .cond (.t 4) (
              .skip) (
              .seq (
              .region false r26_7 [3, 4]) (
              .cond (.t 4) (
                .skip) (
                .seq (
                .region false r26_8 [3, 4]) (
                .cond (.t 4) (
                  .skip) (
                  .seq (
                  .region false r26_9 [3, 4]) (
                  .cond (.t 4) (
                    .skip) (
                    .seq (
                    .region false r26_10 [3, 4]) (
                    .cond (.t 4) (
                      .skip) (
                      .seq (
                      .region false r26_11 [3, 4]) (
                      .cond (.t 4) (
                        .skip) (
                        .seq (
                        .region false r26_12 [3, 4]) (
                        .cond (.t 4) (
                          .skip) (
                          .seq (
                          .region false r26_13 [3, 4]) (
                          .cond (.t 4) (
                            .skip) (
                            .seq (
                            .region false r26_14 [3, 4]) (
                            .cond (.t 4) (
                              .skip) (
                              .seq (
                              .region false r26_15 [3, 4]) (
                              .cond (.t 4) (
                                .skip) (
                                .region false r26_16 [4]))))))))))))))))))))))))))))) (
    .cond (.t 4) (
      .seq (
      .region false r26_17 [2]) (
      .ret)) (
      .skip))))) (
  .seq (
  .region false r26_18 [2]) (
  .ret)))) }
theorem c26 : cfunc Tryd.prog (kof k26) Tryd.f26 = some f26 := by kernel_rfl

/-- exitwave/exitwaveref2.Check -/
abbrev r27_0 : List AOper := [
  ⟨some 1, .box 44 (.t 0), none, []⟩,
  ⟨some 2, .mv (.c (.int .i64 0)), none, []⟩]
abbrev r27_1 : List AOper := [
  ⟨some 3, .load (some 5) (.t 1), none, []⟩,
  ⟨some 4, .callF 46 [(.t 3), (.c (.int .i64 200)), (.c (.int .i64 65536))], none, [0]⟩,
  ⟨some 5, .bin .lss (.t 4) (.c (.int .i64 0)), none, [1]⟩]
abbrev r27_2 : List AOper := [
  ⟨some 2, .mv (.c (.int .i64 12)), none, []⟩]
abbrev r27_3 : List AOper := [
  ⟨some 6, .load (some 5) (.t 1), none, []⟩,
  ⟨some 7, .callF 47 [(.t 6)], none, [0]⟩,
  ⟨some 8, .un .not (.t 7), none, [1]⟩]
abbrev r27_4 : List AOper := [
  ⟨some 2, .mv (.c (.int .i64 4)), none, []⟩]
abbrev r27_5 : List AOper := [
  ⟨some 2, .mv (.c (.int .i64 0)), none, []⟩]
def k27 : List (List Nat) := [[1], [1, 5], [2], [8], [2], [2]]
def f27 : AFunc := { ntmps := 9, results := [.tmp 2], body := (
  .seq (
  .region false r27_0 [1]) (
  .seq (
  .seq (
  .region false r27_1 [1, 5]) (
  .cond (.t 5) (
    .seq (
    .region false r27_2 [2]) (
    .ret)) (
    .skip))) (
  .seq (
  .seq (
  .region false r27_3 [8]) (
  .cond (.t 8) (
    .seq (
    .region false r27_4 [2]) (
    .ret)) (
    .skip))) (
  .seq (
  .region false r27_5 [2]) (
  .ret))))) }
theorem c27 : cfunc Tryd.prog (kof k27) Tryd.f27 = some f27 := by kernel_rfl

/-- exitwave/exitwaveref1.Text -/
abbrev r28_0 : List AOper := [
  ⟨some 1, .box 44 (.t 0), none, []⟩,
  ⟨some 2, .mv (.c (.str ⟨#[]⟩)), none, []⟩]
abbrev r28_1 : List AOper := [
  ⟨some 3, .faddr 0 (.t 1), none, []⟩,
  ⟨some 4, .load none (.t 3), none, [0]⟩,
  ⟨some 5, .bin .eql (.t 4) (.c (.int .i64 1)), none, [1]⟩]
abbrev r28_2 : List AOper := [
  ⟨some 6, .faddr 1 (.t 1), none, []⟩,
  ⟨some 7, .load none (.t 6), none, [0]⟩,
  ⟨some 8, .callF 30 [(.t 7)], none, [1]⟩,
  ⟨some 2, .mv (.t 8), none, [2, 2, 0, 1, 2]⟩]
abbrev r28_3 : List AOper := [
  ⟨some 9, .faddr 2 (.t 1), none, []⟩,
  ⟨some 10, .load none (.t 9), none, [0]⟩,
  ⟨some 11, .ext 0 [(.t 10)], none, [1]⟩,
  ⟨some 12, .callF 48 [(.t 11)], none, [2, 2]⟩,
  ⟨some 13, .bin .add (.c (.str ⟨#[35]⟩)) (.t 12), none, [3]⟩,
  ⟨some 2, .mv (.t 13), none, [4, 3, 0, 1, 2, 3, 4]⟩]
def k28 : List (List Nat) := [[1], [1, 5], [2], [2]]
def f28 : AFunc := { ntmps := 14, results := [.tmp 2], body := (
  .seq (
  .region false r28_0 [1]) (
  .seq (
  .seq (
  .region false r28_1 [1, 5]) (
  .cond (.t 5) (
    .seq (
    .region false r28_2 [2]) (
    .ret)) (
    .skip))) (
  .seq (
  .region false r28_3 [2]) (
  .ret)))) }
theorem c28 : cfunc Tryd.prog (kof k28) Tryd.f28 = some f28 := by kernel_rfl

/-- exitwave/exitwaveref2.Quote -/
abbrev r29_0 : List AOper := [
  ⟨some 2, .mv (.c (.str ⟨#[]⟩)), none, []⟩]
abbrev r29_1 : List AOper := [
  ⟨some 6, .mv (.t 0), none, []⟩,
  ⟨some 7, .callF 49 [(.t 6)], none, [0]⟩]
abbrev r29_2 : List AOper := [
  ⟨some 8, .mv (.t 0), none, []⟩,
  ⟨some 2, .mv (.t 8), none, [0, 0]⟩]
abbrev r29_3 : List AOper := [
  ⟨some 3, .mv (.c (.str ⟨#[39]⟩)), none, []⟩]
abbrev r29_4 : List AOper := [
  ⟨some 4, .mv (.c (.int .i64 0)), none, []⟩]
abbrev r29_5 : List AOper := [
  ⟨some 9, .mv (.t 4), none, []⟩,
  ⟨some 10, .mv (.t 0), none, []⟩,
  ⟨some 11, .len 0 (.t 10), none, [1]⟩,
  ⟨some 12, .bin .lss (.t 9) (.t 11), none, [0, 2]⟩]
abbrev r29_7 : List AOper := [
  ⟨some 15, .mv (.t 0), none, []⟩,
  ⟨some 16, .mv (.t 4), none, []⟩,
  ⟨some 17, .idxS (.t 15) (.t 16), none, [0, 1]⟩,
  ⟨some 5, .mv (.t 17), none, [2, 0, 1, 2]⟩]
abbrev r29_8 : List AOper := [
  ⟨some 18, .mv (.t 5), none, []⟩,
  ⟨some 19, .bin .eql (.t 18) (.c (.int .u8 92)), none, [0]⟩,
  ⟨some 20, .mv (.t 19), none, [1]⟩,
  ⟨some 21, .mv (.t 5), some (20, false), [2]⟩,
  ⟨some 22, .bin .eql (.t 21) (.c (.int .u8 39)), some (20, false), [3, 2]⟩,
  ⟨some 23, .pick (.t 20) (.c (.bool true)) (.t 22), none, [2, 4]⟩]
abbrev r29_9 : List AOper := [
  ⟨some 24, .mv (.t 3), none, []⟩,
  ⟨some 25, .bin .add (.t 24) (.c (.str ⟨#[92]⟩)), none, [0]⟩,
  ⟨some 26, .mv (.t 0), none, []⟩,
  ⟨some 27, .mv (.t 4), none, []⟩,
  ⟨some 28, .mv (.t 4), none, []⟩,
  ⟨some 29, .bin .add (.t 28) (.c (.int .i64 1)), none, [4]⟩,
  ⟨some 30, .slcS (.t 26) (some (.t 27)) (some (.t 29)), none, [2, 3, 5]⟩,
  ⟨some 31, .bin .add (.t 25) (.t 30), none, [1, 6]⟩,
  ⟨some 3, .mv (.t 31), none, [7, 0, 1, 2, 3, 4, 5, 6, 7]⟩]
abbrev r29_10 : List AOper := [
  ⟨some 32, .mv (.t 5), none, []⟩,
  ⟨some 33, .bin .lss (.t 32) (.c (.int .u8 32)), none, [0]⟩,
  ⟨some 34, .mv (.t 33), none, [1]⟩,
  ⟨some 35, .mv (.t 5), some (34, false), [2]⟩,
  ⟨some 36, .bin .gtr (.t 35) (.c (.int .u8 126)), some (34, false), [3, 2]⟩,
  ⟨some 37, .pick (.t 34) (.c (.bool true)) (.t 36), none, [2, 4]⟩]
abbrev r29_11 : List AOper := [
  ⟨some 38, .mv (.t 3), none, []⟩,
  ⟨some 39, .bin .add (.t 38) (.c (.str ⟨#[92, 120]⟩)), none, [0]⟩,
  ⟨some 40, .mv (.t 5), none, []⟩,
  ⟨some 41, .bin .shr (.t 40) (.c (.int .u64 4)), none, [2]⟩,
  ⟨some 42, .callF 50 [(.t 41)], none, [3]⟩,
  ⟨some 43, .bin .add (.t 39) (.t 42), none, [1, 4]⟩,
  ⟨some 44, .mv (.t 5), none, []⟩,
  ⟨some 45, .bin .and (.t 44) (.c (.int .u8 15)), none, [6]⟩,
  ⟨some 46, .callF 50 [(.t 45)], none, [7, 4]⟩,
  ⟨some 47, .bin .add (.t 43) (.t 46), none, [5, 8]⟩,
  ⟨some 3, .mv (.t 47), none, [9, 8, 0, 1, 2, 3, 4, 5, 6, 7, 8, 9]⟩]
abbrev r29_12 : List AOper := [
  ⟨some 48, .mv (.t 3), none, []⟩,
  ⟨some 49, .mv (.t 0), none, []⟩,
  ⟨some 50, .mv (.t 4), none, []⟩,
  ⟨some 51, .mv (.t 4), none, []⟩,
  ⟨some 52, .bin .add (.t 51) (.c (.int .i64 1)), none, [3]⟩,
  ⟨some 53, .slcS (.t 49) (some (.t 50)) (some (.t 52)), none, [1, 2, 4]⟩,
  ⟨some 54, .bin .add (.t 48) (.t 53), none, [0, 5]⟩,
  ⟨some 3, .mv (.t 54), none, [6, 0, 1, 2, 3, 4, 5, 6]⟩]
abbrev r29_6 : List AOper := [
  ⟨some 13, .mv (.t 4), none, []⟩,
  ⟨some 14, .bin .add (.t 13) (.c (.int .i64 1)), none, [0]⟩,
  ⟨some 4, .mv (.t 14), none, [1, 0, 1]⟩]
def l29_0 : ACode :=
  .seq (
  .seq (
  .region false r29_5 [0, 3, 4, 12]) (
  .cond (.t 12) (
    .skip) (
    .exit 0))) (
  .seq (
  .block 1 (
    .seq (
    .region false r29_7 [0, 3, 4, 5]) (
    .seq (
    .region false r29_8 [0, 3, 4, 5, 23]) (
    .cond (.t 23) (
      .region false r29_9 [0, 3, 4]) (
      .seq (
      .region false r29_10 [0, 3, 4, 5, 37]) (
      .cond (.t 37) (
        .region false r29_11 [0, 3, 4]) (
        .region false r29_12 [0, 3, 4]))))))) (
  .region false r29_6 [0, 3, 4]))
abbrev r29_13 : List AOper := [
  ⟨some 55, .mv (.t 3), none, []⟩,
  ⟨some 56, .bin .add (.t 55) (.c (.str ⟨#[39]⟩)), none, [0]⟩,
  ⟨some 2, .mv (.t 56), none, [1, 0, 1]⟩]
def k29 : List (List Nat) := [[0], [0, 7], [2], [0, 3], [0, 3, 4], [0, 3, 4, 12], [0, 3, 4], [0, 3, 4, 5], [0, 3, 4, 5, 23], [0, 3, 4], [0, 3, 4, 5, 37], [0, 3, 4], [0, 3, 4], [2]]
def f29 : AFunc := { ntmps := 57, results := [.tmp 2], body := (
  .seq (
  .region false r29_0 [0]) (
  .seq (
  .seq (
  .region false r29_1 [0, 7]) (
  .cond (.t 7) (
    .seq (
    .region false r29_2 [2]) (
    .ret)) (
    .skip))) (
  .seq (
  .region false r29_3 [0, 3]) (
  .seq (
  .seq (
  .region false r29_4 [0, 3, 4]) (
  .block 0 (
    .loop l29_0))) (
  .seq (
  .region false r29_13 [2]) (
  .ret)))))) }
theorem c29 : cfunc Tryd.prog (kof k29) Tryd.f29 = some f29 := by kernel_rfl

/-- exitwave/exitwaveref1.Decimal -/
abbrev r30_0 : List AOper := [
  ⟨some 2, .mv (.c (.str ⟨#[]⟩)), none, []⟩]
abbrev r30_1 : List AOper := [
  ⟨some 3, .mv (.t 0), none, []⟩,
  ⟨some 4, .bin .lss (.t 3) (.c (.int .i64 0)), none, [0]⟩]
abbrev r30_2 : List AOper := [
  ⟨some 5, .mv (.t 0), none, []⟩,
  ⟨some 6, .conv (.toInt .u64) (.t 5), none, [0]⟩,
  ⟨some 7, .bin .sub (.c (.int .u64 0)) (.t 6), none, [1]⟩,
  ⟨some 8, .callF 51 [(.t 7)], none, [2]⟩,
  ⟨some 9, .bin .add (.c (.str ⟨#[45]⟩)) (.t 8), none, [3]⟩,
  ⟨some 2, .mv (.t 9), none, [4, 3, 0, 1, 2, 3, 4]⟩]
abbrev r30_3 : List AOper := [
  ⟨some 10, .mv (.t 0), none, []⟩,
  ⟨some 11, .conv (.toInt .u64) (.t 10), none, [0]⟩,
  ⟨some 12, .callF 51 [(.t 11)], none, [1]⟩,
  ⟨some 2, .mv (.t 12), none, [2, 2, 0, 1, 2]⟩]
def k30 : List (List Nat) := [[0], [0, 4], [2], [2]]
def f30 : AFunc := { ntmps := 13, results := [.tmp 2], body := (
  .seq (
  .region false r30_0 [0]) (
  .seq (
  .seq (
  .region false r30_1 [0, 4]) (
  .cond (.t 4) (
    .seq (
    .region false r30_2 [2]) (
    .ret)) (
    .skip))) (
  .seq (
  .region false r30_3 [2]) (
  .ret)))) }
theorem c30 : cfunc Tryd.prog (kof k30) Tryd.f30 = some f30 := by kernel_rfl

/-- exitwave/exitwaveref2.row -/
abbrev r31_0 : List AOper := [
  ⟨some 6, .mv (.c (.str ⟨#[]⟩)), none, []⟩]
abbrev r31_1 : List AOper := [
  ⟨some 9, .mv (.t 1), none, []⟩,
  ⟨some 10, .conv (.strBytes 5) (.t 9), none, [0]⟩,
  ⟨some 7, .mv (.t 10), none, [1, 0, 1]⟩]
abbrev r31_2 : List AOper := [
  ⟨some 8, .mv (.c (.int .i64 0)), none, []⟩]
abbrev r31_3 : List AOper := [
  ⟨some 11, .mv (.t 8), none, []⟩,
  ⟨some 12, .mv (.t 0), none, []⟩,
  ⟨some 13, .len 1 (.t 12), none, [1]⟩,
  ⟨some 14, .bin .lss (.t 11) (.t 13), none, [0, 2]⟩]
abbrev r31_5 : List AOper := [
  ⟨some 17, .mv (.t 8), none, []⟩,
  ⟨some 18, .bin .gtr (.t 17) (.c (.int .i64 0)), none, [0]⟩]
abbrev r31_6 : List AOper := [
  ⟨some 19, .mv (.t 7), none, []⟩,
  ⟨some 20, .bslice 5 1 [.int .u8 0] [(0, 1, (.c (.int .u8 44)))], none, []⟩,
  ⟨some 21, .app 5 1 1 (.t 19) (.t 20), none, [0, 1]⟩,
  ⟨some 7, .mv (.t 21), none, [2, 2, 0, 1, 2]⟩]
abbrev r31_7 : List AOper := [
  ⟨some 22, .mv (.t 7), none, []⟩,
  ⟨some 23, .mv (.t 0), none, []⟩,
  ⟨some 24, .mv (.t 8), none, []⟩,
  ⟨some 25, .iaddr 5 (.t 23) (.t 24), none, [1, 2]⟩,
  ⟨some 26, .load (some 5) (.t 25), none, [3]⟩,
  ⟨some 27, .callF 19 [(.t 26)], none, [4]⟩,
  ⟨some 28, .app 5 1 1 (.t 22) (.t 27), none, [0, 5, 5]⟩,
  ⟨some 7, .mv (.t 28), none, [6, 6, 0, 1, 2, 3, 4, 5, 6]⟩]
abbrev r31_4 : List AOper := [
  ⟨some 15, .mv (.t 8), none, []⟩,
  ⟨some 16, .bin .add (.t 15) (.c (.int .i64 1)), none, [0]⟩,
  ⟨some 8, .mv (.t 16), none, [1, 0, 1]⟩]
def l31_0 : ACode :=
  .seq (
  .seq (
  .region false r31_3 [0, 2, 7, 8, 14]) (
  .cond (.t 14) (
    .skip) (
    .exit 0))) (
  .seq (
  .block 1 (
    .seq (
    .seq (
    .region false r31_5 [0, 2, 7, 8, 18]) (
    .cond (.t 18) (
      .region false r31_6 [0, 2, 7, 8]) (
      .skip))) (
    .region false r31_7 [0, 2, 7, 8]))) (
  .region false r31_4 [0, 2, 7, 8]))
abbrev r31_8 : List AOper := [
  ⟨some 29, .mv (.t 7), none, []⟩,
  ⟨some 30, .mv (.t 2), none, []⟩,
  ⟨some 31, .app 5 1 1 (.t 29) (.t 30), none, [0, 1]⟩,
  ⟨some 32, .conv .bytesStr (.t 31), none, [2]⟩,
  ⟨some 6, .mv (.t 32), none, [3, 2, 0, 1, 2, 3]⟩]
def k31 : List (List Nat) := [[0, 1, 2], [0, 2, 7], [0, 2, 7, 8], [0, 2, 7, 8, 14], [0, 2, 7, 8], [0, 2, 7, 8, 18], [0, 2, 7, 8], [0, 2, 7, 8], [6]]
def f31 : AFunc := { ntmps := 33, results := [.tmp 6], body := (
  .seq (
  .region false r31_0 [0, 1, 2]) (
  .seq (
  .region false r31_1 [0, 2, 7]) (
  .seq (
  .seq (
  .region false r31_2 [0, 2, 7, 8]) (
  .block 0 (
    .loop l31_0))) (
  .seq (
  .region false r31_8 [6]) (
  .ret))))) }
theorem c31 : cfunc Tryd.prog (kof k31) Tryd.f31 = some f31 := by kernel_rfl

/-- exitwave/lex.lower -/
abbrev r32_0 : List AOper := [
  ⟨some 2, .mv (.c (.bool false)), none, []⟩]
abbrev r32_1 : List AOper := [
  ⟨some 3, .mv (.t 0), none, []⟩,
  ⟨some 4, .bin .geq (.t 3) (.c (.int .u8 97)), none, [0]⟩,
  ⟨some 5, .mv (.t 4), none, [1]⟩,
  ⟨some 6, .mv (.t 0), some (5, true), [2]⟩,
  ⟨some 7, .bin .leq (.t 6) (.c (.int .u8 122)), some (5, true), [3, 2]⟩,
  ⟨some 8, .pick (.t 5) (.t 7) (.c (.bool false)), none, [2, 4]⟩,
  ⟨some 2, .mv (.t 8), none, [5, 2, 0, 1, 2, 3, 4, 5]⟩]
def k32 : List (List Nat) := [[0], [2]]
def f32 : AFunc := { ntmps := 9, results := [.tmp 2], body := (
  .seq (
  .region false r32_0 [0]) (
  .seq (
  .region false r32_1 [2]) (
  .ret))) }
theorem c32 : cfunc Tryd.prog (kof k32) Tryd.f32 = some f32 := by kernel_rfl

/-- exitwave/lex.upper -/
abbrev r33_0 : List AOper := [
  ⟨some 2, .mv (.c (.bool false)), none, []⟩]
abbrev r33_1 : List AOper := [
  ⟨some 3, .mv (.t 0), none, []⟩,
  ⟨some 4, .bin .geq (.t 3) (.c (.int .u8 65)), none, [0]⟩,
  ⟨some 5, .mv (.t 4), none, [1]⟩,
  ⟨some 6, .mv (.t 0), some (5, true), [2]⟩,
  ⟨some 7, .bin .leq (.t 6) (.c (.int .u8 90)), some (5, true), [3, 2]⟩,
  ⟨some 8, .pick (.t 5) (.t 7) (.c (.bool false)), none, [2, 4]⟩,
  ⟨some 2, .mv (.t 8), none, [5, 2, 0, 1, 2, 3, 4, 5]⟩]
def k33 : List (List Nat) := [[0], [2]]
def f33 : AFunc := { ntmps := 9, results := [.tmp 2], body := (
  .seq (
  .region false r33_0 [0]) (
  .seq (
  .region false r33_1 [2]) (
  .ret))) }
theorem c33 : cfunc Tryd.prog (kof k33) Tryd.f33 = some f33 := by kernel_rfl

/-- exitwave/lex.digit -/
abbrev r34_0 : List AOper := [
  ⟨some 2, .mv (.c (.bool false)), none, []⟩]
abbrev r34_1 : List AOper := [
  ⟨some 3, .mv (.t 0), none, []⟩,
  ⟨some 4, .bin .geq (.t 3) (.c (.int .u8 48)), none, [0]⟩,
  ⟨some 5, .mv (.t 4), none, [1]⟩,
  ⟨some 6, .mv (.t 0), some (5, true), [2]⟩,
  ⟨some 7, .bin .leq (.t 6) (.c (.int .u8 57)), some (5, true), [3, 2]⟩,
  ⟨some 8, .pick (.t 5) (.t 7) (.c (.bool false)), none, [2, 4]⟩,
  ⟨some 2, .mv (.t 8), none, [5, 2, 0, 1, 2, 3, 4, 5]⟩]
def k34 : List (List Nat) := [[0], [2]]
def f34 : AFunc := { ntmps := 9, results := [.tmp 2], body := (
  .seq (
  .region false r34_0 [0]) (
  .seq (
  .region false r34_1 [2]) (
  .ret))) }
theorem c34 : cfunc Tryd.prog (kof k34) Tryd.f34 = some f34 := by kernel_rfl

/-- (*exitwave/lex.scanner).number -/
abbrev r35_0 : List AOper := [
  ⟨some 2, .alloc 35 (.agg [.int .i64 0, .str ⟨#[]⟩, .int .i64 0, .flt .f64 0, .int .i64 0]), none, []⟩,
  ⟨some 3, .mv (.c (.int .i64 0)), none, []⟩]
abbrev r35_1 : List AOper := [
  ⟨some 12, .mv (.t 0), none, []⟩,
  ⟨some 13, .mv (.t 0), none, []⟩,
  ⟨some 14, .nilchk (.t 13), none, [1]⟩,
  ⟨some 15, .faddr 1 (.t 14), none, [2]⟩,
  ⟨some 16, .load none (.t 15), none, [3]⟩,
  ⟨some 17, .callF 21 [(.t 12), (.t 16), (.c (.fn (.func 34) [] []))], none, [0, 4]⟩,
  ⟨some 4, .mv (.t 17), none, [5, 5, 0, 1, 2, 3, 4, 5]⟩]
abbrev r35_2 : List AOper := [
  ⟨some 18, .mv (.t 0), none, []⟩,
  ⟨some 19, .nilchk (.t 18), none, [0]⟩,
  ⟨some 20, .faddr 0 (.t 19), none, [1]⟩,
  ⟨some 21, .load none (.t 20), none, [2]⟩,
  ⟨some 22, .mv (.t 0), none, []⟩,
  ⟨some 23, .nilchk (.t 22), none, [4]⟩,
  ⟨some 24, .faddr 1 (.t 23), none, [5]⟩,
  ⟨some 25, .load none (.t 24), none, [6]⟩,
  ⟨some 26, .mv (.t 4), none, []⟩,
  ⟨some 27, .slcS (.t 21) (some (.t 25)) (some (.t 26)), none, [3, 7, 8]⟩,
  ⟨some 5, .mv (.t 27), none, [9, 0, 1, 2, 3, 4, 5, 6, 7, 8, 9]⟩]
abbrev r35_3 : List AOper := [
  ⟨some 6, .mv (.c (.str ⟨#[]⟩)), none, []⟩]
abbrev r35_4 : List AOper := [
  ⟨some 28, .mv (.t 4), none, []⟩,
  ⟨some 29, .bin .add (.t 28) (.c (.int .i64 1)), none, [0]⟩,
  ⟨some 30, .mv (.t 0), none, []⟩,
  ⟨some 31, .nilchk (.t 30), none, [2]⟩,
  ⟨some 32, .faddr 0 (.t 31), none, [3]⟩,
  ⟨some 33, .load none (.t 32), none, [4]⟩,
  ⟨some 34, .len 0 (.t 33), none, [5]⟩,
  ⟨some 35, .bin .lss (.t 29) (.t 34), none, [1, 6]⟩,
  ⟨some 36, .mv (.t 35), none, [7]⟩,
  ⟨some 37, .mv (.t 0), some (36, true), [8]⟩,
  ⟨some 38, .nilchk (.t 37), some (36, true), [9, 8]⟩,
  ⟨some 39, .faddr 0 (.t 38), some (36, true), [10, 8]⟩,
  ⟨some 40, .load none (.t 39), some (36, true), [11, 8]⟩,
  ⟨some 41, .mv (.t 4), some (36, true), [8]⟩,
  ⟨some 42, .idxS (.t 40) (.t 41), some (36, true), [12, 13, 8]⟩,
  ⟨some 43, .bin .eql (.t 42) (.c (.int .u8 46)), some (36, true), [14, 8]⟩,
  ⟨some 44, .pick (.t 36) (.t 43) (.c (.bool false)), none, [8, 15]⟩,
  ⟨some 45, .mv (.t 44), none, [16, 8]⟩,
  ⟨some 46, .mv (.t 0), some (45, true), [17]⟩,
  ⟨some 47, .nilchk (.t 46), some (45, true), [18, 17]⟩,
  ⟨some 48, .faddr 0 (.t 47), some (45, true), [19, 17]⟩,
  ⟨some 49, .load none (.t 48), some (45, true), [20, 17]⟩,
  ⟨some 50, .mv (.t 4), some (45, true), [17]⟩,
  ⟨some 51, .bin .add (.t 50) (.c (.int .i64 1)), some (45, true), [22, 17]⟩,
  ⟨some 52, .idxS (.t 49) (.t 51), some (45, true), [21, 23, 17]⟩,
  ⟨some 53, .callF 34 [(.t 52)], some (45, true), [24, 17, 17]⟩,
  ⟨some 54, .pick (.t 45) (.t 53) (.c (.bool false)), none, [17, 25]⟩]
abbrev r35_5 : List AOper := [
  ⟨some 55, .mv (.t 4), none, []⟩,
  ⟨some 56, .bin .add (.t 55) (.c (.int .i64 1)), none, [0]⟩,
  ⟨some 7, .mv (.t 56), none, [1, 0, 1]⟩]
abbrev r35_6 : List AOper := [
  ⟨some 57, .mv (.t 0), none, []⟩,
  ⟨some 58, .mv (.t 7), none, []⟩,
  ⟨some 59, .callF 21 [(.t 57), (.t 58), (.c (.fn (.func 34) [] []))], none, [0, 1]⟩,
  ⟨some 4, .mv (.t 59), none, [2, 2, 0, 1, 2]⟩]
abbrev r35_7 : List AOper := [
  ⟨some 60, .mv (.t 0), none, []⟩,
  ⟨some 61, .nilchk (.t 60), none, [0]⟩,
  ⟨some 62, .faddr 0 (.t 61), none, [1]⟩,
  ⟨some 63, .load none (.t 62), none, [2]⟩,
  ⟨some 64, .mv (.t 7), none, []⟩,
  ⟨some 65, .mv (.t 4), none, []⟩,
  ⟨some 66, .slcS (.t 63) (some (.t 64)) (some (.t 65)), none, [3, 4, 5]⟩,
  ⟨some 6, .mv (.t 66), none, [6, 0, 1, 2, 3, 4, 5, 6]⟩]
abbrev r35_8 : List AOper := [
  ⟨some 67, .mv (.t 5), none, []⟩,
  ⟨some 68, .len 0 (.t 67), none, [0]⟩,
  ⟨some 69, .bin .gtr (.t 68) (.c (.int .i64 1)), none, [1]⟩,
  ⟨some 70, .mv (.t 69), none, [2]⟩,
  ⟨some 71, .mv (.t 5), some (70, true), [3]⟩,
  ⟨some 72, .idxS (.t 71) (.c (.int .i64 0)), some (70, true), [4, 3]⟩,
  ⟨some 73, .bin .eql (.t 72) (.c (.int .u8 48)), some (70, true), [5, 3]⟩,
  ⟨some 74, .pick (.t 70) (.t 73) (.c (.bool false)), none, [3, 6]⟩,
  ⟨some 75, .mv (.t 74), none, [7, 3]⟩,
  ⟨some 76, .mv (.t 6), some (75, false), [8]⟩,
  ⟨some 77, .bin .neq (.t 76) (.c (.str ⟨#[]⟩)), some (75, false), [9, 8]⟩,
  ⟨some 78, .mv (.t 77), some (75, false), [10, 8, 8]⟩,
  ⟨some 79, .mv (.t 5), some (78, true), [11]⟩,
  ⟨some 80, .len 0 (.t 79), some (78, true), [12, 11]⟩,
  ⟨some 81, .mv (.t 6), some (78, true), [11]⟩,
  ⟨some 82, .len 0 (.t 81), some (78, true), [14, 11]⟩,
  ⟨some 83, .bin .add (.t 80) (.t 82), some (78, true), [13, 15, 11]⟩,
  ⟨some 84, .bin .gtr (.t 83) (.c (.int .i64 15)), some (78, true), [16, 11]⟩,
  ⟨some 85, .pick (.t 78) (.t 84) (.c (.bool false)), some (75, false), [11, 17, 8]⟩,
  ⟨some 86, .pick (.t 75) (.c (.bool true)) (.t 85), none, [8, 18]⟩,
  ⟨some 87, .mv (.t 86), none, [19, 11]⟩,
  ⟨some 88, .mv (.t 5), some (87, false), [20]⟩,
  ⟨some 89, .len 0 (.t 88), some (87, false), [21, 20]⟩,
  ⟨some 90, .bin .gtr (.t 89) (.c (.int .i64 18)), some (87, false), [22, 20]⟩,
  ⟨some 91, .pick (.t 87) (.c (.bool true)) (.t 90), none, [20, 23]⟩]
abbrev r35_9 : List AOper := [
  ⟨some 92, .mv (.t 0), none, []⟩,
  ⟨some 93, .nilchk (.t 92), none, [0, 0]⟩,
  ⟨some 94, .faddr 2 (.t 93), none, [1, 0]⟩,
  ⟨none, .store 1 (.t 94) (.c (.int .i64 22)), none, [2, 0]⟩]
abbrev r35_10 : List AOper := [
  ⟨some 95, .build [.int .i64 0, .str ⟨#[]⟩, .int .i64 0, .flt .f64 0, .int .i64 0] [], none, []⟩,
  ⟨some 96, .mv (.t 4), none, []⟩,
  ⟨none, .store 5 (.t 2) (.t 95), none, [0, 0]⟩,
  ⟨some 3, .mv (.t 96), none, [1, 2, 0, 1, 2]⟩]
abbrev r35_11 : List AOper := [
  ⟨some 8, .mv (.c (.int .i64 0)), none, []⟩]
abbrev r35_12 : List AOper := [
  ⟨some 97, .mv (.t 5), none, []⟩,
  ⟨some 98, .mv (.t 6), none, []⟩,
  ⟨some 99, .bin .add (.t 97) (.t 98), none, [0, 1]⟩,
  ⟨some 100, .conv (.strBytes 5) (.t 99), none, [2]⟩,
  ⟨some 101, .len 1 (.t 100), none, [3]⟩,
  ⟨some 102, .mv (.c (.int .i64 0)), none, []⟩]
abbrev r35_13 : List AOper := [
  ⟨some 103, .bin .lss (.t 102) (.t 101), none, []⟩]
abbrev r35_14 : List AOper := [
  ⟨some 104, .iaddr 1 (.t 100) (.t 102), none, []⟩,
  ⟨some 105, .load none (.t 104), none, [0]⟩,
  ⟨some 10, .mv (.t 105), none, [1, 0, 1]⟩]
abbrev r35_15 : List AOper := [
  ⟨some 106, .mv (.t 8), none, []⟩,
  ⟨some 107, .bin .mul (.c (.int .i64 10)) (.t 106), none, [0]⟩,
  ⟨some 108, .mv (.t 10), none, []⟩,
  ⟨some 109, .bin .sub (.t 108) (.c (.int .u8 48)), none, [2]⟩,
  ⟨some 110, .conv (.toInt .i64) (.t 109), none, [3]⟩,
  ⟨some 111, .bin .add (.t 107) (.t 110), none, [1, 4]⟩,
  ⟨some 8, .mv (.t 111), none, [5, 0, 1, 2, 3, 4, 5]⟩]
abbrev r35_16 : List AOper := [
  ⟨some 112, .bin .add (.t 102) (.c (.int .i64 1)), none, []⟩,
  ⟨some 102, .mv (.t 112), none, [0]⟩]
def l35_0 : ACode :=
  .seq (
  .region false r35_13 [0, 2, 4, 6, 8, 100, 101, 102, 103]) (
  .seq (
  .cond (.t 103) (
    .skip) (
    .exit 0)) (
  .seq (
  .block 1 (
    .seq (
    .region false r35_14 [0, 2, 4, 6, 8, 10, 100, 101, 102]) (
    .region false r35_15 [0, 2, 4, 6, 8, 100, 101, 102]))) (
  .region false r35_16 [0, 2, 4, 6, 8, 100, 101, 102])))
abbrev r35_17 : List AOper := [
  ⟨some 113, .mv (.t 6), none, []⟩,
  ⟨some 114, .bin .eql (.t 113) (.c (.str ⟨#[]⟩)), none, [0]⟩]
abbrev r35_18 : List AOper := [
  ⟨some 115, .mv (.t 8), none, []⟩,
  ⟨some 116, .bin .gtr (.t 115) (.c (.int .i64 576460752303423487)), none, [0]⟩]
abbrev r35_19 : List AOper := [
  ⟨some 117, .mv (.t 0), none, []⟩,
  ⟨some 118, .nilchk (.t 117), none, [0, 0]⟩,
  ⟨some 119, .faddr 2 (.t 118), none, [1, 0]⟩,
  ⟨none, .store 1 (.t 119) (.c (.int .i64 22)), none, [2, 0]⟩]
abbrev r35_20 : List AOper := [
  ⟨some 120, .mv (.t 8), none, []⟩,
  ⟨some 121, .build [.int .i64 0, .str ⟨#[]⟩, .int .i64 0, .flt .f64 0, .int .i64 0] [(0, 1, (.c (.int .i64 3))), (2, 1, (.t 120))], none, [0]⟩,
  ⟨some 122, .mv (.t 4), none, []⟩,
  ⟨none, .store 5 (.t 2) (.t 121), none, [1, 0, 1]⟩,
  ⟨some 3, .mv (.t 122), none, [2, 3, 0, 1, 2, 3]⟩]
abbrev r35_21 : List AOper := [
  ⟨some 11, .mv (.c (.flt .f64 4607182418800017408)), none, []⟩]
abbrev r35_22 : List AOper := [
  ⟨some 123, .mv (.t 6), none, []⟩,
  ⟨some 124, .rngS (.t 123), none, [0]⟩]
abbrev r35_23 : List AOper := [
  ⟨some 125, .nxtS (.t 124), none, []⟩,
  ⟨some 126, .extract (.t 125) 0, none, [0]⟩]
abbrev r35_24 : List AOper := [
  ⟨some 127, .mv (.t 11), none, []⟩,
  ⟨some 128, .bin .mul (.t 127) (.c (.flt .f64 4621819117588971520)), none, [0]⟩,
  ⟨some 11, .mv (.t 128), none, [1, 0, 1]⟩]
def l35_1 : ACode :=
  .seq (
  .region false r35_23 [2, 4, 8, 11, 124, 126]) (
  .seq (
  .cond (.t 126) (
    .skip) (
    .exit 2)) (
  .block 3 (
    .region false r35_24 [2, 4, 8, 11, 124])))
abbrev r35_25 : List AOper := [
  ⟨some 129, .mv (.t 8), none, []⟩,
  ⟨some 130, .conv (.toFlt .f64) (.t 129), none, [0]⟩,
  ⟨some 131, .mv (.t 11), none, []⟩,
  ⟨some 132, .bin .quo (.t 130) (.t 131), none, [1, 2]⟩,
  ⟨some 133, .build [.int .i64 0, .str ⟨#[]⟩, .int .i64 0, .flt .f64 0, .int .i64 0] [(0, 1, (.c (.int .i64 4))), (3, 1, (.t 132))], none, [3]⟩,
  ⟨some 134, .mv (.t 4), none, []⟩,
  ⟨none, .store 5 (.t 2) (.t 133), none, [4, 0, 1, 2, 3, 4]⟩,
  ⟨some 3, .mv (.t 134), none, [5, 6, 0, 1, 2, 3, 4, 5, 6]⟩]
def m35_2 : List Nat := [0, 1, 3, 7, 0, 16, 48, 112, 0, 511, 1023]
theorem d35_2 : okDraw r35_2 m35_2 = true := by kernel_rfl
def k35 : List (List Nat) := [[0, 2], [0, 2, 4], [0, 2, 4, 5], [0, 2, 4, 5, 6], [0, 2, 4, 5, 6, 54], [0, 2, 5, 7], [0, 2, 4, 5, 7], [0, 2, 4, 5, 6], [0, 2, 4, 5, 6, 91], [2, 4], [2, 3], [0, 2, 4, 5, 6, 8], [0, 2, 4, 6, 8, 100, 101, 102], [0, 2, 4, 6, 8, 100, 101, 102, 103], [0, 2, 4, 6, 8, 10, 100, 101, 102], [0, 2, 4, 6, 8, 100, 101, 102], [0, 2, 4, 6, 8, 100, 101, 102], [0, 2, 4, 6, 8, 114], [0, 2, 4, 8, 116], [2, 4, 8], [2, 3], [2, 4, 6, 8, 11], [2, 4, 8, 11, 124], [2, 4, 8, 11, 124, 126], [2, 4, 8, 11, 124], [2, 3]]
def f35 : AFunc := { ntmps := 135, results := [.cell 2 (some 5), .tmp 3], body := (
  .seq (
  .region false r35_0 [0, 2]) (
  .seq (
  .region false r35_1 [0, 2, 4]) (
  .seq (
  .region true r35_2 [0, 2, 4, 5]) (
  .seq (
  .region false r35_3 [0, 2, 4, 5, 6]) (
  .seq (
  .seq (
  .region false r35_4 [0, 2, 4, 5, 6, 54]) (
  .cond (.t 54) (
    .seq (
    .region false r35_5 [0, 2, 5, 7]) (
    .seq (
    .region false r35_6 [0, 2, 4, 5, 7]) (
    .region false r35_7 [0, 2, 4, 5, 6]))) (
    .skip))) (
  .seq (
  .seq (
  .region false r35_8 [0, 2, 4, 5, 6, 91]) (
  .cond (.t 91) (
    .seq (
    .region false r35_9 [2, 4]) (
    .seq (
    .region false r35_10 [2, 3]) (
    .ret))) (
    .skip))) (
  .seq (
  .region false r35_11 [0, 2, 4, 5, 6, 8]) (
  .seq (
  .seq (
  .region false r35_12 [0, 2, 4, 6, 8, 100, 101, 102]) (
  .block 0 (
    .loop l35_0))) (
  .seq (
  .seq (
  .region false r35_17 [0, 2, 4, 6, 8, 114]) (
  .cond (.t 114) (
    .seq (
    .seq (
    .region false r35_18 [0, 2, 4, 8, 116]) (
    .cond (.t 116) (
      .region false r35_19 [2, 4, 8]) (
      .skip))) (
    .seq (
    .region false r35_20 [2, 3]) (
    .ret))) (
    .skip))) (
  .seq (
  .region false r35_21 [2, 4, 6, 8, 11]) (
  .seq (
  .seq (
  .region false r35_22 [2, 4, 8, 11, 124]) (
  .block 2 (
    .loop l35_1))) (
  .seq (
  .region false r35_25 [2, 3]) (
  .ret))))))))))))) }
theorem c35 : cfunc Tryd.prog (kof k35) Tryd.f35 = some f35 := by kernel_rfl

/-- (*exitwave/lex.scanner).bits -/
abbrev r36_0 : List AOper := [
  ⟨some 2, .alloc 35 (.agg [.int .i64 0, .str ⟨#[]⟩, .int .i64 0, .flt .f64 0, .int .i64 0]), none, []⟩,
  ⟨some 3, .mv (.c (.int .i64 0)), none, []⟩]
abbrev r36_1 : List AOper := [
  ⟨some 8, .mv (.t 0), none, []⟩,
  ⟨some 9, .nilchk (.t 8), none, [0]⟩,
  ⟨some 10, .faddr 1 (.t 9), none, [1]⟩,
  ⟨some 11, .load none (.t 10), none, [2]⟩,
  ⟨some 12, .bin .add (.t 11) (.c (.int .i64 1)), none, [3]⟩,
  ⟨some 4, .mv (.t 12), none, [4, 0, 1, 2, 3, 4]⟩]
abbrev r36_2 : List AOper := [
  ⟨some 5, .mv (.c (.int .u64 0)), none, []⟩]
abbrev r36_3 : List AOper := [
  ⟨some 13, .mv (.t 4), none, []⟩,
  ⟨some 14, .mv (.t 0), none, []⟩,
  ⟨some 15, .nilchk (.t 14), none, [1]⟩,
  ⟨some 16, .faddr 1 (.t 15), none, [2]⟩,
  ⟨some 17, .load none (.t 16), none, [3]⟩,
  ⟨some 18, .bin .add (.t 17) (.c (.int .i64 17)), none, [4]⟩,
  ⟨some 19, .bin .lss (.t 13) (.t 18), none, [0, 5]⟩]
abbrev r36_5 : List AOper := [
  ⟨some 22, .mv (.t 4), none, []⟩,
  ⟨some 23, .mv (.t 0), none, []⟩,
  ⟨some 24, .nilchk (.t 23), none, [1]⟩,
  ⟨some 25, .faddr 0 (.t 24), none, [2]⟩,
  ⟨some 26, .load none (.t 25), none, [3]⟩,
  ⟨some 27, .len 0 (.t 26), none, [4]⟩,
  ⟨some 28, .bin .eql (.t 22) (.t 27), none, [0, 5]⟩,
  ⟨some 29, .mv (.t 28), none, [6]⟩,
  ⟨some 30, .mv (.t 0), some (29, false), [7]⟩,
  ⟨some 31, .nilchk (.t 30), some (29, false), [8, 7]⟩,
  ⟨some 32, .faddr 0 (.t 31), some (29, false), [9, 7]⟩,
  ⟨some 33, .load none (.t 32), some (29, false), [10, 7]⟩,
  ⟨some 34, .mv (.t 4), some (29, false), [7]⟩,
  ⟨some 35, .idxS (.t 33) (.t 34), some (29, false), [11, 12, 7]⟩,
  ⟨some 36, .callF 52 [(.t 35)], some (29, false), [13, 7, 7]⟩,
  ⟨some 37, .bin .lss (.t 36) (.c (.int .i64 0)), some (29, false), [14, 7]⟩,
  ⟨some 38, .pick (.t 29) (.c (.bool true)) (.t 37), none, [7, 15]⟩]
abbrev r36_6 : List AOper := [
  ⟨some 39, .mv (.t 0), none, []⟩,
  ⟨some 40, .nilchk (.t 39), none, [0, 0]⟩,
  ⟨some 41, .faddr 2 (.t 40), none, [1, 0]⟩,
  ⟨none, .store 1 (.t 41) (.c (.int .i64 22)), none, [2, 0]⟩]
abbrev r36_7 : List AOper := [
  ⟨some 42, .build [.int .i64 0, .str ⟨#[]⟩, .int .i64 0, .flt .f64 0, .int .i64 0] [], none, []⟩,
  ⟨some 43, .mv (.t 4), none, []⟩,
  ⟨none, .store 5 (.t 2) (.t 42), none, [0, 0]⟩,
  ⟨some 3, .mv (.t 43), none, [1, 2, 0, 1, 2]⟩]
abbrev r36_8 : List AOper := [
  ⟨some 44, .mv (.t 5), none, []⟩,
  ⟨some 45, .bin .shl (.t 44) (.c (.int .u64 4)), none, [0]⟩,
  ⟨some 46, .mv (.t 0), none, []⟩,
  ⟨some 47, .nilchk (.t 46), none, [2]⟩,
  ⟨some 48, .faddr 0 (.t 47), none, [3]⟩,
  ⟨some 49, .load none (.t 48), none, [4]⟩,
  ⟨some 50, .mv (.t 4), none, []⟩,
  ⟨some 51, .idxS (.t 49) (.t 50), none, [5, 6]⟩,
  ⟨some 52, .callF 52 [(.t 51)], none, [7]⟩,
  ⟨some 53, .conv (.toInt .u64) (.t 52), none, [8]⟩,
  ⟨some 54, .bin .or (.t 45) (.t 53), none, [1, 9]⟩,
  ⟨some 5, .mv (.t 54), none, [10, 8, 0, 1, 2, 3, 4, 5, 6, 7, 8, 9, 10]⟩]
abbrev r36_4 : List AOper := [
  ⟨some 20, .mv (.t 4), none, []⟩,
  ⟨some 21, .bin .add (.t 20) (.c (.int .i64 1)), none, [0]⟩,
  ⟨some 4, .mv (.t 21), none, [1, 0, 1]⟩]
def l36_0 : ACode :=
  .seq (
  .seq (
  .region false r36_3 [0, 2, 4, 5, 19]) (
  .cond (.t 19) (
    .skip) (
    .exit 0))) (
  .seq (
  .block 1 (
    .seq (
    .seq (
    .region false r36_5 [0, 2, 4, 5, 38]) (
    .cond (.t 38) (
      .seq (
      .region false r36_6 [2, 4]) (
      .seq (
      .region false r36_7 [2, 3]) (
      .ret))) (
      .skip))) (
    .region false r36_8 [0, 2, 4, 5]))) (
  .region false r36_4 [0, 2, 4, 5]))
abbrev r36_9 : List AOper := [
  ⟨some 56, .mv (.t 5), none, []⟩,
  ⟨some 57, .callF 53 [(.t 56)], none, [0]⟩,
  ⟨some 55, .mv (.t 57), none, [1]⟩,
  ⟨some 58, .extract (.t 55) 0, none, [2]⟩,
  ⟨some 59, .extract (.t 55) 1, none, [2]⟩,
  ⟨some 6, .alloc 44 (.agg [.int .i64 0, .int .i64 0, .flt .f64 0, .str ⟨#[]⟩, .nils]), none, []⟩,
  ⟨none, .store 5 (.t 6) (.t 58), none, [5, 3, 1, 0, 1, 2, 3, 5]⟩,
  ⟨some 7, .mv (.t 59), none, [4, 6, 0, 1, 2, 3, 4, 5, 6]⟩]
abbrev r36_10 : List AOper := [
  ⟨some 60, .mv (.t 7), none, []⟩,
  ⟨some 61, .bin .neq (.t 60) (.c (.int .i64 0)), none, [0]⟩]
abbrev r36_11 : List AOper := [
  ⟨some 62, .mv (.t 0), none, []⟩,
  ⟨some 63, .nilchk (.t 62), none, [0, 0]⟩,
  ⟨some 64, .faddr 2 (.t 63), none, [1, 0]⟩,
  ⟨none, .store 1 (.t 64) (.c (.int .i64 22)), none, [2, 0]⟩]
abbrev r36_12 : List AOper := [
  ⟨some 65, .faddr 2 (.t 6), none, []⟩,
  ⟨some 66, .load none (.t 65), none, [0]⟩,
  ⟨some 67, .build [.int .i64 0, .str ⟨#[]⟩, .int .i64 0, .flt .f64 0, .int .i64 0] [(0, 1, (.c (.int .i64 4))), (3, 1, (.t 66))], none, [1]⟩,
  ⟨some 68, .mv (.t 4), none, []⟩,
  ⟨none, .store 5 (.t 2) (.t 67), none, [2, 0, 1, 2]⟩,
  ⟨some 3, .mv (.t 68), none, [3, 4, 0, 1, 2, 3, 4]⟩]
def k36 : List (List Nat) := [[0, 2], [0, 2, 4], [0, 2, 4, 5], [0, 2, 4, 5, 19], [0, 2, 4, 5], [0, 2, 4, 5, 38], [2, 4], [2, 3], [0, 2, 4, 5], [0, 2, 4, 6, 7], [0, 2, 4, 6, 61], [2, 4, 6], [2, 3]]
def f36 : AFunc := { ntmps := 69, results := [.cell 2 (some 5), .tmp 3], body := (
  .seq (
  .region false r36_0 [0, 2]) (
  .seq (
  .region false r36_1 [0, 2, 4]) (
  .seq (
  .region false r36_2 [0, 2, 4, 5]) (
  .seq (
  .block 0 (
    .loop l36_0)) (
  .seq (
  .region false r36_9 [0, 2, 4, 6, 7]) (
  .seq (
  .seq (
  .region false r36_10 [0, 2, 4, 6, 61]) (
  .cond (.t 61) (
    .region false r36_11 [2, 4, 6]) (
    .skip))) (
  .seq (
  .region false r36_12 [2, 3]) (
  .ret)))))))) }
theorem c36 : cfunc Tryd.prog (kof k36) Tryd.f36 = some f36 := by kernel_rfl

/-- (*exitwave/lex.scanner).quoted -/
abbrev r37_0 : List AOper := [
  ⟨some 4, .mv (.c (.str ⟨#[]⟩)), none, []⟩,
  ⟨some 5, .mv (.c (.int .i64 0)), none, [0]⟩]
abbrev r37_1 : List AOper := [
  ⟨some 6, .mv (.c (.nils)), none, []⟩]
abbrev r37_2 : List AOper := [
  ⟨some 10, .mv (.t 0), none, []⟩,
  ⟨some 11, .nilchk (.t 10), none, [0]⟩,
  ⟨some 12, .faddr 1 (.t 11), none, [1]⟩,
  ⟨some 13, .load none (.t 12), none, [2]⟩,
  ⟨some 14, .bin .add (.t 13) (.c (.int .i64 1)), none, [3]⟩,
  ⟨some 7, .mv (.t 14), none, [4, 0, 1, 2, 3, 4]⟩]
abbrev r37_3 : List AOper := [
  ⟨some 15, .mv (.t 7), none, []⟩,
  ⟨some 16, .mv (.t 0), none, []⟩,
  ⟨some 17, .nilchk (.t 16), none, [1]⟩,
  ⟨some 18, .faddr 0 (.t 17), none, [2]⟩,
  ⟨some 19, .load none (.t 18), none, [3]⟩,
  ⟨some 20, .len 0 (.t 19), none, [4]⟩,
  ⟨some 21, .bin .lss (.t 15) (.t 20), none, [0, 5]⟩]
abbrev r37_4 : List AOper := [
  ⟨some 22, .mv (.t 0), none, []⟩,
  ⟨some 23, .nilchk (.t 22), none, [0]⟩,
  ⟨some 24, .faddr 0 (.t 23), none, [1]⟩,
  ⟨some 25, .load none (.t 24), none, [2]⟩,
  ⟨some 26, .mv (.t 7), none, []⟩,
  ⟨some 27, .idxS (.t 25) (.t 26), none, [3, 4]⟩,
  ⟨some 8, .mv (.t 27), none, [5, 0, 1, 2, 3, 4, 5]⟩]
abbrev r37_5 : List AOper := [
  ⟨some 29, .mv (.t 8), none, []⟩,
  ⟨some 30, .mv (.t 1), none, []⟩,
  ⟨some 31, .bin .eql (.t 29) (.t 30), none, [0, 1]⟩,
  ⟨some 28, .mv (.t 31), none, [2]⟩]
abbrev r37_6 : List AOper := [
  ⟨some 32, .mv (.t 6), none, []⟩,
  ⟨some 33, .conv .bytesStr (.t 32), none, [0]⟩,
  ⟨some 34, .mv (.t 7), none, []⟩,
  ⟨some 35, .bin .add (.t 34) (.c (.int .i64 1)), none, [2]⟩,
  ⟨some 4, .mv (.t 33), none, [1, 0, 1]⟩,
  ⟨some 5, .mv (.t 35), none, [3, 4, 0, 1, 2, 3, 4]⟩]
abbrev r37_7 : List AOper := [
  ⟨some 37, .mv (.t 8), none, []⟩,
  ⟨some 38, .bin .neq (.t 37) (.c (.int .u8 92)), none, [0]⟩,
  ⟨some 36, .mv (.t 38), none, [1]⟩]
abbrev r37_8 : List AOper := [
  ⟨some 39, .mv (.t 6), none, []⟩,
  ⟨some 40, .mv (.t 8), none, []⟩,
  ⟨some 41, .bslice 5 1 [.int .u8 0] [(0, 1, (.t 40))], none, [1]⟩,
  ⟨some 42, .app 5 1 1 (.t 39) (.t 41), none, [0, 2]⟩,
  ⟨some 6, .mv (.t 42), none, [3, 3, 0, 1, 2, 3]⟩]
abbrev r37_9 : List AOper := [
  ⟨some 43, .mv (.t 7), none, []⟩,
  ⟨some 44, .bin .add (.t 43) (.c (.int .i64 1)), none, [0]⟩,
  ⟨some 7, .mv (.t 44), none, [1, 0, 1]⟩]
abbrev r37_10 : List AOper := [
  ⟨some 46, .mv (.t 0), none, []⟩,
  ⟨some 47, .nilchk (.t 46), none, [0]⟩,
  ⟨some 48, .faddr 0 (.t 47), none, [1]⟩,
  ⟨some 49, .load none (.t 48), none, [2]⟩,
  ⟨some 50, .mv (.t 7), none, []⟩,
  ⟨some 51, .slcS (.t 49) (some (.t 50)) none, none, [3, 4]⟩,
  ⟨some 52, .callF 54 [(.t 51)], none, [5]⟩,
  ⟨some 45, .mv (.t 52), none, [6]⟩,
  ⟨some 53, .extract (.t 45) 0, none, [7]⟩,
  ⟨some 54, .extract (.t 45) 1, none, [7]⟩,
  ⟨some 8, .mv (.t 53), none, [8, 6, 0, 1, 2, 3, 4, 5, 6, 7, 8]⟩,
  ⟨some 9, .mv (.t 54), none, [9, 10, 0, 1, 2, 3, 4, 5, 6, 7, 8, 9, 10]⟩]
abbrev r37_11 : List AOper := [
  ⟨some 55, .mv (.t 9), none, []⟩,
  ⟨some 56, .bin .eql (.t 55) (.c (.int .i64 0)), none, [0]⟩]
abbrev r37_12 : List AOper := [
  ⟨some 57, .mv (.t 6), none, []⟩,
  ⟨some 58, .mv (.t 8), none, []⟩,
  ⟨some 59, .bslice 5 1 [.int .u8 0] [(0, 1, (.t 58))], none, [1]⟩,
  ⟨some 60, .app 5 1 1 (.t 57) (.t 59), none, [0, 2]⟩,
  ⟨some 6, .mv (.t 60), none, [3, 3, 0, 1, 2, 3]⟩]
abbrev r37_13 : List AOper := [
  ⟨some 61, .mv (.t 7), none, []⟩,
  ⟨some 62, .mv (.t 9), none, []⟩,
  ⟨some 63, .bin .add (.t 61) (.t 62), none, [0, 1]⟩,
  ⟨some 7, .mv (.t 63), none, [2, 0, 1, 2]⟩]
def l37_0 : ACode :=
  .seq (
  .seq (
  .region false r37_3 [0, 1, 6, 7, 21]) (
  .cond (.t 21) (
    .skip) (
    .exit 0))) (
  .block 1 (
    .seq (
    .region false r37_4 [0, 1, 6, 7, 8]) (
    .seq (
    .block 2 (
      .seq (
      .region false r37_5 [0, 1, 6, 7, 8, 28]) (
      .cond (.t 28) (
        .seq (
        .region false r37_6 [4, 5]) (
        .ret)) (
        .seq (
        .region false r37_7 [0, 1, 6, 7, 8, 36]) (
        .cond (.t 36) (
          .seq (
          .region false r37_8 [0, 1, 6, 7]) (
          .seq (
          .region false r37_9 [0, 1, 6, 7]) (
          .exit 1))) (
          .skip)))))) (
    .seq (
    .region false r37_10 [0, 1, 6, 7, 8, 9]) (
    .seq (
    .seq (
    .region false r37_11 [0, 1, 6, 7, 8, 9, 56]) (
    .cond (.t 56) (
      .exit 0) (
      .skip))) (
    .seq (
    .region false r37_12 [0, 1, 6, 7, 9]) (
    .region false r37_13 [0, 1, 6, 7])))))))
abbrev r37_14 : List AOper := [
  ⟨some 64, .mv (.t 0), none, []⟩,
  ⟨some 65, .nilchk (.t 64), none, [0, 0]⟩,
  ⟨some 66, .faddr 2 (.t 65), none, [1, 0]⟩,
  ⟨none, .store 1 (.t 66) (.c (.int .i64 23)), none, [2, 0]⟩]
abbrev r37_15 : List AOper := [
  ⟨some 67, .mv (.t 7), none, []⟩,
  ⟨some 4, .mv (.c (.str ⟨#[]⟩)), none, []⟩,
  ⟨some 5, .mv (.t 67), none, [0, 1, 0, 1]⟩]
def k37 : List (List Nat) := [[0, 1], [0, 1, 6], [0, 1, 6, 7], [0, 1, 6, 7, 21], [0, 1, 6, 7, 8], [0, 1, 6, 7, 8, 28], [4, 5], [0, 1, 6, 7, 8, 36], [0, 1, 6, 7], [0, 1, 6, 7], [0, 1, 6, 7, 8, 9], [0, 1, 6, 7, 8, 9, 56], [0, 1, 6, 7, 9], [0, 1, 6, 7], [7], [4, 5]]
def f37 : AFunc := { ntmps := 68, results := [.tmp 4, .tmp 5], body := (
  .seq (
  .region false r37_0 [0, 1]) (
  .seq (
  .region false r37_1 [0, 1, 6]) (
  .seq (
  .region false r37_2 [0, 1, 6, 7]) (
  .seq (
  .block 0 (
    .loop l37_0)) (
  .seq (
  .region false r37_14 [7]) (
  .seq (
  .region false r37_15 [4, 5]) (
  .ret))))))) }
theorem c37 : cfunc Tryd.prog (kof k37) Tryd.f37 = some f37 := by kernel_rfl

/-- (*exitwave/lex.scanner).sign -/
abbrev r38_0 : List AOper := [
  ⟨some 2, .mv (.c (.str ⟨#[]⟩)), none, []⟩]
abbrev r38_1 : List AOper := [
  ⟨some 6, .mv (.t 0), none, []⟩,
  ⟨some 7, .nilchk (.t 6), none, [0]⟩,
  ⟨some 8, .faddr 0 (.t 7), none, [1]⟩,
  ⟨some 9, .load none (.t 8), none, [2]⟩,
  ⟨some 10, .mv (.t 0), none, []⟩,
  ⟨some 11, .nilchk (.t 10), none, [4]⟩,
  ⟨some 12, .faddr 1 (.t 11), none, [5]⟩,
  ⟨some 13, .load none (.t 12), none, [6]⟩,
  ⟨some 14, .slcS (.t 9) (some (.t 13)) none, none, [3, 7]⟩,
  ⟨some 3, .mv (.t 14), none, [8, 0, 1, 2, 3, 4, 5, 6, 7, 8]⟩]
abbrev r38_2 : List AOper := [
  ⟨some 15, .callF 55 [(.c (.str ⟨#[61, 58, 61, 32, 61, 47, 61, 32, 45, 62, 32, 61, 61, 32, 47, 61, 32, 61, 60, 32, 62, 61, 32, 43, 43, 32, 40, 32, 41, 32, 123, 32, 125, 32, 91, 32, 93, 32, 44, 32, 59, 32, 46, 32, 124, 32, 61, 32, 60, 32, 62, 32, 43, 32, 45, 32, 42, 32, 47, 32, 33, 32, 58]⟩))], none, []⟩,
  ⟨some 16, .len 1 (.t 15), none, [0]⟩,
  ⟨some 17, .mv (.c (.int .i64 0)), none, []⟩]
abbrev r38_3 : List AOper := [
  ⟨some 18, .bin .lss (.t 17) (.t 16), none, []⟩]
abbrev r38_4 : List AOper := [
  ⟨some 19, .iaddr 1 (.t 15) (.t 17), none, []⟩,
  ⟨some 20, .load none (.t 19), none, [0]⟩,
  ⟨some 5, .mv (.t 20), none, [1, 0, 1]⟩]
abbrev r38_5 : List AOper := [
  ⟨some 21, .mv (.t 3), none, []⟩,
  ⟨some 22, .mv (.t 5), none, []⟩,
  ⟨some 23, .callF 56 [(.t 21), (.t 22)], none, [0, 1]⟩]
abbrev r38_6 : List AOper := [
  ⟨some 24, .mv (.t 5), none, []⟩,
  ⟨some 2, .mv (.t 24), none, [0, 0]⟩]
abbrev r38_7 : List AOper := [
  ⟨some 25, .bin .add (.t 17) (.c (.int .i64 1)), none, []⟩,
  ⟨some 17, .mv (.t 25), none, [0]⟩]
def l38_0 : ACode :=
  .seq (
  .region false r38_3 [3, 15, 16, 17, 18]) (
  .seq (
  .cond (.t 18) (
    .skip) (
    .exit 0)) (
  .seq (
  .block 1 (
    .seq (
    .region false r38_4 [3, 5, 15, 16, 17]) (
    .seq (
    .region false r38_5 [3, 5, 15, 16, 17, 23]) (
    .cond (.t 23) (
      .seq (
      .region false r38_6 [2]) (
      .ret)) (
      .skip))))) (
  .region false r38_7 [3, 15, 16, 17])))
abbrev r38_8 : List AOper := [
  ⟨some 2, .mv (.c (.str ⟨#[]⟩)), none, []⟩]
def m38_1 : List Nat := [0, 1, 3, 7, 0, 16, 48, 112, 255, 511]
theorem d38_1 : okDraw r38_1 m38_1 = true := by kernel_rfl
def k38 : List (List Nat) := [[0], [3], [3, 15, 16, 17], [3, 15, 16, 17, 18], [3, 5, 15, 16, 17], [3, 5, 15, 16, 17, 23], [2], [3, 15, 16, 17], [2]]
def f38 : AFunc := { ntmps := 26, results := [.tmp 2], body := (
  .seq (
  .region false r38_0 [0]) (
  .seq (
  .region true r38_1 [3]) (
  .seq (
  .seq (
  .region false r38_2 [3, 15, 16, 17]) (
  .block 0 (
    .loop l38_0))) (
  .seq (
  .region false r38_8 [2]) (
  .ret))))) }
theorem c38 : cfunc Tryd.prog (kof k38) Tryd.f38 = some f38 := by kernel_rfl

/-- exitwave/lex.named -/
abbrev r39_0 : List AOper := [
  ⟨some 2, .mv (.c (.bool false)), none, []⟩]
abbrev r39_1 : List AOper := [
  ⟨some 3, .mv (.t 0), none, []⟩,
  ⟨some 4, .callF 32 [(.t 3)], none, [0]⟩,
  ⟨some 5, .mv (.t 4), none, [1, 1]⟩,
  ⟨some 6, .mv (.t 0), some (5, false), [2]⟩,
  ⟨some 7, .callF 33 [(.t 6)], some (5, false), [3, 2, 2]⟩,
  ⟨some 8, .pick (.t 5) (.c (.bool true)) (.t 7), none, [2, 4]⟩,
  ⟨some 9, .mv (.t 8), none, [5, 4]⟩,
  ⟨some 10, .mv (.t 0), some (9, false), [6]⟩,
  ⟨some 11, .callF 34 [(.t 10)], some (9, false), [7, 6, 6]⟩,
  ⟨some 12, .pick (.t 9) (.c (.bool true)) (.t 11), none, [6, 8]⟩,
  ⟨some 13, .mv (.t 12), none, [9, 8]⟩,
  ⟨some 14, .mv (.t 0), some (13, false), [10]⟩,
  ⟨some 15, .bin .eql (.t 14) (.c (.int .u8 95)), some (13, false), [11, 10]⟩,
  ⟨some 16, .pick (.t 13) (.c (.bool true)) (.t 15), none, [10, 12]⟩,
  ⟨some 17, .mv (.t 16), none, [13, 10]⟩,
  ⟨some 18, .mv (.t 0), some (17, false), [14]⟩,
  ⟨some 19, .bin .eql (.t 18) (.c (.int .u8 64)), some (17, false), [15, 14]⟩,
  ⟨some 20, .pick (.t 17) (.c (.bool true)) (.t 19), none, [14, 16]⟩,
  ⟨some 2, .mv (.t 20), none, [17, 14, 0, 1, 2, 3, 4, 5, 6, 7, 8, 9, 10, 11, 12, 13, 14, 15, 16, 17]⟩]
def k39 : List (List Nat) := [[0], [2]]
def f39 : AFunc := { ntmps := 21, results := [.tmp 2], body := (
  .seq (
  .region false r39_0 [0]) (
  .seq (
  .region false r39_1 [2]) (
  .ret))) }
theorem c39 : cfunc Tryd.prog (kof k39) Tryd.f39 = some f39 := by kernel_rfl

/-- exitwave/exitwaveref5.word -/
abbrev r40_0 : List AOper := [
  ⟨some 4, .mv (.c (.int .i64 0)), none, []⟩]
abbrev r40_1 : List AOper := [
  ⟨some 5, .mv (.t 1), none, []⟩,
  ⟨some 6, .mv (.t 0), none, []⟩,
  ⟨some 7, .len 0 (.t 6), none, [1]⟩,
  ⟨some 8, .bin .lss (.t 5) (.t 7), none, [0, 2]⟩,
  ⟨some 9, .mv (.t 8), none, [3]⟩,
  ⟨some 10, .mv (.t 0), some (9, true), [4]⟩,
  ⟨some 11, .mv (.t 1), some (9, true), [4]⟩,
  ⟨some 12, .idxS (.t 10) (.t 11), some (9, true), [5, 6, 4]⟩,
  ⟨some 13, .callF 57 [(.t 12)], some (9, true), [7, 4, 4]⟩,
  ⟨some 14, .pick (.t 9) (.t 13) (.c (.bool false)), none, [4, 8]⟩]
abbrev r40_2 : List AOper := [
  ⟨some 15, .mv (.t 1), none, []⟩,
  ⟨some 16, .bin .add (.t 15) (.c (.int .i64 1)), none, [0]⟩,
  ⟨some 1, .mv (.t 16), none, [1, 0, 1]⟩]
def l40_0 : ACode :=
  .seq (
  .seq (
  .region false r40_1 [0, 1, 14]) (
  .cond (.t 14) (
    .skip) (
    .exit 0))) (
  .block 1 (
    .region false r40_2 [0, 1]))
abbrev r40_3 : List AOper := [
  ⟨some 17, .mv (.t 1), none, []⟩,
  ⟨some 4, .mv (.t 17), none, [0, 0]⟩]
def k40 : List (List Nat) := [[0, 1], [0, 1, 14], [0, 1], [4]]
def f40 : AFunc := { ntmps := 18, results := [.tmp 4], body := (
  .seq (
  .region false r40_0 [0, 1]) (
  .seq (
  .block 0 (
    .loop l40_0)) (
  .seq (
  .region false r40_3 [4]) (
  .ret)))) }
theorem c40 : cfunc Tryd.prog (kof k40) Tryd.f40 = some f40 := by kernel_rfl

/-- exitwave/exitwaveref5.digit -/
abbrev r41_0 : List AOper := [
  ⟨some 2, .mv (.c (.bool false)), none, []⟩]
abbrev r41_1 : List AOper := [
  ⟨some 3, .mv (.t 0), none, []⟩,
  ⟨some 4, .bin .geq (.t 3) (.c (.int .u8 48)), none, [0]⟩,
  ⟨some 5, .mv (.t 4), none, [1]⟩,
  ⟨some 6, .mv (.t 0), some (5, true), [2]⟩,
  ⟨some 7, .bin .leq (.t 6) (.c (.int .u8 57)), some (5, true), [3, 2]⟩,
  ⟨some 8, .pick (.t 5) (.t 7) (.c (.bool false)), none, [2, 4]⟩,
  ⟨some 2, .mv (.t 8), none, [5, 2, 0, 1, 2, 3, 4, 5]⟩]
def k41 : List (List Nat) := [[0], [2]]
def f41 : AFunc := { ntmps := 9, results := [.tmp 2], body := (
  .seq (
  .region false r41_0 [0]) (
  .seq (
  .region false r41_1 [2]) (
  .ret))) }
theorem c41 : cfunc Tryd.prog (kof k41) Tryd.f41 = some f41 := by kernel_rfl

/-- exitwave/exitwaveref5.number -/
abbrev r42_0 : List AOper := [
  ⟨some 4, .alloc 35 (.agg [.int .i64 0, .str ⟨#[]⟩, .int .i64 0, .flt .f64 0, .int .i64 0]), none, []⟩,
  ⟨some 5, .mv (.c (.int .i64 0)), none, []⟩,
  ⟨some 6, .mv (.c (.int .i64 0)), none, [1]⟩]
abbrev r42_1 : List AOper := [
  ⟨some 13, .mv (.t 1), none, []⟩,
  ⟨some 7, .mv (.t 13), none, [0, 0]⟩]
abbrev r42_2 : List AOper := [
  ⟨some 14, .mv (.t 7), none, []⟩,
  ⟨some 15, .mv (.t 0), none, []⟩,
  ⟨some 16, .len 0 (.t 15), none, [1]⟩,
  ⟨some 17, .bin .lss (.t 14) (.t 16), none, [0, 2]⟩,
  ⟨some 18, .mv (.t 17), none, [3]⟩,
  ⟨some 19, .mv (.t 0), some (18, true), [4]⟩,
  ⟨some 20, .mv (.t 7), some (18, true), [4]⟩,
  ⟨some 21, .idxS (.t 19) (.t 20), some (18, true), [5, 6, 4]⟩,
  ⟨some 22, .callF 41 [(.t 21)], some (18, true), [7, 4, 4]⟩,
  ⟨some 23, .pick (.t 18) (.t 22) (.c (.bool false)), none, [4, 8]⟩]
abbrev r42_3 : List AOper := [
  ⟨some 24, .mv (.t 7), none, []⟩,
  ⟨some 25, .bin .add (.t 24) (.c (.int .i64 1)), none, [0]⟩,
  ⟨some 7, .mv (.t 25), none, [1, 0, 1]⟩]
def l42_0 : ACode :=
  .seq (
  .seq (
  .region false r42_2 [0, 1, 4, 7, 23]) (
  .cond (.t 23) (
    .skip) (
    .exit 0))) (
  .block 1 (
    .region false r42_3 [0, 1, 4, 7]))
abbrev r42_4 : List AOper := [
  ⟨some 26, .mv (.t 0), none, []⟩,
  ⟨some 27, .mv (.t 1), none, []⟩,
  ⟨some 28, .mv (.t 7), none, []⟩,
  ⟨some 29, .slcS (.t 26) (some (.t 27)) (some (.t 28)), none, [0, 1, 2]⟩,
  ⟨some 8, .mv (.t 29), none, [3, 0, 1, 2, 3]⟩]
abbrev r42_5 : List AOper := [
  ⟨some 30, .mv (.t 8), none, []⟩,
  ⟨some 31, .len 0 (.t 30), none, [0]⟩,
  ⟨some 32, .bin .gtr (.t 31) (.c (.int .i64 1)), none, [1]⟩,
  ⟨some 33, .mv (.t 32), none, [2]⟩,
  ⟨some 34, .mv (.t 8), some (33, true), [3]⟩,
  ⟨some 35, .idxS (.t 34) (.c (.int .i64 0)), some (33, true), [4, 3]⟩,
  ⟨some 36, .bin .eql (.t 35) (.c (.int .u8 48)), some (33, true), [5, 3]⟩,
  ⟨some 37, .pick (.t 33) (.t 36) (.c (.bool false)), none, [3, 6]⟩]
abbrev r42_6 : List AOper := [
  ⟨some 38, .build [.int .i64 0, .str ⟨#[]⟩, .int .i64 0, .flt .f64 0, .int .i64 0] [], none, []⟩,
  ⟨none, .store 5 (.t 4) (.t 38), none, [0, 0]⟩,
  ⟨some 5, .mv (.c (.int .i64 0)), none, [1, 0, 1]⟩,
  ⟨some 6, .mv (.c (.int .i64 22)), none, [2, 0, 1, 2]⟩]
abbrev r42_7 : List AOper := [
  ⟨some 39, .mv (.t 7), none, []⟩,
  ⟨some 40, .bin .add (.t 39) (.c (.int .i64 1)), none, [0]⟩,
  ⟨some 41, .mv (.t 0), none, []⟩,
  ⟨some 42, .len 0 (.t 41), none, [2]⟩,
  ⟨some 43, .bin .geq (.t 40) (.t 42), none, [1, 3]⟩,
  ⟨some 44, .mv (.t 43), none, [4]⟩,
  ⟨some 45, .mv (.t 0), some (44, false), [5]⟩,
  ⟨some 46, .mv (.t 7), some (44, false), [5]⟩,
  ⟨some 47, .idxS (.t 45) (.t 46), some (44, false), [6, 7, 5]⟩,
  ⟨some 48, .bin .neq (.t 47) (.c (.int .u8 46)), some (44, false), [8, 5]⟩,
  ⟨some 49, .pick (.t 44) (.c (.bool true)) (.t 48), none, [5, 9]⟩,
  ⟨some 50, .mv (.t 49), none, [10, 5]⟩,
  ⟨some 51, .mv (.t 0), some (50, false), [11]⟩,
  ⟨some 52, .mv (.t 7), some (50, false), [11]⟩,
  ⟨some 53, .bin .add (.t 52) (.c (.int .i64 1)), some (50, false), [13, 11]⟩,
  ⟨some 54, .idxS (.t 51) (.t 53), some (50, false), [12, 14, 11]⟩,
  ⟨some 55, .callF 41 [(.t 54)], some (50, false), [15, 11, 11]⟩,
  ⟨some 56, .un .not (.t 55), some (50, false), [16, 11]⟩,
  ⟨some 57, .pick (.t 50) (.c (.bool true)) (.t 56), none, [11, 17]⟩]
abbrev r42_8 : List AOper := [
  ⟨some 58, .mv (.t 8), none, []⟩,
  ⟨some 59, .len 0 (.t 58), none, [0]⟩,
  ⟨some 60, .bin .gtr (.t 59) (.c (.int .i64 18)), none, [1]⟩,
  ⟨some 61, .mv (.t 60), none, [2]⟩,
  ⟨some 62, .mv (.t 8), some (61, false), [3]⟩,
  ⟨some 63, .callF 58 [(.t 62)], some (61, false), [4, 3, 3]⟩,
  ⟨some 64, .bin .gtr (.t 63) (.c (.int .i64 576460752303423487)), some (61, false), [5, 3]⟩,
  ⟨some 65, .pick (.t 61) (.c (.bool true)) (.t 64), none, [3, 6]⟩]
abbrev r42_9 : List AOper := [
  ⟨some 66, .build [.int .i64 0, .str ⟨#[]⟩, .int .i64 0, .flt .f64 0, .int .i64 0] [], none, []⟩,
  ⟨none, .store 5 (.t 4) (.t 66), none, [0, 0]⟩,
  ⟨some 5, .mv (.c (.int .i64 0)), none, [1, 0, 1]⟩,
  ⟨some 6, .mv (.c (.int .i64 22)), none, [2, 0, 1, 2]⟩]
abbrev r42_10 : List AOper := [
  ⟨some 67, .mv (.t 8), none, []⟩,
  ⟨some 68, .callF 58 [(.t 67)], none, [0]⟩,
  ⟨some 69, .mv (.t 1), none, []⟩,
  ⟨some 70, .build [.int .i64 0, .str ⟨#[]⟩, .int .i64 0, .flt .f64 0, .int .i64 0] [(0, 1, (.c (.int .i64 3))), (2, 1, (.t 68)), (4, 1, (.t 69))], none, [1, 2]⟩,
  ⟨some 71, .mv (.t 7), none, []⟩,
  ⟨none, .store 5 (.t 4) (.t 70), none, [3, 1, 0, 1, 2, 3]⟩,
  ⟨some 5, .mv (.t 71), none, [4, 5, 0, 1, 2, 3, 4, 5]⟩,
  ⟨some 6, .mv (.c (.int .i64 0)), none, [6, 0, 1, 2, 3, 4, 5, 6]⟩]
abbrev r42_11 : List AOper := [
  ⟨some 72, .mv (.t 7), none, []⟩,
  ⟨some 9, .mv (.t 72), none, [0, 0]⟩]
abbrev r42_12 : List AOper := [
  ⟨some 73, .mv (.t 7), none, []⟩,
  ⟨some 74, .bin .add (.t 73) (.c (.int .i64 1)), none, [0]⟩,
  ⟨some 7, .mv (.t 74), none, [1, 0, 1]⟩]
abbrev r42_13 : List AOper := [
  ⟨some 75, .mv (.t 7), none, []⟩,
  ⟨some 76, .mv (.t 0), none, []⟩,
  ⟨some 77, .len 0 (.t 76), none, [1]⟩,
  ⟨some 78, .bin .lss (.t 75) (.t 77), none, [0, 2]⟩,
  ⟨some 79, .mv (.t 78), none, [3]⟩,
  ⟨some 80, .mv (.t 0), some (79, true), [4]⟩,
  ⟨some 81, .mv (.t 7), some (79, true), [4]⟩,
  ⟨some 82, .idxS (.t 80) (.t 81), some (79, true), [5, 6, 4]⟩,
  ⟨some 83, .callF 41 [(.t 82)], some (79, true), [7, 4, 4]⟩,
  ⟨some 84, .pick (.t 79) (.t 83) (.c (.bool false)), none, [4, 8]⟩]
abbrev r42_14 : List AOper := [
  ⟨some 85, .mv (.t 7), none, []⟩,
  ⟨some 86, .bin .add (.t 85) (.c (.int .i64 1)), none, [0]⟩,
  ⟨some 7, .mv (.t 86), none, [1, 0, 1]⟩]
def l42_1 : ACode :=
  .seq (
  .seq (
  .region false r42_13 [0, 1, 4, 7, 8, 9, 84]) (
  .cond (.t 84) (
    .skip) (
    .exit 2))) (
  .block 3 (
    .region false r42_14 [0, 1, 4, 7, 8, 9]))
abbrev r42_15 : List AOper := [
  ⟨some 87, .mv (.t 0), none, []⟩,
  ⟨some 88, .mv (.t 9), none, []⟩,
  ⟨some 89, .bin .add (.t 88) (.c (.int .i64 1)), none, [1]⟩,
  ⟨some 90, .mv (.t 7), none, []⟩,
  ⟨some 91, .slcS (.t 87) (some (.t 89)) (some (.t 90)), none, [0, 2, 3]⟩,
  ⟨some 10, .mv (.t 91), none, [4, 0, 1, 2, 3, 4]⟩]
abbrev r42_16 : List AOper := [
  ⟨some 92, .mv (.t 8), none, []⟩,
  ⟨some 93, .len 0 (.t 92), none, [0]⟩,
  ⟨some 94, .mv (.t 10), none, []⟩,
  ⟨some 95, .len 0 (.t 94), none, [2]⟩,
  ⟨some 96, .bin .add (.t 93) (.t 95), none, [1, 3]⟩,
  ⟨some 97, .bin .gtr (.t 96) (.c (.int .i64 15)), none, [4]⟩]
abbrev r42_17 : List AOper := [
  ⟨some 98, .build [.int .i64 0, .str ⟨#[]⟩, .int .i64 0, .flt .f64 0, .int .i64 0] [], none, []⟩,
  ⟨none, .store 5 (.t 4) (.t 98), none, [0, 0]⟩,
  ⟨some 5, .mv (.c (.int .i64 0)), none, [1, 0, 1]⟩,
  ⟨some 6, .mv (.c (.int .i64 22)), none, [2, 0, 1, 2]⟩]
abbrev r42_18 : List AOper := [
  ⟨some 11, .mv (.c (.int .i64 1)), none, []⟩]
abbrev r42_19 : List AOper := [
  ⟨some 12, .mv (.c (.int .i64 0)), none, []⟩]
abbrev r42_20 : List AOper := [
  ⟨some 99, .mv (.t 12), none, []⟩,
  ⟨some 100, .mv (.t 10), none, []⟩,
  ⟨some 101, .len 0 (.t 100), none, [1]⟩,
  ⟨some 102, .bin .lss (.t 99) (.t 101), none, [0, 2]⟩]
abbrev r42_22 : List AOper := [
  ⟨some 105, .mv (.t 11), none, []⟩,
  ⟨some 106, .bin .mul (.c (.int .i64 10)) (.t 105), none, [0]⟩,
  ⟨some 11, .mv (.t 106), none, [1, 0, 1]⟩]
abbrev r42_21 : List AOper := [
  ⟨some 103, .mv (.t 12), none, []⟩,
  ⟨some 104, .bin .add (.t 103) (.c (.int .i64 1)), none, [0]⟩,
  ⟨some 12, .mv (.t 104), none, [1, 0, 1]⟩]
def l42_2 : ACode :=
  .seq (
  .seq (
  .region false r42_20 [1, 4, 7, 8, 10, 11, 12, 102]) (
  .cond (.t 102) (
    .skip) (
    .exit 4))) (
  .seq (
  .block 5 (
    .region false r42_22 [1, 4, 7, 8, 10, 11, 12])) (
  .region false r42_21 [1, 4, 7, 8, 10, 11, 12]))
abbrev r42_23 : List AOper := [
  ⟨some 107, .mv (.t 8), none, []⟩,
  ⟨some 108, .mv (.t 10), none, []⟩,
  ⟨some 109, .bin .add (.t 107) (.t 108), none, [0, 1]⟩,
  ⟨some 110, .callF 58 [(.t 109)], none, [2]⟩,
  ⟨some 111, .conv (.toFlt .f64) (.t 110), none, [3]⟩,
  ⟨some 112, .mv (.t 11), none, []⟩,
  ⟨some 113, .conv (.toFlt .f64) (.t 112), none, [5]⟩,
  ⟨some 114, .bin .quo (.t 111) (.t 113), none, [4, 6]⟩,
  ⟨some 115, .mv (.t 1), none, []⟩,
  ⟨some 116, .build [.int .i64 0, .str ⟨#[]⟩, .int .i64 0, .flt .f64 0, .int .i64 0] [(0, 1, (.c (.int .i64 4))), (3, 1, (.t 114)), (4, 1, (.t 115))], none, [7, 8]⟩,
  ⟨some 117, .mv (.t 7), none, []⟩,
  ⟨none, .store 5 (.t 4) (.t 116), none, [9, 3, 0, 1, 2, 3, 4, 5, 6, 7, 8, 9]⟩,
  ⟨some 5, .mv (.t 117), none, [10, 11, 0, 1, 2, 3, 4, 5, 6, 7, 8, 9, 10, 11]⟩,
  ⟨some 6, .mv (.c (.int .i64 0)), none, [12, 0, 1, 2, 3, 4, 5, 6, 7, 8, 9, 10, 11, 12]⟩]
def k42 : List (List Nat) := [[0, 1, 4], [0, 1, 4, 7], [0, 1, 4, 7, 23], [0, 1, 4, 7], [0, 1, 4, 7, 8], [0, 1, 4, 7, 8, 37], [4, 5, 6], [0, 1, 4, 7, 8, 57], [1, 4, 7, 8, 65], [4, 5, 6], [4, 5, 6], [0, 1, 4, 7, 8, 9], [0, 1, 4, 7, 8, 9], [0, 1, 4, 7, 8, 9, 84], [0, 1, 4, 7, 8, 9], [1, 4, 7, 8, 10], [1, 4, 7, 8, 10, 97], [4, 5, 6], [1, 4, 7, 8, 10, 11], [1, 4, 7, 8, 10, 11, 12], [1, 4, 7, 8, 10, 11, 12, 102], [1, 4, 7, 8, 10, 11, 12], [1, 4, 7, 8, 10, 11, 12], [4, 5, 6]]
def f42 : AFunc := { ntmps := 118, results := [.cell 4 (some 5), .tmp 5, .tmp 6], body := (
  .seq (
  .region false r42_0 [0, 1, 4]) (
  .seq (
  .region false r42_1 [0, 1, 4, 7]) (
  .seq (
  .block 0 (
    .loop l42_0)) (
  .seq (
  .region false r42_4 [0, 1, 4, 7, 8]) (
  .seq (
  .seq (
  .region false r42_5 [0, 1, 4, 7, 8, 37]) (
  .cond (.t 37) (
    .seq (
    .region false r42_6 [4, 5, 6]) (
    .ret)) (
    .skip))) (
  .seq (
  .seq (
  .region false r42_7 [0, 1, 4, 7, 8, 57]) (
  .cond (.t 57) (
    .seq (
    .seq (
    .region false r42_8 [1, 4, 7, 8, 65]) (
    .cond (.t 65) (
      .seq (
      .region false r42_9 [4, 5, 6]) (
      .ret)) (
      .skip))) (
    .seq (
    .region false r42_10 [4, 5, 6]) (
    .ret))) (
    .skip))) (
  .seq (
  .region false r42_11 [0, 1, 4, 7, 8, 9]) (
  .seq (
  .region false r42_12 [0, 1, 4, 7, 8, 9]) (
  .seq (
  .block 2 (
    .loop l42_1)) (
  .seq (
  .region false r42_15 [1, 4, 7, 8, 10]) (
  .seq (
  .seq (
  .region false r42_16 [1, 4, 7, 8, 10, 97]) (
  .cond (.t 97) (
    .seq (
    .region false r42_17 [4, 5, 6]) (
    .ret)) (
    .skip))) (
  .seq (
  .region false r42_18 [1, 4, 7, 8, 10, 11]) (
  .seq (
  .seq (
  .region false r42_19 [1, 4, 7, 8, 10, 11, 12]) (
  .block 4 (
    .loop l42_2))) (
  .seq (
  .region false r42_23 [4, 5, 6]) (
  .ret))))))))))))))) }
theorem c42 : cfunc Tryd.prog (kof k42) Tryd.f42 = some f42 := by kernel_rfl

/-- exitwave/exitwaveref5.bits -/
abbrev r43_0 : List AOper := [
  ⟨some 4, .alloc 35 (.agg [.int .i64 0, .str ⟨#[]⟩, .int .i64 0, .flt .f64 0, .int .i64 0]), none, []⟩,
  ⟨some 5, .mv (.c (.int .i64 0)), none, []⟩,
  ⟨some 6, .mv (.c (.int .i64 0)), none, [1]⟩]
abbrev r43_1 : List AOper := [
  ⟨some 11, .mv (.t 1), none, []⟩,
  ⟨some 12, .bin .add (.t 11) (.c (.int .i64 17)), none, [0]⟩,
  ⟨some 13, .mv (.t 0), none, []⟩,
  ⟨some 14, .len 0 (.t 13), none, [2]⟩,
  ⟨some 15, .bin .gtr (.t 12) (.t 14), none, [1, 3]⟩]
abbrev r43_2 : List AOper := [
  ⟨some 16, .build [.int .i64 0, .str ⟨#[]⟩, .int .i64 0, .flt .f64 0, .int .i64 0] [], none, []⟩,
  ⟨none, .store 5 (.t 4) (.t 16), none, [0, 0]⟩,
  ⟨some 5, .mv (.c (.int .i64 0)), none, [1, 0, 1]⟩,
  ⟨some 6, .mv (.c (.int .i64 22)), none, [2, 0, 1, 2]⟩]
abbrev r43_3 : List AOper := [
  ⟨some 7, .mv (.c (.int .u64 0)), none, []⟩]
abbrev r43_4 : List AOper := [
  ⟨some 17, .mv (.t 1), none, []⟩,
  ⟨some 18, .bin .add (.t 17) (.c (.int .i64 1)), none, [0]⟩,
  ⟨some 8, .mv (.t 18), none, [1, 0, 1]⟩]
abbrev r43_5 : List AOper := [
  ⟨some 19, .mv (.t 8), none, []⟩,
  ⟨some 20, .mv (.t 1), none, []⟩,
  ⟨some 21, .bin .add (.t 20) (.c (.int .i64 17)), none, [1]⟩,
  ⟨some 22, .bin .lss (.t 19) (.t 21), none, [0, 2]⟩]
abbrev r43_7 : List AOper := [
  ⟨some 25, .mv (.t 0), none, []⟩,
  ⟨some 26, .mv (.t 8), none, []⟩,
  ⟨some 27, .idxS (.t 25) (.t 26), none, [0, 1]⟩,
  ⟨some 28, .callF 59 [(.t 27)], none, [2]⟩,
  ⟨some 9, .mv (.t 28), none, [3, 3, 0, 1, 2, 3]⟩]
abbrev r43_8 : List AOper := [
  ⟨some 29, .mv (.t 9), none, []⟩,
  ⟨some 30, .bin .lss (.t 29) (.c (.int .i64 0)), none, [0]⟩]
abbrev r43_9 : List AOper := [
  ⟨some 31, .build [.int .i64 0, .str ⟨#[]⟩, .int .i64 0, .flt .f64 0, .int .i64 0] [], none, []⟩,
  ⟨none, .store 5 (.t 4) (.t 31), none, [0, 0]⟩,
  ⟨some 5, .mv (.c (.int .i64 0)), none, [1, 0, 1]⟩,
  ⟨some 6, .mv (.c (.int .i64 22)), none, [2, 0, 1, 2]⟩]
abbrev r43_10 : List AOper := [
  ⟨some 32, .mv (.t 7), none, []⟩,
  ⟨some 33, .bin .shl (.t 32) (.c (.int .u64 4)), none, [0]⟩,
  ⟨some 34, .mv (.t 9), none, []⟩,
  ⟨some 35, .conv (.toInt .u64) (.t 34), none, [2]⟩,
  ⟨some 36, .bin .or (.t 33) (.t 35), none, [1, 3]⟩,
  ⟨some 7, .mv (.t 36), none, [4, 0, 1, 2, 3, 4]⟩]
abbrev r43_6 : List AOper := [
  ⟨some 23, .mv (.t 8), none, []⟩,
  ⟨some 24, .bin .add (.t 23) (.c (.int .i64 1)), none, [0]⟩,
  ⟨some 8, .mv (.t 24), none, [1, 0, 1]⟩]
def l43_0 : ACode :=
  .seq (
  .seq (
  .region false r43_5 [0, 1, 4, 7, 8, 22]) (
  .cond (.t 22) (
    .skip) (
    .exit 0))) (
  .seq (
  .block 1 (
    .seq (
    .region false r43_7 [0, 1, 4, 7, 8, 9]) (
    .seq (
    .seq (
    .region false r43_8 [0, 1, 4, 7, 8, 9, 30]) (
    .cond (.t 30) (
      .seq (
      .region false r43_9 [4, 5, 6]) (
      .ret)) (
      .skip))) (
    .region false r43_10 [0, 1, 4, 7, 8])))) (
  .region false r43_6 [0, 1, 4, 7, 8]))
abbrev r43_11 : List AOper := [
  ⟨some 37, .mv (.t 7), none, []⟩,
  ⟨some 38, .ext 1 [(.t 37)], none, [0]⟩,
  ⟨some 10, .mv (.t 38), none, [1, 1, 0, 1]⟩]
abbrev r43_12 : List AOper := [
  ⟨some 39, .mv (.t 10), none, []⟩,
  ⟨some 40, .callF 60 [(.t 39)], none, [0]⟩,
  ⟨some 41, .un .not (.t 40), none, [1]⟩]
abbrev r43_13 : List AOper := [
  ⟨some 42, .build [.int .i64 0, .str ⟨#[]⟩, .int .i64 0, .flt .f64 0, .int .i64 0] [], none, []⟩,
  ⟨none, .store 5 (.t 4) (.t 42), none, [0, 0]⟩,
  ⟨some 5, .mv (.c (.int .i64 0)), none, [1, 0, 1]⟩,
  ⟨some 6, .mv (.c (.int .i64 22)), none, [2, 0, 1, 2]⟩]
abbrev r43_14 : List AOper := [
  ⟨some 43, .mv (.t 10), none, []⟩,
  ⟨some 44, .mv (.t 1), none, []⟩,
  ⟨some 45, .build [.int .i64 0, .str ⟨#[]⟩, .int .i64 0, .flt .f64 0, .int .i64 0] [(0, 1, (.c (.int .i64 4))), (3, 1, (.t 43)), (4, 1, (.t 44))], none, [0, 1]⟩,
  ⟨some 46, .mv (.t 1), none, []⟩,
  ⟨some 47, .bin .add (.t 46) (.c (.int .i64 17)), none, [3]⟩,
  ⟨none, .store 5 (.t 4) (.t 45), none, [2, 0, 1, 2]⟩,
  ⟨some 5, .mv (.t 47), none, [4, 5, 0, 1, 2, 3, 4, 5]⟩,
  ⟨some 6, .mv (.c (.int .i64 0)), none, [6, 0, 1, 2, 3, 4, 5, 6]⟩]
def k43 : List (List Nat) := [[0, 1, 4], [0, 1, 4, 15], [4, 5, 6], [0, 1, 4, 7], [0, 1, 4, 7, 8], [0, 1, 4, 7, 8, 22], [0, 1, 4, 7, 8], [0, 1, 4, 7, 8, 9], [0, 1, 4, 7, 8, 9, 30], [4, 5, 6], [0, 1, 4, 7, 8], [1, 4, 10], [1, 4, 10, 41], [4, 5, 6], [4, 5, 6]]
def f43 : AFunc := { ntmps := 48, results := [.cell 4 (some 5), .tmp 5, .tmp 6], body := (
  .seq (
  .region false r43_0 [0, 1, 4]) (
  .seq (
  .seq (
  .region false r43_1 [0, 1, 4, 15]) (
  .cond (.t 15) (
    .seq (
    .region false r43_2 [4, 5, 6]) (
    .ret)) (
    .skip))) (
  .seq (
  .region false r43_3 [0, 1, 4, 7]) (
  .seq (
  .seq (
  .region false r43_4 [0, 1, 4, 7, 8]) (
  .block 0 (
    .loop l43_0))) (
  .seq (
  .region false r43_11 [1, 4, 10]) (
  .seq (
  .seq (
  .region false r43_12 [1, 4, 10, 41]) (
  .cond (.t 41) (
    .seq (
    .region false r43_13 [4, 5, 6]) (
    .ret)) (
    .skip))) (
  .seq (
  .region false r43_14 [4, 5, 6]) (
  .ret)))))))) }
theorem c43 : cfunc Tryd.prog (kof k43) Tryd.f43 = some f43 := by kernel_rfl

/-- exitwave/exitwaveref5.quoted -/
abbrev r44_0 : List AOper := [
  ⟨some 4, .mv (.c (.str ⟨#[]⟩)), none, []⟩,
  ⟨some 5, .mv (.c (.int .i64 0)), none, [0]⟩,
  ⟨some 6, .mv (.c (.bool false)), none, [1]⟩]
abbrev r44_1 : List AOper := [
  ⟨some 7, .mv (.c (.nils)), none, []⟩]
abbrev r44_2 : List AOper := [
  ⟨some 10, .mv (.t 1), none, []⟩,
  ⟨some 11, .bin .add (.t 10) (.c (.int .i64 1)), none, [0]⟩,
  ⟨some 8, .mv (.t 11), none, [1, 0, 1]⟩]
abbrev r44_3 : List AOper := [
  ⟨some 12, .mv (.t 8), none, []⟩,
  ⟨some 13, .mv (.t 0), none, []⟩,
  ⟨some 14, .len 0 (.t 13), none, [1]⟩,
  ⟨some 15, .bin .lss (.t 12) (.t 14), none, [0, 2]⟩]
abbrev r44_4 : List AOper := [
  ⟨some 16, .mv (.t 0), none, []⟩,
  ⟨some 17, .mv (.t 8), none, []⟩,
  ⟨some 18, .idxS (.t 16) (.t 17), none, [0, 1]⟩,
  ⟨some 9, .mv (.t 18), none, [2, 0, 1, 2]⟩]
abbrev r44_5 : List AOper := [
  ⟨some 19, .mv (.t 9), none, []⟩,
  ⟨some 20, .mv (.t 0), none, []⟩,
  ⟨some 21, .mv (.t 1), none, []⟩,
  ⟨some 22, .idxS (.t 20) (.t 21), none, [1, 2]⟩,
  ⟨some 23, .bin .eql (.t 19) (.t 22), none, [0, 3]⟩]
abbrev r44_6 : List AOper := [
  ⟨some 24, .mv (.t 7), none, []⟩,
  ⟨some 25, .conv .bytesStr (.t 24), none, [0]⟩,
  ⟨some 26, .mv (.t 8), none, []⟩,
  ⟨some 27, .bin .add (.t 26) (.c (.int .i64 1)), none, [2]⟩,
  ⟨some 4, .mv (.t 25), none, [1, 0, 1]⟩,
  ⟨some 5, .mv (.t 27), none, [3, 4, 0, 1, 2, 3, 4]⟩,
  ⟨some 6, .mv (.c (.bool true)), none, [5, 0, 1, 2, 3, 4, 5]⟩]
abbrev r44_7 : List AOper := [
  ⟨some 28, .mv (.t 9), none, []⟩,
  ⟨some 29, .bin .neq (.t 28) (.c (.int .u8 92)), none, [0]⟩]
abbrev r44_8 : List AOper := [
  ⟨some 30, .mv (.t 7), none, []⟩,
  ⟨some 31, .mv (.t 9), none, []⟩,
  ⟨some 32, .bslice 5 1 [.int .u8 0] [(0, 1, (.t 31))], none, [1]⟩,
  ⟨some 33, .app 5 1 1 (.t 30) (.t 32), none, [0, 2]⟩,
  ⟨some 7, .mv (.t 33), none, [3, 3, 0, 1, 2, 3]⟩]
abbrev r44_9 : List AOper := [
  ⟨some 34, .mv (.t 8), none, []⟩,
  ⟨some 35, .bin .add (.t 34) (.c (.int .i64 1)), none, [0]⟩,
  ⟨some 8, .mv (.t 35), none, [1, 0, 1]⟩]
abbrev r44_10 : List AOper := [
  ⟨some 36, .mv (.t 8), none, []⟩,
  ⟨some 37, .bin .add (.t 36) (.c (.int .i64 1)), none, [0]⟩,
  ⟨some 38, .mv (.t 0), none, []⟩,
  ⟨some 39, .len 0 (.t 38), none, [2]⟩,
  ⟨some 40, .bin .geq (.t 37) (.t 39), none, [1, 3]⟩]
abbrev r44_11 : List AOper := [
  ⟨some 4, .mv (.c (.str ⟨#[]⟩)), none, []⟩,
  ⟨some 5, .mv (.c (.int .i64 0)), none, [0, 0]⟩,
  ⟨some 6, .mv (.c (.bool false)), none, [1, 0, 1]⟩]
abbrev r44_12 : List AOper := [
  ⟨some 41, .mv (.t 0), none, []⟩,
  ⟨some 42, .mv (.t 8), none, []⟩,
  ⟨some 43, .bin .add (.t 42) (.c (.int .i64 1)), none, [1]⟩,
  ⟨some 44, .idxS (.t 41) (.t 43), none, [0, 2]⟩]
abbrev r44_14 : List AOper := [
  ⟨some 46, .bin .eql (.t 44) (.c (.int .u8 92)), none, []⟩,
  ⟨some 45, .mv (.t 46), none, [0]⟩]
abbrev r44_15 : List AOper := [
  ⟨some 47, .bin .eql (.t 44) (.c (.int .u8 39)), none, []⟩,
  ⟨some 45, .mv (.t 47), none, [0]⟩]
abbrev r44_16 : List AOper := [
  ⟨some 48, .bin .eql (.t 44) (.c (.int .u8 34)), none, []⟩,
  ⟨some 45, .mv (.t 48), none, [0]⟩]
abbrev r44_17 : List AOper := [
  ⟨some 49, .mv (.t 7), none, []⟩,
  ⟨some 50, .mv (.t 0), none, []⟩,
  ⟨some 51, .mv (.t 8), none, []⟩,
  ⟨some 52, .bin .add (.t 51) (.c (.int .i64 1)), none, [2]⟩,
  ⟨some 53, .idxS (.t 50) (.t 52), none, [1, 3]⟩,
  ⟨some 54, .bslice 5 1 [.int .u8 0] [(0, 1, (.t 53))], none, [4]⟩,
  ⟨some 55, .app 5 1 1 (.t 49) (.t 54), none, [0, 5]⟩,
  ⟨some 7, .mv (.t 55), none, [6, 6, 0, 1, 2, 3, 4, 5, 6]⟩]
abbrev r44_18 : List AOper := [
  ⟨some 57, .bin .eql (.t 44) (.c (.int .u8 110)), none, []⟩,
  ⟨some 56, .mv (.t 57), none, [0]⟩]
abbrev r44_19 : List AOper := [
  ⟨some 58, .mv (.t 7), none, []⟩,
  ⟨some 59, .bslice 5 1 [.int .u8 0] [(0, 1, (.c (.int .u8 10)))], none, []⟩,
  ⟨some 60, .app 5 1 1 (.t 58) (.t 59), none, [0, 1]⟩,
  ⟨some 7, .mv (.t 60), none, [2, 2, 0, 1, 2]⟩]
abbrev r44_20 : List AOper := [
  ⟨some 62, .bin .eql (.t 44) (.c (.int .u8 116)), none, []⟩,
  ⟨some 61, .mv (.t 62), none, [0]⟩]
abbrev r44_21 : List AOper := [
  ⟨some 63, .mv (.t 7), none, []⟩,
  ⟨some 64, .bslice 5 1 [.int .u8 0] [(0, 1, (.c (.int .u8 9)))], none, []⟩,
  ⟨some 65, .app 5 1 1 (.t 63) (.t 64), none, [0, 1]⟩,
  ⟨some 7, .mv (.t 65), none, [2, 2, 0, 1, 2]⟩]
abbrev r44_22 : List AOper := [
  ⟨some 67, .bin .eql (.t 44) (.c (.int .u8 120)), none, []⟩,
  ⟨some 66, .mv (.t 67), none, [0]⟩]
abbrev r44_23 : List AOper := [
  ⟨some 68, .mv (.t 8), none, []⟩,
  ⟨some 69, .bin .add (.t 68) (.c (.int .i64 3)), none, [0]⟩,
  ⟨some 70, .mv (.t 0), none, []⟩,
  ⟨some 71, .len 0 (.t 70), none, [2]⟩,
  ⟨some 72, .bin .geq (.t 69) (.t 71), none, [1, 3]⟩,
  ⟨some 73, .mv (.t 72), none, [4]⟩,
  ⟨some 74, .mv (.t 0), some (73, false), [5]⟩,
  ⟨some 75, .mv (.t 8), some (73, false), [5]⟩,
  ⟨some 76, .bin .add (.t 75) (.c (.int .i64 2)), some (73, false), [7, 5]⟩,
  ⟨some 77, .idxS (.t 74) (.t 76), some (73, false), [6, 8, 5]⟩,
  ⟨some 78, .callF 59 [(.t 77)], some (73, false), [9, 5, 5]⟩,
  ⟨some 79, .bin .lss (.t 78) (.c (.int .i64 0)), some (73, false), [10, 5]⟩,
  ⟨some 80, .pick (.t 73) (.c (.bool true)) (.t 79), none, [5, 11]⟩,
  ⟨some 81, .mv (.t 80), none, [12, 10]⟩,
  ⟨some 82, .mv (.t 0), some (81, false), [13]⟩,
  ⟨some 83, .mv (.t 8), some (81, false), [13]⟩,
  ⟨some 84, .bin .add (.t 83) (.c (.int .i64 3)), some (81, false), [15, 13]⟩,
  ⟨some 85, .idxS (.t 82) (.t 84), some (81, false), [14, 16, 13]⟩,
  ⟨some 86, .callF 59 [(.t 85)], some (81, false), [17, 13, 13]⟩,
  ⟨some 87, .bin .lss (.t 86) (.c (.int .i64 0)), some (81, false), [18, 13]⟩,
  ⟨some 88, .pick (.t 81) (.c (.bool true)) (.t 87), none, [13, 19]⟩]
abbrev r44_24 : List AOper := [
  ⟨some 4, .mv (.c (.str ⟨#[]⟩)), none, []⟩,
  ⟨some 5, .mv (.c (.int .i64 0)), none, [0, 0]⟩,
  ⟨some 6, .mv (.c (.bool false)), none, [1, 0, 1]⟩]
abbrev r44_25 : List AOper := [
  ⟨some 89, .mv (.t 7), none, []⟩,
  ⟨some 90, .mv (.t 0), none, []⟩,
  ⟨some 91, .mv (.t 8), none, []⟩,
  ⟨some 92, .bin .add (.t 91) (.c (.int .i64 2)), none, [2]⟩,
  ⟨some 93, .idxS (.t 90) (.t 92), none, [1, 3]⟩,
  ⟨some 94, .callF 59 [(.t 93)], none, [4]⟩,
  ⟨some 95, .bin .mul (.c (.int .i64 16)) (.t 94), none, [5]⟩,
  ⟨some 96, .mv (.t 0), none, []⟩,
  ⟨some 97, .mv (.t 8), none, []⟩,
  ⟨some 98, .bin .add (.t 97) (.c (.int .i64 3)), none, [8]⟩,
  ⟨some 99, .idxS (.t 96) (.t 98), none, [7, 9]⟩,
  ⟨some 100, .callF 59 [(.t 99)], none, [10, 5]⟩,
  ⟨some 101, .bin .add (.t 95) (.t 100), none, [6, 11]⟩,
  ⟨some 102, .conv (.toInt .u8) (.t 101), none, [12]⟩,
  ⟨some 103, .bslice 5 1 [.int .u8 0] [(0, 1, (.t 102))], none, [13]⟩,
  ⟨some 104, .app 5 1 1 (.t 89) (.t 103), none, [0, 14, 11]⟩,
  ⟨some 7, .mv (.t 104), none, [15, 15, 0, 1, 2, 3, 4, 5, 6, 7, 8, 9, 10, 11, 12, 13, 14, 15]⟩]
abbrev r44_26 : List AOper := [
  ⟨some 105, .mv (.t 8), none, []⟩,
  ⟨some 106, .bin .add (.t 105) (.c (.int .i64 2)), none, [0]⟩,
  ⟨some 8, .mv (.t 106), none, [1, 0, 1]⟩]
abbrev r44_13 : List AOper := [
  ⟨some 4, .mv (.c (.str ⟨#[]⟩)), none, []⟩,
  ⟨some 5, .mv (.c (.int .i64 0)), none, [0, 0]⟩,
  ⟨some 6, .mv (.c (.bool false)), none, [1, 0, 1]⟩]
abbrev r44_27 : List AOper := [
  ⟨some 107, .mv (.t 8), none, []⟩,
  ⟨some 108, .bin .add (.t 107) (.c (.int .i64 2)), none, [0]⟩,
  ⟨some 8, .mv (.t 108), none, [1, 0, 1]⟩]
def l44_0 : ACode :=
  .seq (
  .seq (
  .region false r44_3 [0, 1, 7, 8, 15]) (
  .cond (.t 15) (
    .skip) (
    .exit 0))) (
  .block 1 (
    .seq (
    .region false r44_4 [0, 1, 7, 8, 9]) (
    .seq (
    .seq (
    .region false r44_5 [0, 1, 7, 8, 9, 23]) (
    .cond (.t 23) (
      .seq (
      .region false r44_6 [4, 5, 6]) (
      .ret)) (
      .skip))) (
    .seq (
    .seq (
    .region false r44_7 [0, 1, 7, 8, 9, 29]) (
    .cond (.t 29) (
      .seq (
      .region false r44_8 [0, 1, 7, 8]) (
      .seq (
      .region false r44_9 [0, 1, 7, 8]) (
      .exit 1))) (
      .skip))) (
    .seq (
    .seq (
    .region false r44_10 [0, 1, 7, 8, 40]) (
    .cond (.t 40) (
      .seq (
      .region false r44_11 [4, 5, 6]) (
      .ret)) (
      .skip))) (
    .seq (
    .seq (
    .region false r44_12 [0, 1, 7, 8, 44]) (
    .block 2 (
      .seq (
      .seq (
      .region false r44_14 [0, 1, 7, 8, 44, 45]) (
      .cond (.t 45) (
        .skip) (
        .seq (
        .region false r44_15 [0, 1, 7, 8, 44, 45]) (
        .cond (.t 45) (
          .skip) (
          .region false r44_16 [0, 1, 7, 8, 44, 45]))))) (
      .cond (.t 45) (
        .region false r44_17 [0, 1, 7, 8]) (
        .seq (
        .region false r44_18 [0, 1, 7, 8, 44, 56]) (
        .cond (.t 56) (
          .region false r44_19 [0, 1, 7, 8]) (
          .seq (
          .region false r44_20 [0, 1, 7, 8, 44, 61]) (
          .cond (.t 61) (
            .region false r44_21 [0, 1, 7, 8]) (
            .seq (
            .region false r44_22 [0, 1, 7, 8, 66]) (
            .cond (.t 66) (
              .seq (
              .seq (
              .region false r44_23 [0, 1, 7, 8, 88]) (
              .cond (.t 88) (
                .seq (
                .region false r44_24 [4, 5, 6]) (
                .ret)) (
                .skip))) (
              .seq (
              .region true r44_25 [0, 1, 7, 8]) (
              .region false r44_26 [0, 1, 7, 8]))) (
              .seq (
              .region false r44_13 [4, 5, 6]) (
              .ret)))))))))))) (
    .region false r44_27 [0, 1, 7, 8])))))))
abbrev r44_28 : List AOper := [
  ⟨some 4, .mv (.c (.str ⟨#[]⟩)), none, []⟩,
  ⟨some 5, .mv (.c (.int .i64 0)), none, [0, 0]⟩,
  ⟨some 6, .mv (.c (.bool false)), none, [1, 0, 1]⟩]
def m44_25 : List Nat := [0, 0, 0, 4, 14, 30, 62, 0, 0, 256, 896, 1982, 4094, 8190, 16382, 32767, 65535]
theorem d44_25 : okDraw r44_25 m44_25 = true := by kernel_rfl
def k44 : List (List Nat) := [[0, 1], [0, 1, 7], [0, 1, 7, 8], [0, 1, 7, 8, 15], [0, 1, 7, 8, 9], [0, 1, 7, 8, 9, 23], [4, 5, 6], [0, 1, 7, 8, 9, 29], [0, 1, 7, 8], [0, 1, 7, 8], [0, 1, 7, 8, 40], [4, 5, 6], [0, 1, 7, 8, 44], [4, 5, 6], [0, 1, 7, 8, 44, 45], [0, 1, 7, 8, 44, 45], [0, 1, 7, 8, 44, 45], [0, 1, 7, 8], [0, 1, 7, 8, 44, 56], [0, 1, 7, 8], [0, 1, 7, 8, 44, 61], [0, 1, 7, 8], [0, 1, 7, 8, 66], [0, 1, 7, 8, 88], [4, 5, 6], [0, 1, 7, 8], [0, 1, 7, 8], [0, 1, 7, 8], [4, 5, 6]]
def f44 : AFunc := { ntmps := 109, results := [.tmp 4, .tmp 5, .tmp 6], body := (
  .seq (
  .region false r44_0 [0, 1]) (
  .seq (
  .region false r44_1 [0, 1, 7]) (
  .seq (
  .region false r44_2 [0, 1, 7, 8]) (
  .seq (
  .block 0 (
    .loop l44_0)) (
  .seq (
  .region false r44_28 [4, 5, 6]) (
  .ret)))))) }
theorem c44 : cfunc Tryd.prog (kof k44) Tryd.f44 = some f44 := by kernel_rfl

/-- exitwave/exitwaveref5.sign -/
abbrev r45_0 : List AOper := [
  ⟨some 4, .mv (.c (.str ⟨#[]⟩)), none, []⟩]
abbrev r45_1 : List AOper := [
  ⟨some 7, .bslice 9 27 [.str ⟨#[]⟩, .str ⟨#[]⟩, .str ⟨#[]⟩, .str ⟨#[]⟩, .str ⟨#[]⟩, .str ⟨#[]⟩, .str ⟨#[]⟩, .str ⟨#[]⟩, .str ⟨#[]⟩, .str ⟨#[]⟩, .str ⟨#[]⟩, .str ⟨#[]⟩, .str ⟨#[]⟩, .str ⟨#[]⟩, .str ⟨#[]⟩, .str ⟨#[]⟩, .str ⟨#[]⟩, .str ⟨#[]⟩, .str ⟨#[]⟩, .str ⟨#[]⟩, .str ⟨#[]⟩, .str ⟨#[]⟩, .str ⟨#[]⟩, .str ⟨#[]⟩, .str ⟨#[]⟩, .str ⟨#[]⟩, .str ⟨#[]⟩] [(0, 1, (.c (.str ⟨#[61, 58, 61]⟩))), (1, 1, (.c (.str ⟨#[61, 47, 61]⟩))), (2, 1, (.c (.str ⟨#[45, 62]⟩))), (3, 1, (.c (.str ⟨#[61, 61]⟩))), (4, 1, (.c (.str ⟨#[47, 61]⟩))), (5, 1, (.c (.str ⟨#[61, 60]⟩))), (6, 1, (.c (.str ⟨#[62, 61]⟩))), (7, 1, (.c (.str ⟨#[43, 43]⟩))), (8, 1, (.c (.str ⟨#[40]⟩))), (9, 1, (.c (.str ⟨#[41]⟩))), (10, 1, (.c (.str ⟨#[123]⟩))), (11, 1, (.c (.str ⟨#[125]⟩))), (12, 1, (.c (.str ⟨#[91]⟩))), (13, 1, (.c (.str ⟨#[93]⟩))), (14, 1, (.c (.str ⟨#[44]⟩))), (15, 1, (.c (.str ⟨#[59]⟩))), (16, 1, (.c (.str ⟨#[46]⟩))), (17, 1, (.c (.str ⟨#[124]⟩))), (18, 1, (.c (.str ⟨#[61]⟩))), (19, 1, (.c (.str ⟨#[60]⟩))), (20, 1, (.c (.str ⟨#[62]⟩))), (21, 1, (.c (.str ⟨#[43]⟩))), (22, 1, (.c (.str ⟨#[45]⟩))), (23, 1, (.c (.str ⟨#[42]⟩))), (24, 1, (.c (.str ⟨#[47]⟩))), (25, 1, (.c (.str ⟨#[33]⟩))), (26, 1, (.c (.str ⟨#[58]⟩)))], none, []⟩,
  ⟨some 5, .mv (.t 7), none, [0, 0]⟩]
abbrev r45_2 : List AOper := [
  ⟨some 6, .mv (.c (.int .i64 0)), none, []⟩]
abbrev r45_3 : List AOper := [
  ⟨some 8, .mv (.t 6), none, []⟩,
  ⟨some 9, .mv (.t 5), none, []⟩,
  ⟨some 10, .len 1 (.t 9), none, [1]⟩,
  ⟨some 11, .bin .lss (.t 8) (.t 10), none, [0, 2]⟩]
abbrev r45_5 : List AOper := [
  ⟨some 14, .mv (.t 1), none, []⟩,
  ⟨some 15, .mv (.t 5), none, []⟩,
  ⟨some 16, .mv (.t 6), none, []⟩,
  ⟨some 17, .iaddr 1 (.t 15) (.t 16), none, [1, 2]⟩,
  ⟨some 18, .load none (.t 17), none, [3]⟩,
  ⟨some 19, .len 0 (.t 18), none, [4]⟩,
  ⟨some 20, .bin .add (.t 14) (.t 19), none, [0, 5]⟩,
  ⟨some 21, .mv (.t 0), none, []⟩,
  ⟨some 22, .len 0 (.t 21), none, [7]⟩,
  ⟨some 23, .bin .leq (.t 20) (.t 22), none, [6, 8]⟩,
  ⟨some 24, .mv (.t 23), none, [9]⟩,
  ⟨some 25, .mv (.t 0), some (24, true), [10]⟩,
  ⟨some 26, .mv (.t 1), some (24, true), [10]⟩,
  ⟨some 27, .mv (.t 1), some (24, true), [10]⟩,
  ⟨some 28, .mv (.t 5), some (24, true), [10]⟩,
  ⟨some 29, .mv (.t 6), some (24, true), [10]⟩,
  ⟨some 30, .iaddr 1 (.t 28) (.t 29), some (24, true), [14, 15, 10]⟩,
  ⟨some 31, .load none (.t 30), some (24, true), [16, 10]⟩,
  ⟨some 32, .len 0 (.t 31), some (24, true), [17, 10]⟩,
  ⟨some 33, .bin .add (.t 27) (.t 32), some (24, true), [13, 18, 10]⟩,
  ⟨some 34, .slcS (.t 25) (some (.t 26)) (some (.t 33)), some (24, true), [11, 12, 19, 10]⟩,
  ⟨some 35, .mv (.t 5), some (24, true), [10]⟩,
  ⟨some 36, .mv (.t 6), some (24, true), [10]⟩,
  ⟨some 37, .iaddr 1 (.t 35) (.t 36), some (24, true), [21, 22, 10]⟩,
  ⟨some 38, .load none (.t 37), some (24, true), [23, 10]⟩,
  ⟨some 39, .bin .eql (.t 34) (.t 38), some (24, true), [20, 24, 10]⟩,
  ⟨some 40, .pick (.t 24) (.t 39) (.c (.bool false)), none, [10, 25]⟩]
abbrev r45_6 : List AOper := [
  ⟨some 41, .mv (.t 5), none, []⟩,
  ⟨some 42, .mv (.t 6), none, []⟩,
  ⟨some 43, .iaddr 1 (.t 41) (.t 42), none, [0, 1]⟩,
  ⟨some 44, .load none (.t 43), none, [2]⟩,
  ⟨some 4, .mv (.t 44), none, [3, 0, 1, 2, 3]⟩]
abbrev r45_4 : List AOper := [
  ⟨some 12, .mv (.t 6), none, []⟩,
  ⟨some 13, .bin .add (.t 12) (.c (.int .i64 1)), none, [0]⟩,
  ⟨some 6, .mv (.t 13), none, [1, 0, 1]⟩]
def l45_0 : ACode :=
  .seq (
  .seq (
  .region false r45_3 [0, 1, 5, 6, 11]) (
  .cond (.t 11) (
    .skip) (
    .exit 0))) (
  .seq (
  .block 1 (
    .seq (
    .region true r45_5 [0, 1, 5, 6, 40]) (
    .cond (.t 40) (
      .seq (
      .region false r45_6 [4]) (
      .ret)) (
      .skip)))) (
  .region false r45_4 [0, 1, 5, 6]))
abbrev r45_7 : List AOper := [
  ⟨some 4, .mv (.c (.str ⟨#[]⟩)), none, []⟩]
def m45_5 : List Nat := [0, 0, 0, 6, 14, 30, 63, 0, 128, 511, 1023, 2047, 2047, 2047, 2047, 2047, 51199, 116735, 247807, 518143, 1048575, 2047, 2047, 6293503, 14682111, 33554431, 67108863]
theorem d45_5 : okDraw r45_5 m45_5 = true := by kernel_rfl
def k45 : List (List Nat) := [[0, 1], [0, 1, 5], [0, 1, 5, 6], [0, 1, 5, 6, 11], [0, 1, 5, 6], [0, 1, 5, 6, 40], [4], [4]]
def f45 : AFunc := { ntmps := 45, results := [.tmp 4], body := (
  .seq (
  .region false r45_0 [0, 1]) (
  .seq (
  .region false r45_1 [0, 1, 5]) (
  .seq (
  .seq (
  .region false r45_2 [0, 1, 5, 6]) (
  .block 0 (
    .loop l45_0))) (
  .seq (
  .region false r45_7 [4]) (
  .ret))))) }
theorem c45 : cfunc Tryd.prog (kof k45) Tryd.f45 = some f45 := by kernel_rfl


end Go.Am.Rl
