/- The functions, in the abstract machine's form (written by gen.py). -/
import Derived.Test.YtcmaphhbecjbjaaGreatDoorFnK
import Derived.Test.YtcmaphhbecjbjaaGreatDoorProg
set_option linter.unusedVariables false
namespace Go.Am.Rl
open Go.Proofs
set_option maxRecDepth 20000

/-- exitwave/exitwavelaw2.Twin -/
abbrev r9_0 : List AOper := [
  ⟨some 2, .box 25 (.t 0), none, []⟩,
  ⟨some 3, .box 25 (.t 1), none, []⟩,
  ⟨some 4, .mv (.c (.bool false)), none, []⟩]
abbrev r9_1 : List AOper := [
  ⟨some 6, .faddr 0 (.t 2), none, []⟩,
  ⟨some 7, .load none (.t 6), none, [0]⟩,
  ⟨some 8, .faddr 0 (.t 3), none, []⟩,
  ⟨some 9, .load none (.t 8), none, [2]⟩,
  ⟨some 10, .bin .neq (.t 7) (.t 9), none, [1, 3]⟩,
  ⟨some 11, .mv (.t 10), none, [4]⟩,
  ⟨some 12, .faddr 1 (.t 2), some (11, false), [5]⟩,
  ⟨some 13, .load none (.t 12), some (11, false), [6, 5]⟩,
  ⟨some 14, .faddr 1 (.t 3), some (11, false), [5]⟩,
  ⟨some 15, .load none (.t 14), some (11, false), [8, 5]⟩,
  ⟨some 16, .bin .neq (.t 13) (.t 15), some (11, false), [7, 9, 5]⟩,
  ⟨some 17, .pick (.t 11) (.c (.bool true)) (.t 16), none, [5, 10]⟩,
  ⟨some 18, .mv (.t 17), none, [11, 5]⟩,
  ⟨some 19, .faddr 3 (.t 2), some (18, false), [12]⟩,
  ⟨some 20, .load none (.t 19), some (18, false), [13, 12]⟩,
  ⟨some 21, .faddr 3 (.t 3), some (18, false), [12]⟩,
  ⟨some 22, .load none (.t 21), some (18, false), [15, 12]⟩,
  ⟨some 23, .bin .neq (.t 20) (.t 22), some (18, false), [14, 16, 12]⟩,
  ⟨some 24, .pick (.t 18) (.c (.bool true)) (.t 23), none, [12, 17]⟩,
  ⟨some 25, .mv (.t 24), none, [18, 12]⟩,
  ⟨some 26, .faddr 2 (.t 2), some (25, false), [19]⟩,
  ⟨some 27, .load none (.t 26), some (25, false), [20, 19]⟩,
  ⟨some 28, .ext 0 [(.t 27)], some (25, false), [21, 19, 19]⟩,
  ⟨some 29, .faddr 2 (.t 3), some (25, false), [19]⟩,
  ⟨some 30, .load none (.t 29), some (25, false), [23, 19]⟩,
  ⟨some 31, .ext 0 [(.t 30)], some (25, false), [24, 22, 19]⟩,
  ⟨some 32, .bin .neq (.t 28) (.t 31), some (25, false), [22, 25, 19]⟩,
  ⟨some 33, .pick (.t 25) (.c (.bool true)) (.t 32), none, [19, 26]⟩,
  ⟨some 34, .mv (.t 33), none, [27, 25]⟩,
  ⟨some 35, .faddr 4 (.t 2), some (34, false), [28]⟩,
  ⟨some 36, .load none (.t 35), some (34, false), [29, 28]⟩,
  ⟨some 37, .len 1 (.t 36), some (34, false), [30, 28]⟩,
  ⟨some 38, .faddr 4 (.t 3), some (34, false), [28]⟩,
  ⟨some 39, .load none (.t 38), some (34, false), [32, 28]⟩,
  ⟨some 40, .len 1 (.t 39), some (34, false), [33, 28]⟩,
  ⟨some 41, .bin .neq (.t 37) (.t 40), some (34, false), [31, 34, 28]⟩,
  ⟨some 42, .pick (.t 34) (.c (.bool true)) (.t 41), none, [28, 35]⟩]
abbrev r9_2 : List AOper := [
  ⟨some 4, .mv (.c (.bool false)), none, []⟩]
abbrev r9_3 : List AOper := [
  ⟨some 5, .mv (.c (.int .i64 0)), none, []⟩]
abbrev r9_4 : List AOper := [
  ⟨some 43, .mv (.t 5), none, []⟩,
  ⟨some 44, .faddr 4 (.t 2), none, []⟩,
  ⟨some 45, .load none (.t 44), none, [1]⟩,
  ⟨some 46, .len 1 (.t 45), none, [2]⟩,
  ⟨some 47, .bin .lss (.t 43) (.t 46), none, [0, 3]⟩]
abbrev r9_6 : List AOper := [
  ⟨some 50, .faddr 4 (.t 2), none, []⟩,
  ⟨some 51, .load none (.t 50), none, [0]⟩,
  ⟨some 52, .mv (.t 5), none, []⟩,
  ⟨some 53, .iaddr 5 (.t 51) (.t 52), none, [1, 2]⟩,
  ⟨some 54, .load (some 5) (.t 53), none, [3]⟩,
  ⟨some 55, .faddr 4 (.t 3), none, []⟩,
  ⟨some 56, .load none (.t 55), none, [5]⟩,
  ⟨some 57, .mv (.t 5), none, []⟩,
  ⟨some 58, .iaddr 5 (.t 56) (.t 57), none, [6, 7]⟩,
  ⟨some 59, .load (some 5) (.t 58), none, [8]⟩,
  ⟨some 60, .callF 9 [(.t 54), (.t 59)], none, [4, 9]⟩,
  ⟨some 61, .un .not (.t 60), none, [10]⟩]
abbrev r9_7 : List AOper := [
  ⟨some 4, .mv (.c (.bool false)), none, []⟩]
abbrev r9_5 : List AOper := [
  ⟨some 48, .mv (.t 5), none, []⟩,
  ⟨some 49, .bin .add (.t 48) (.c (.int .i64 1)), none, [0]⟩,
  ⟨some 5, .mv (.t 49), none, [1, 0, 1]⟩]
def l9_0 : ACode :=
  .seq (
  .seq (
  .region false r9_4 [2, 3, 5, 47]) (
  .cond (.t 47) (
    .skip) (
    .exit 0))) (
  .seq (
  .block 1 (
    .seq (
    .region true r9_6 [2, 3, 5, 61]) (
    .cond (.t 61) (
      .seq (
      .region false r9_7 [4]) (
      .ret)) (
      .skip)))) (
  .region false r9_5 [2, 3, 5]))
abbrev r9_8 : List AOper := [
  ⟨some 4, .mv (.c (.bool true)), none, []⟩]
def m9_1 : List Nat := [0, 1, 0, 4, 15, 31, 63, 127, 63, 319, 1023, 2047, 4095, 8191, 16383, 8191, 40959, 131071, 262143, 524287, 1048575, 2097151, 4194303, 1048575, 9437183, 33554431, 67108863, 134217727, 268435455, 536870911, 1073741823, 2147483647, 536870911, 4831838207, 13421772799, 34359738367, 68719476735]
theorem d9_1 : okDraw r9_1 m9_1 = true := by kernel_rfl
def m9_6 : List Nat := [0, 1, 0, 7, 15, 0, 32, 0, 224, 480, 1023, 2047]
theorem d9_6 : okDraw r9_6 m9_6 = true := by kernel_rfl
def k9 : List (List Nat) := [[2, 3], [2, 3, 42], [4], [2, 3, 5], [2, 3, 5, 47], [2, 3, 5], [2, 3, 5, 61], [4], [4]]
def f9 : AFunc := { ntmps := 62, results := [.tmp 4], body := (
  .seq (
  .region false r9_0 [2, 3]) (
  .seq (
  .seq (
  .region true r9_1 [2, 3, 42]) (
  .cond (.t 42) (
    .seq (
    .region false r9_2 [4]) (
    .ret)) (
    .skip))) (
  .seq (
  .seq (
  .region false r9_3 [2, 3, 5]) (
  .block 0 (
    .loop l9_0))) (
  .seq (
  .region false r9_8 [4]) (
  .ret))))) }
theorem c9 : cfunc Tryz.prog (kof k9) Tryz.f9 = some f9 := by kernel_rfl

/-- exitwave/bif.right -/
abbrev r44_0 : List AOper := [
  ⟨some 2, .box 25 (.t 0), none, []⟩,
  ⟨some 4, .alloc 25 (.agg [.int .i64 0, .int .i64 0, .flt .f64 0, .str ⟨#[]⟩, .nils]), none, []⟩]
abbrev r44_1 : List AOper := [
  ⟨some 5, .mv (.t 1), none, []⟩,
  ⟨some 6, .bin .neq (.t 5) (.c (.int .i64 0)), none, [0]⟩]
abbrev r44_2 : List AOper := [
  ⟨some 7, .mv (.t 1), none, []⟩,
  ⟨some 8, .mkifc 31 (.t 7), none, [0]⟩,
  ⟨none, .pan (.t 8), none, [1]⟩]
abbrev r44_3 : List AOper := [
  ⟨some 9, .load (some 5) (.t 2), none, []⟩,
  ⟨none, .store 5 (.t 4) (.t 9), none, [0, 0]⟩]
def k44 : List (List Nat) := [[1, 2, 4], [1, 2, 4, 6], [2, 4], [4]]
def f44 : AFunc := { ntmps := 10, results := [.cell 4 (some 5)], body := (
  .seq (
  .region false r44_0 [1, 2, 4]) (
  .seq (
  .seq (
  .region false r44_1 [1, 2, 4, 6]) (
  .cond (.t 6) (
    .region false r44_2 [2, 4]) (
    .skip))) (
  .seq (
  .region false r44_3 [4]) (
  .ret)))) }
theorem c44 : cfunc Tryz.prog (kof k44) Tryz.f44 = some f44 := by kernel_rfl


end Go.Am.Rl
