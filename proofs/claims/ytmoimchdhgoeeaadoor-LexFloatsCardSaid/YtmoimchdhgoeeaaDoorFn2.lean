/- The functions, in the abstract machine's form (written by gen.py). -/
import Derived.Test.YtmoimchdhgoeeaaDoorFn
import Derived.Test.YtmoimchdhgoeeaaDoorProg
set_option linter.unusedVariables false
namespace Go.Am.Rl
open Go.Proofs
set_option maxRecDepth 20000

/-- exitwave/exitwaveref2.measure -/
abbrev r46_0 : List AOper := [
  ⟨some 3, .box 44 (.t 0), none, []⟩,
  ⟨some 6, .mv (.c (.int .i64 0)), none, []⟩]
abbrev r46_1 : List AOper := [
  ⟨some 10, .mv (.t 1), none, []⟩,
  ⟨some 11, .bin .lss (.t 10) (.c (.int .i64 1)), none, [0]⟩,
  ⟨some 12, .mv (.t 11), none, [1]⟩,
  ⟨some 13, .load (some 5) (.t 3), some (12, false), [2]⟩,
  ⟨some 14, .callF 61 [(.t 13)], some (12, false), [3, 2, 2]⟩,
  ⟨some 15, .mv (.t 2), some (12, false), [2]⟩,
  ⟨some 16, .bin .gtr (.t 14) (.t 15), some (12, false), [4, 5, 2]⟩,
  ⟨some 17, .pick (.t 12) (.c (.bool true)) (.t 16), none, [2, 6]⟩]
abbrev r46_2 : List AOper := [
  ⟨some 6, .mv (.c (.int .i64 (-1))), none, []⟩]
abbrev r46_3 : List AOper := [
  ⟨some 18, .load (some 5) (.t 3), none, []⟩,
  ⟨some 19, .callF 61 [(.t 18)], none, [0]⟩,
  ⟨some 7, .mv (.t 19), none, [1, 1, 0, 1]⟩]
abbrev r46_4 : List AOper := [
  ⟨some 8, .mv (.c (.int .i64 0)), none, []⟩]
abbrev r46_5 : List AOper := [
  ⟨some 20, .mv (.t 8), none, []⟩,
  ⟨some 21, .faddr 4 (.t 3), none, []⟩,
  ⟨some 22, .load none (.t 21), none, [1]⟩,
  ⟨some 23, .len 1 (.t 22), none, [2]⟩,
  ⟨some 24, .bin .lss (.t 20) (.t 23), none, [0, 3]⟩]
abbrev r46_7 : List AOper := [
  ⟨some 27, .faddr 4 (.t 3), none, []⟩,
  ⟨some 28, .load none (.t 27), none, [0]⟩,
  ⟨some 29, .mv (.t 8), none, []⟩,
  ⟨some 30, .iaddr 5 (.t 28) (.t 29), none, [1, 2]⟩,
  ⟨some 31, .load (some 5) (.t 30), none, [3]⟩,
  ⟨some 32, .mv (.t 1), none, []⟩,
  ⟨some 33, .bin .sub (.t 32) (.c (.int .i64 1)), none, [5]⟩,
  ⟨some 34, .mv (.t 2), none, []⟩,
  ⟨some 35, .mv (.t 7), none, []⟩,
  ⟨some 36, .bin .sub (.t 34) (.t 35), none, [7, 8]⟩,
  ⟨some 37, .callF 46 [(.t 31), (.t 33), (.t 36)], none, [4, 6, 9]⟩,
  ⟨some 9, .mv (.t 37), none, [10, 10, 0, 1, 2, 3, 4, 5, 6, 7, 8, 9, 10]⟩]
abbrev r46_8 : List AOper := [
  ⟨some 38, .mv (.t 9), none, []⟩,
  ⟨some 39, .bin .lss (.t 38) (.c (.int .i64 0)), none, [0]⟩]
abbrev r46_9 : List AOper := [
  ⟨some 6, .mv (.c (.int .i64 (-1))), none, []⟩]
abbrev r46_10 : List AOper := [
  ⟨some 40, .mv (.t 7), none, []⟩,
  ⟨some 41, .mv (.t 9), none, []⟩,
  ⟨some 42, .bin .add (.t 40) (.t 41), none, [0, 1]⟩,
  ⟨some 7, .mv (.t 42), none, [2, 0, 1, 2]⟩]
abbrev r46_6 : List AOper := [
  ⟨some 25, .mv (.t 8), none, []⟩,
  ⟨some 26, .bin .add (.t 25) (.c (.int .i64 1)), none, [0]⟩,
  ⟨some 8, .mv (.t 26), none, [1, 0, 1]⟩]
def l46_0 : ACode :=
  .seq (
  .seq (
  .region false r46_5 [1, 2, 3, 7, 8, 24]) (
  .cond (.t 24) (
    .skip) (
    .exit 0))) (
  .seq (
  .block 1 (
    .seq (
    .region false r46_7 [1, 2, 3, 7, 8, 9]) (
    .seq (
    .seq (
    .region false r46_8 [1, 2, 3, 7, 8, 9, 39]) (
    .cond (.t 39) (
      .seq (
      .region false r46_9 [6]) (
      .ret)) (
      .skip))) (
    .region false r46_10 [1, 2, 3, 7, 8])))) (
  .region false r46_6 [1, 2, 3, 7, 8]))
abbrev r46_11 : List AOper := [
  ⟨some 43, .mv (.t 7), none, []⟩,
  ⟨some 6, .mv (.t 43), none, [0, 0]⟩]
def k46 : List (List Nat) := [[1, 2, 3], [1, 2, 3, 17], [6], [1, 2, 3, 7], [1, 2, 3, 7, 8], [1, 2, 3, 7, 8, 24], [1, 2, 3, 7, 8], [1, 2, 3, 7, 8, 9], [1, 2, 3, 7, 8, 9, 39], [6], [1, 2, 3, 7, 8], [6]]
def f46 : AFunc := { ntmps := 44, results := [.tmp 6], body := (
  .seq (
  .region false r46_0 [1, 2, 3]) (
  .seq (
  .seq (
  .region false r46_1 [1, 2, 3, 17]) (
  .cond (.t 17) (
    .seq (
    .region false r46_2 [6]) (
    .ret)) (
    .skip))) (
  .seq (
  .region false r46_3 [1, 2, 3, 7]) (
  .seq (
  .seq (
  .region false r46_4 [1, 2, 3, 7, 8]) (
  .block 0 (
    .loop l46_0))) (
  .seq (
  .region false r46_11 [6]) (
  .ret)))))) }
theorem c46 : cfunc Tryd.prog (kof k46) Tryd.f46 = some f46 := by kernel_rfl

/-- exitwave/exitwaveref2.all -/
abbrev r47_0 : List AOper := [
  ⟨some 1, .box 44 (.t 0), none, []⟩,
  ⟨some 2, .mv (.c (.bool false)), none, []⟩]
abbrev r47_1 : List AOper := [
  ⟨some 4, .load (some 5) (.t 1), none, []⟩,
  ⟨some 5, .callF 62 [(.t 4)], none, [0]⟩,
  ⟨some 6, .un .not (.t 5), none, [1]⟩]
abbrev r47_2 : List AOper := [
  ⟨some 2, .mv (.c (.bool false)), none, []⟩]
abbrev r47_3 : List AOper := [
  ⟨some 3, .mv (.c (.int .i64 0)), none, []⟩]
abbrev r47_4 : List AOper := [
  ⟨some 7, .mv (.t 3), none, []⟩,
  ⟨some 8, .faddr 4 (.t 1), none, []⟩,
  ⟨some 9, .load none (.t 8), none, [1]⟩,
  ⟨some 10, .len 1 (.t 9), none, [2]⟩,
  ⟨some 11, .bin .lss (.t 7) (.t 10), none, [0, 3]⟩]
abbrev r47_6 : List AOper := [
  ⟨some 14, .faddr 4 (.t 1), none, []⟩,
  ⟨some 15, .load none (.t 14), none, [0]⟩,
  ⟨some 16, .mv (.t 3), none, []⟩,
  ⟨some 17, .iaddr 5 (.t 15) (.t 16), none, [1, 2]⟩,
  ⟨some 18, .load (some 5) (.t 17), none, [3]⟩,
  ⟨some 19, .callF 47 [(.t 18)], none, [4]⟩,
  ⟨some 20, .un .not (.t 19), none, [5]⟩]
abbrev r47_7 : List AOper := [
  ⟨some 2, .mv (.c (.bool false)), none, []⟩]
abbrev r47_5 : List AOper := [
  ⟨some 12, .mv (.t 3), none, []⟩,
  ⟨some 13, .bin .add (.t 12) (.c (.int .i64 1)), none, [0]⟩,
  ⟨some 3, .mv (.t 13), none, [1, 0, 1]⟩]
def l47_0 : ACode :=
  .seq (
  .seq (
  .region false r47_4 [1, 3, 11]) (
  .cond (.t 11) (
    .skip) (
    .exit 0))) (
  .seq (
  .block 1 (
    .seq (
    .region false r47_6 [1, 3, 20]) (
    .cond (.t 20) (
      .seq (
      .region false r47_7 [2]) (
      .ret)) (
      .skip)))) (
  .region false r47_5 [1, 3]))
abbrev r47_8 : List AOper := [
  ⟨some 2, .mv (.c (.bool true)), none, []⟩]
def k47 : List (List Nat) := [[1], [1, 6], [2], [1, 3], [1, 3, 11], [1, 3], [1, 3, 20], [2], [2]]
def f47 : AFunc := { ntmps := 21, results := [.tmp 2], body := (
  .seq (
  .region false r47_0 [1]) (
  .seq (
  .seq (
  .region false r47_1 [1, 6]) (
  .cond (.t 6) (
    .seq (
    .region false r47_2 [2]) (
    .ret)) (
    .skip))) (
  .seq (
  .seq (
  .region false r47_3 [1, 3]) (
  .block 0 (
    .loop l47_0))) (
  .seq (
  .region false r47_8 [2]) (
  .ret))))) }
theorem c47 : cfunc Tryd.prog (kof k47) Tryd.f47 = some f47 := by kernel_rfl

/-- exitwave/exitwaveref1.Hex -/
abbrev r48_0 : List AOper := [
  ⟨some 2, .mv (.c (.str ⟨#[]⟩)), none, []⟩]
abbrev r48_1 : List AOper := [
  ⟨some 3, .mv (.c (.nils)), none, []⟩]
abbrev r48_2 : List AOper := [
  ⟨some 4, .mv (.c (.int .i64 0)), none, []⟩]
abbrev r48_3 : List AOper := [
  ⟨some 6, .mv (.t 4), none, []⟩,
  ⟨some 7, .bin .lss (.t 6) (.c (.int .i64 16)), none, [0]⟩]
abbrev r48_5 : List AOper := [
  ⟨some 10, .mv (.t 0), none, []⟩,
  ⟨some 11, .mv (.t 4), none, []⟩,
  ⟨some 12, .bin .mul (.c (.int .i64 4)) (.t 11), none, [1]⟩,
  ⟨some 13, .bin .sub (.c (.int .i64 60)) (.t 12), none, [2]⟩,
  ⟨some 14, .conv (.toInt .u64) (.t 13), none, [3]⟩,
  ⟨some 15, .bin .shr (.t 10) (.t 14), none, [0, 4]⟩,
  ⟨some 16, .bin .and (.t 15) (.c (.int .u64 15)), none, [5]⟩,
  ⟨some 17, .conv (.toInt .u8) (.t 16), none, [6]⟩,
  ⟨some 5, .mv (.t 17), none, [7, 0, 1, 2, 3, 4, 5, 6, 7]⟩]
abbrev r48_6 : List AOper := [
  ⟨some 18, .mv (.t 5), none, []⟩,
  ⟨some 19, .bin .lss (.t 18) (.c (.int .u8 10)), none, [0]⟩]
abbrev r48_7 : List AOper := [
  ⟨some 20, .mv (.t 3), none, []⟩,
  ⟨some 21, .mv (.t 5), none, []⟩,
  ⟨some 22, .bin .add (.c (.int .u8 48)) (.t 21), none, [1]⟩,
  ⟨some 23, .bslice 5 1 [.int .u8 0] [(0, 1, (.t 22))], none, [2]⟩,
  ⟨some 24, .app 5 1 1 (.t 20) (.t 23), none, [0, 3]⟩,
  ⟨some 3, .mv (.t 24), none, [4, 4, 0, 1, 2, 3, 4]⟩]
abbrev r48_8 : List AOper := [
  ⟨some 25, .mv (.t 3), none, []⟩,
  ⟨some 26, .mv (.t 5), none, []⟩,
  ⟨some 27, .bin .add (.c (.int .u8 97)) (.t 26), none, [1]⟩,
  ⟨some 28, .bin .sub (.t 27) (.c (.int .u8 10)), none, [2]⟩,
  ⟨some 29, .bslice 5 1 [.int .u8 0] [(0, 1, (.t 28))], none, [3]⟩,
  ⟨some 30, .app 5 1 1 (.t 25) (.t 29), none, [0, 4]⟩,
  ⟨some 3, .mv (.t 30), none, [5, 5, 0, 1, 2, 3, 4, 5]⟩]
abbrev r48_4 : List AOper := [
  ⟨some 8, .mv (.t 4), none, []⟩,
  ⟨some 9, .bin .add (.t 8) (.c (.int .i64 1)), none, [0]⟩,
  ⟨some 4, .mv (.t 9), none, [1, 0, 1]⟩]
def l48_0 : ACode :=
  .seq (
  .seq (
  .region false r48_3 [0, 3, 4, 7]) (
  .cond (.t 7) (
    .skip) (
    .exit 0))) (
  .seq (
  .block 1 (
    .seq (
    .region false r48_5 [0, 3, 4, 5]) (
    .seq (
    .region false r48_6 [0, 3, 4, 5, 19]) (
    .cond (.t 19) (
      .region false r48_7 [0, 3, 4]) (
      .region false r48_8 [0, 3, 4]))))) (
  .region false r48_4 [0, 3, 4]))
abbrev r48_9 : List AOper := [
  ⟨some 31, .mv (.t 3), none, []⟩,
  ⟨some 32, .conv .bytesStr (.t 31), none, [0]⟩,
  ⟨some 2, .mv (.t 32), none, [1, 0, 1]⟩]
def k48 : List (List Nat) := [[0], [0, 3], [0, 3, 4], [0, 3, 4, 7], [0, 3, 4], [0, 3, 4, 5], [0, 3, 4, 5, 19], [0, 3, 4], [0, 3, 4], [2]]
def f48 : AFunc := { ntmps := 33, results := [.tmp 2], body := (
  .seq (
  .region false r48_0 [0]) (
  .seq (
  .region false r48_1 [0, 3]) (
  .seq (
  .seq (
  .region false r48_2 [0, 3, 4]) (
  .block 0 (
    .loop l48_0))) (
  .seq (
  .region false r48_9 [2]) (
  .ret))))) }
theorem c48 : cfunc Tryd.prog (kof k48) Tryd.f48 = some f48 := by kernel_rfl

/-- exitwave/exitwaveref2.plain -/
abbrev r49_0 : List AOper := [
  ⟨some 2, .mv (.c (.bool false)), none, []⟩]
abbrev r49_1 : List AOper := [
  ⟨some 4, .mv (.t 0), none, []⟩,
  ⟨some 5, .bin .eql (.t 4) (.c (.str ⟨#[]⟩)), none, [0]⟩,
  ⟨some 6, .mv (.t 5), none, [1]⟩,
  ⟨some 7, .mv (.t 0), some (6, false), [2]⟩,
  ⟨some 8, .idxS (.t 7) (.c (.int .i64 0)), some (6, false), [3, 2]⟩,
  ⟨some 9, .bin .lss (.t 8) (.c (.int .u8 97)), some (6, false), [4, 2]⟩,
  ⟨some 10, .pick (.t 6) (.c (.bool true)) (.t 9), none, [2, 5]⟩,
  ⟨some 11, .mv (.t 10), none, [6, 2]⟩,
  ⟨some 12, .mv (.t 0), some (11, false), [7]⟩,
  ⟨some 13, .idxS (.t 12) (.c (.int .i64 0)), some (11, false), [8, 7]⟩,
  ⟨some 14, .bin .gtr (.t 13) (.c (.int .u8 122)), some (11, false), [9, 7]⟩,
  ⟨some 15, .pick (.t 11) (.c (.bool true)) (.t 14), none, [7, 10]⟩,
  ⟨some 16, .mv (.t 15), none, [11, 7]⟩,
  ⟨some 17, .mv (.t 0), some (16, false), [12]⟩,
  ⟨some 18, .callF 26 [(.t 17)], some (16, false), [13, 12, 12]⟩,
  ⟨some 19, .pick (.t 16) (.c (.bool true)) (.t 18), none, [12, 14]⟩]
abbrev r49_2 : List AOper := [
  ⟨some 2, .mv (.c (.bool false)), none, []⟩]
abbrev r49_3 : List AOper := [
  ⟨some 3, .mv (.c (.int .i64 0)), none, []⟩]
abbrev r49_4 : List AOper := [
  ⟨some 20, .mv (.t 3), none, []⟩,
  ⟨some 21, .mv (.t 0), none, []⟩,
  ⟨some 22, .len 0 (.t 21), none, [1]⟩,
  ⟨some 23, .bin .lss (.t 20) (.t 22), none, [0, 2]⟩]
abbrev r49_6 : List AOper := [
  ⟨some 26, .mv (.t 0), none, []⟩,
  ⟨some 27, .mv (.t 3), none, []⟩,
  ⟨some 28, .idxS (.t 26) (.t 27), none, [0, 1]⟩,
  ⟨some 29, .callF 57 [(.t 28)], none, [2]⟩,
  ⟨some 30, .un .not (.t 29), none, [3]⟩]
abbrev r49_7 : List AOper := [
  ⟨some 2, .mv (.c (.bool false)), none, []⟩]
abbrev r49_5 : List AOper := [
  ⟨some 24, .mv (.t 3), none, []⟩,
  ⟨some 25, .bin .add (.t 24) (.c (.int .i64 1)), none, [0]⟩,
  ⟨some 3, .mv (.t 25), none, [1, 0, 1]⟩]
def l49_0 : ACode :=
  .seq (
  .seq (
  .region false r49_4 [0, 3, 23]) (
  .cond (.t 23) (
    .skip) (
    .exit 0))) (
  .seq (
  .block 1 (
    .seq (
    .region false r49_6 [0, 3, 30]) (
    .cond (.t 30) (
      .seq (
      .region false r49_7 [2]) (
      .ret)) (
      .skip)))) (
  .region false r49_5 [0, 3]))
abbrev r49_8 : List AOper := [
  ⟨some 2, .mv (.c (.bool true)), none, []⟩]
def k49 : List (List Nat) := [[0], [0, 19], [2], [0, 3], [0, 3, 23], [0, 3], [0, 3, 30], [2], [2]]
def f49 : AFunc := { ntmps := 31, results := [.tmp 2], body := (
  .seq (
  .region false r49_0 [0]) (
  .seq (
  .seq (
  .region false r49_1 [0, 19]) (
  .cond (.t 19) (
    .seq (
    .region false r49_2 [2]) (
    .ret)) (
    .skip))) (
  .seq (
  .seq (
  .region false r49_3 [0, 3]) (
  .block 0 (
    .loop l49_0))) (
  .seq (
  .region false r49_8 [2]) (
  .ret))))) }
theorem c49 : cfunc Tryd.prog (kof k49) Tryd.f49 = some f49 := by kernel_rfl

/-- exitwave/exitwaveref2.hex -/
abbrev r50_0 : List AOper := [
  ⟨some 2, .mv (.c (.str ⟨#[]⟩)), none, []⟩]
abbrev r50_1 : List AOper := [
  ⟨some 3, .mv (.t 0), none, []⟩,
  ⟨some 4, .bin .lss (.t 3) (.c (.int .u8 10)), none, [0]⟩]
abbrev r50_2 : List AOper := [
  ⟨some 5, .mv (.t 0), none, []⟩,
  ⟨some 6, .bin .add (.c (.int .u8 48)) (.t 5), none, [0]⟩,
  ⟨some 7, .bslice 5 1 [.int .u8 0] [(0, 1, (.t 6))], none, [1]⟩,
  ⟨some 8, .conv .bytesStr (.t 7), none, [2]⟩,
  ⟨some 2, .mv (.t 8), none, [3, 0, 1, 2, 3]⟩]
abbrev r50_3 : List AOper := [
  ⟨some 9, .mv (.t 0), none, []⟩,
  ⟨some 10, .bin .add (.c (.int .u8 97)) (.t 9), none, [0]⟩,
  ⟨some 11, .bin .sub (.t 10) (.c (.int .u8 10)), none, [1]⟩,
  ⟨some 12, .bslice 5 1 [.int .u8 0] [(0, 1, (.t 11))], none, [2]⟩,
  ⟨some 13, .conv .bytesStr (.t 12), none, [3]⟩,
  ⟨some 2, .mv (.t 13), none, [4, 0, 1, 2, 3, 4]⟩]
def k50 : List (List Nat) := [[0], [0, 4], [2], [2]]
def f50 : AFunc := { ntmps := 14, results := [.tmp 2], body := (
  .seq (
  .region false r50_0 [0]) (
  .seq (
  .seq (
  .region false r50_1 [0, 4]) (
  .cond (.t 4) (
    .seq (
    .region false r50_2 [2]) (
    .ret)) (
    .skip))) (
  .seq (
  .region false r50_3 [2]) (
  .ret)))) }
theorem c50 : cfunc Tryd.prog (kof k50) Tryd.f50 = some f50 := by kernel_rfl

/-- exitwave/lex.hex -/
abbrev r52_0 : List AOper := [
  ⟨some 2, .mv (.c (.int .i64 0)), none, []⟩]
abbrev r52_1 : List AOper := [
  ⟨some 3, .mv (.t 0), none, []⟩,
  ⟨some 4, .callF 63 [(.c (.str ⟨#[48, 49, 50, 51, 52, 53, 54, 55, 56, 57, 97, 98, 99, 100, 101, 102]⟩)), (.t 3)], none, [0]⟩,
  ⟨some 2, .mv (.t 4), none, [1, 1, 0, 1]⟩]
def k52 : List (List Nat) := [[0], [2]]
def f52 : AFunc := { ntmps := 5, results := [.tmp 2], body := (
  .seq (
  .region false r52_0 [0]) (
  .seq (
  .region false r52_1 [2]) (
  .ret))) }
theorem c52 : cfunc Tryd.prog (kof k52) Tryd.f52 = some f52 := by kernel_rfl

/-- exitwave/num.Bits -/
abbrev r53_0 : List AOper := [
  ⟨some 2, .alloc 44 (.agg [.int .i64 0, .int .i64 0, .flt .f64 0, .str ⟨#[]⟩, .nils]), none, []⟩,
  ⟨some 3, .mv (.c (.int .i64 0)), none, []⟩]
abbrev r53_1 : List AOper := [
  ⟨some 4, .mv (.t 0), none, []⟩,
  ⟨some 5, .ext 1 [(.t 4)], none, [0]⟩,
  ⟨some 6, .callF 64 [(.t 5)], none, [1, 1]⟩,
  ⟨some 7, .extract (.t 6) 0, none, [2]⟩,
  ⟨some 8, .extract (.t 6) 1, none, [2]⟩,
  ⟨none, .store 5 (.t 2) (.t 7), none, [3, 2, 0, 1, 2, 3, 4]⟩,
  ⟨some 3, .mv (.t 8), none, [4, 5, 0, 1, 2, 3, 4, 5]⟩]
def k53 : List (List Nat) := [[0, 2], [2, 3]]
def f53 : AFunc := { ntmps := 9, results := [.cell 2 (some 5), .tmp 3], body := (
  .seq (
  .region false r53_0 [0, 2]) (
  .seq (
  .region false r53_1 [2, 3]) (
  .ret))) }
theorem c53 : cfunc Tryd.prog (kof k53) Tryd.f53 = some f53 := by kernel_rfl

/-- exitwave/lex.escaped -/
abbrev r54_0 : List AOper := [
  ⟨some 2, .mv (.c (.int .u8 0)), none, []⟩,
  ⟨some 3, .mv (.c (.int .i64 0)), none, [0]⟩]
abbrev r54_1 : List AOper := [
  ⟨some 5, .mv (.t 0), none, []⟩,
  ⟨some 6, .len 0 (.t 5), none, [0]⟩,
  ⟨some 7, .bin .lss (.t 6) (.c (.int .i64 2)), none, [1]⟩]
abbrev r54_2 : List AOper := [
  ⟨some 2, .mv (.c (.int .u8 0)), none, []⟩,
  ⟨some 3, .mv (.c (.int .i64 0)), none, [0, 0]⟩]
abbrev r54_3 : List AOper := [
  ⟨some 8, .mv (.t 0), none, []⟩,
  ⟨some 9, .idxS (.t 8) (.c (.int .i64 1)), none, [0]⟩,
  ⟨some 4, .mv (.t 9), none, [1, 0, 1]⟩]
abbrev r54_4 : List AOper := [
  ⟨some 10, .mv (.t 4), none, []⟩]
abbrev r54_5 : List AOper := [
  ⟨some 12, .bin .eql (.t 10) (.c (.int .u8 92)), none, []⟩,
  ⟨some 11, .mv (.t 12), none, [0]⟩]
abbrev r54_6 : List AOper := [
  ⟨some 13, .bin .eql (.t 10) (.c (.int .u8 39)), none, []⟩,
  ⟨some 11, .mv (.t 13), none, [0]⟩]
abbrev r54_7 : List AOper := [
  ⟨some 14, .bin .eql (.t 10) (.c (.int .u8 34)), none, []⟩,
  ⟨some 11, .mv (.t 14), none, [0]⟩]
abbrev r54_8 : List AOper := [
  ⟨some 15, .mv (.t 4), none, []⟩,
  ⟨some 2, .mv (.t 15), none, [0, 0]⟩,
  ⟨some 3, .mv (.c (.int .i64 2)), none, [1, 0, 1]⟩]
abbrev r54_9 : List AOper := [
  ⟨some 17, .bin .eql (.t 10) (.c (.int .u8 110)), none, []⟩,
  ⟨some 16, .mv (.t 17), none, [0]⟩]
abbrev r54_10 : List AOper := [
  ⟨some 2, .mv (.c (.int .u8 10)), none, []⟩,
  ⟨some 3, .mv (.c (.int .i64 2)), none, [0, 0]⟩]
abbrev r54_11 : List AOper := [
  ⟨some 19, .bin .eql (.t 10) (.c (.int .u8 116)), none, []⟩,
  ⟨some 18, .mv (.t 19), none, [0]⟩]
abbrev r54_12 : List AOper := [
  ⟨some 2, .mv (.c (.int .u8 9)), none, []⟩,
  ⟨some 3, .mv (.c (.int .i64 2)), none, [0, 0]⟩]
abbrev r54_13 : List AOper := [
  ⟨some 21, .bin .eql (.t 10) (.c (.int .u8 120)), none, []⟩,
  ⟨some 20, .mv (.t 21), none, [0]⟩]
abbrev r54_14 : List AOper := [
  ⟨some 22, .mv (.t 0), none, []⟩,
  ⟨some 23, .len 0 (.t 22), none, [0]⟩,
  ⟨some 24, .bin .gtr (.t 23) (.c (.int .i64 3)), none, [1]⟩,
  ⟨some 25, .mv (.t 24), none, [2]⟩,
  ⟨some 26, .mv (.t 0), some (25, true), [3]⟩,
  ⟨some 27, .idxS (.t 26) (.c (.int .i64 2)), some (25, true), [4, 3]⟩,
  ⟨some 28, .callF 52 [(.t 27)], some (25, true), [5, 3, 3]⟩,
  ⟨some 29, .bin .geq (.t 28) (.c (.int .i64 0)), some (25, true), [6, 3]⟩,
  ⟨some 30, .pick (.t 25) (.t 29) (.c (.bool false)), none, [3, 7]⟩,
  ⟨some 31, .mv (.t 30), none, [8, 6]⟩,
  ⟨some 32, .mv (.t 0), some (31, true), [9]⟩,
  ⟨some 33, .idxS (.t 32) (.c (.int .i64 3)), some (31, true), [10, 9]⟩,
  ⟨some 34, .callF 52 [(.t 33)], some (31, true), [11, 9, 9]⟩,
  ⟨some 35, .bin .geq (.t 34) (.c (.int .i64 0)), some (31, true), [12, 9]⟩,
  ⟨some 36, .pick (.t 31) (.t 35) (.c (.bool false)), none, [9, 13]⟩]
abbrev r54_15 : List AOper := [
  ⟨some 37, .mv (.t 0), none, []⟩,
  ⟨some 38, .idxS (.t 37) (.c (.int .i64 2)), none, [0]⟩,
  ⟨some 39, .callF 52 [(.t 38)], none, [1]⟩,
  ⟨some 40, .bin .mul (.c (.int .i64 16)) (.t 39), none, [2]⟩,
  ⟨some 41, .mv (.t 0), none, []⟩,
  ⟨some 42, .idxS (.t 41) (.c (.int .i64 3)), none, [4]⟩,
  ⟨some 43, .callF 52 [(.t 42)], none, [5, 2]⟩,
  ⟨some 44, .bin .add (.t 40) (.t 43), none, [3, 6]⟩,
  ⟨some 45, .conv (.toInt .u8) (.t 44), none, [7]⟩,
  ⟨some 2, .mv (.t 45), none, [8, 6, 0, 1, 2, 3, 4, 5, 6, 7, 8]⟩,
  ⟨some 3, .mv (.c (.int .i64 4)), none, [9, 0, 1, 2, 3, 4, 5, 6, 7, 8, 9]⟩]
abbrev r54_16 : List AOper := [
  ⟨some 2, .mv (.c (.int .u8 0)), none, []⟩,
  ⟨some 3, .mv (.c (.int .i64 0)), none, [0, 0]⟩]
def m54_15 : List Nat := [0, 1, 3, 7, 0, 16, 55, 127, 255, 511, 1023]
theorem d54_15 : okDraw r54_15 m54_15 = true := by kernel_rfl
def k54 : List (List Nat) := [[0], [0, 7], [2, 3], [0, 4], [0, 4, 10], [0, 4, 10, 11], [0, 4, 10, 11], [0, 4, 10, 11], [2, 3], [0, 10, 16], [2, 3], [0, 10, 18], [2, 3], [0, 20], [0, 36], [2, 3], [2, 3]]
def f54 : AFunc := { ntmps := 46, results := [.tmp 2, .tmp 3], body := (
  .seq (
  .region false r54_0 [0]) (
  .seq (
  .seq (
  .region false r54_1 [0, 7]) (
  .cond (.t 7) (
    .seq (
    .region false r54_2 [2, 3]) (
    .ret)) (
    .skip))) (
  .seq (
  .seq (
  .region false r54_3 [0, 4]) (
  .seq (
  .region false r54_4 [0, 4, 10]) (
  .block 0 (
    .seq (
    .seq (
    .region false r54_5 [0, 4, 10, 11]) (
    .cond (.t 11) (
      .skip) (
      .seq (
      .region false r54_6 [0, 4, 10, 11]) (
      .cond (.t 11) (
        .skip) (
        .region false r54_7 [0, 4, 10, 11]))))) (
    .cond (.t 11) (
      .seq (
      .region false r54_8 [2, 3]) (
      .ret)) (
      .seq (
      .region false r54_9 [0, 10, 16]) (
      .cond (.t 16) (
        .seq (
        .region false r54_10 [2, 3]) (
        .ret)) (
        .seq (
        .region false r54_11 [0, 10, 18]) (
        .cond (.t 18) (
          .seq (
          .region false r54_12 [2, 3]) (
          .ret)) (
          .seq (
          .region false r54_13 [0, 20]) (
          .cond (.t 20) (
            .seq (
            .region false r54_14 [0, 36]) (
            .cond (.t 36) (
              .seq (
              .region true r54_15 [2, 3]) (
              .ret)) (
              .skip))) (
            .skip)))))))))))) (
  .seq (
  .region false r54_16 [2, 3]) (
  .ret))))) }
theorem c54 : cfunc Tryd.prog (kof k54) Tryd.f54 = some f54 := by kernel_rfl

/-- strings.Fields -/
abbrev r55_0 : List AOper := [
  ⟨some 2, .mv (.c (.nils)), none, []⟩]
abbrev r55_1 : List AOper := [
  ⟨some 3, .mv (.c (.int .i64 0)), none, []⟩]
abbrev r55_2 : List AOper := [
  ⟨some 4, .mv (.c (.int .i64 1)), none, []⟩]
abbrev r55_3 : List AOper := [
  ⟨some 5, .mv (.c (.int .u8 0)), none, []⟩]
abbrev r55_4 : List AOper := [
  ⟨some 6, .mv (.c (.int .i64 0)), none, []⟩]
abbrev r55_5 : List AOper := [
  ⟨some 13, .mv (.t 6), none, []⟩,
  ⟨some 14, .mv (.t 0), none, []⟩,
  ⟨some 15, .len 0 (.t 14), none, [1]⟩,
  ⟨some 16, .bin .lss (.t 13) (.t 15), none, [0, 2]⟩]
abbrev r55_7 : List AOper := [
  ⟨some 19, .mv (.t 0), none, []⟩,
  ⟨some 20, .mv (.t 6), none, []⟩,
  ⟨some 21, .idxS (.t 19) (.t 20), none, [0, 1]⟩,
  ⟨some 7, .mv (.t 21), none, [2, 0, 1, 2]⟩]
abbrev r55_8 : List AOper := [
  ⟨some 22, .mv (.t 5), none, []⟩,
  ⟨some 23, .mv (.t 7), none, []⟩,
  ⟨some 24, .bin .or (.t 22) (.t 23), none, [0, 1]⟩,
  ⟨some 5, .mv (.t 24), none, [2, 0, 1, 2]⟩]
abbrev r55_9 : List AOper := [
  ⟨some 25, .mv (.t 7), none, []⟩,
  ⟨some 26, .iaddrA 256 1 (gl 1) (.t 25), none, [0]⟩,
  ⟨some 27, .load none (.t 26), none, [1]⟩,
  ⟨some 28, .conv (.toInt .i64) (.t 27), none, [2]⟩,
  ⟨some 8, .mv (.t 28), none, [3, 0, 1, 2, 3]⟩]
abbrev r55_10 : List AOper := [
  ⟨some 29, .mv (.t 3), none, []⟩,
  ⟨some 30, .mv (.t 4), none, []⟩,
  ⟨some 31, .mv (.t 8), none, []⟩,
  ⟨some 32, .un .xor (.t 31), none, [2]⟩,
  ⟨some 33, .bin .and (.t 30) (.t 32), none, [1, 3]⟩,
  ⟨some 34, .bin .add (.t 29) (.t 33), none, [0, 4]⟩,
  ⟨some 3, .mv (.t 34), none, [5, 0, 1, 2, 3, 4, 5]⟩]
abbrev r55_11 : List AOper := [
  ⟨some 35, .mv (.t 8), none, []⟩,
  ⟨some 4, .mv (.t 35), none, [0, 0]⟩]
abbrev r55_6 : List AOper := [
  ⟨some 17, .mv (.t 6), none, []⟩,
  ⟨some 18, .bin .add (.t 17) (.c (.int .i64 1)), none, [0]⟩,
  ⟨some 6, .mv (.t 18), none, [1, 0, 1]⟩]
def l55_0 : ACode :=
  .seq (
  .seq (
  .region false r55_5 [0, 3, 4, 5, 6, 16]) (
  .cond (.t 16) (
    .skip) (
    .exit 0))) (
  .seq (
  .block 1 (
    .seq (
    .region false r55_7 [0, 3, 4, 5, 6, 7]) (
    .seq (
    .region false r55_8 [0, 3, 4, 5, 6, 7]) (
    .seq (
    .region false r55_9 [0, 3, 4, 5, 6, 8]) (
    .seq (
    .region false r55_10 [0, 3, 5, 6, 8]) (
    .region false r55_11 [0, 3, 4, 5, 6])))))) (
  .region false r55_6 [0, 3, 4, 5, 6]))
abbrev r55_12 : List AOper := [
  ⟨some 36, .mv (.t 5), none, []⟩,
  ⟨some 37, .bin .geq (.t 36) (.c (.int .u8 128)), none, [0]⟩]
abbrev r55_13 : List AOper := [
  ⟨some 38, .mv (.t 0), none, []⟩,
  ⟨some 39, .callF 65 [(.t 38), (.c (.fn (.func 66) [] []))], none, [0]⟩,
  ⟨some 2, .mv (.t 39), none, [1, 1, 0, 1]⟩]
abbrev r55_14 : List AOper := [
  ⟨some 40, .mv (.t 3), none, []⟩,
  ⟨some 41, .mkslice 9 [.str ⟨#[]⟩] 16 (.t 40) (.t 40), none, [0, 0]⟩,
  ⟨some 9, .mv (.t 41), none, [1, 0, 1]⟩]
abbrev r55_15 : List AOper := [
  ⟨some 10, .mv (.c (.int .i64 0)), none, []⟩]
abbrev r55_16 : List AOper := [
  ⟨some 11, .mv (.c (.int .i64 0)), none, []⟩]
abbrev r55_17 : List AOper := [
  ⟨some 12, .mv (.c (.int .i64 0)), none, []⟩]
abbrev r55_18 : List AOper := [
  ⟨some 42, .mv (.t 12), none, []⟩,
  ⟨some 43, .mv (.t 0), none, []⟩,
  ⟨some 44, .len 0 (.t 43), none, [1]⟩,
  ⟨some 45, .bin .lss (.t 42) (.t 44), none, [0, 2]⟩,
  ⟨some 46, .mv (.t 45), none, [3]⟩,
  ⟨some 47, .mv (.t 0), some (46, true), [4]⟩,
  ⟨some 48, .mv (.t 12), some (46, true), [4]⟩,
  ⟨some 49, .idxS (.t 47) (.t 48), some (46, true), [5, 6, 4]⟩,
  ⟨some 50, .iaddrA 256 1 (gl 1) (.t 49), some (46, true), [7, 4]⟩,
  ⟨some 51, .load none (.t 50), some (46, true), [8, 4]⟩,
  ⟨some 52, .bin .neq (.t 51) (.c (.int .u8 0)), some (46, true), [9, 4]⟩,
  ⟨some 53, .pick (.t 46) (.t 52) (.c (.bool false)), none, [4, 10]⟩]
abbrev r55_19 : List AOper := [
  ⟨some 54, .mv (.t 12), none, []⟩,
  ⟨some 55, .bin .add (.t 54) (.c (.int .i64 1)), none, [0]⟩,
  ⟨some 12, .mv (.t 55), none, [1, 0, 1]⟩]
def l55_1 : ACode :=
  .seq (
  .seq (
  .region false r55_18 [0, 9, 10, 12, 53]) (
  .cond (.t 53) (
    .skip) (
    .exit 2))) (
  .block 3 (
    .region false r55_19 [0, 9, 10, 12]))
abbrev r55_20 : List AOper := [
  ⟨some 56, .mv (.t 12), none, []⟩,
  ⟨some 11, .mv (.t 56), none, [0, 0]⟩]
abbrev r55_21 : List AOper := [
  ⟨some 57, .mv (.t 12), none, []⟩,
  ⟨some 58, .mv (.t 0), none, []⟩,
  ⟨some 59, .len 0 (.t 58), none, [1]⟩,
  ⟨some 60, .bin .lss (.t 57) (.t 59), none, [0, 2]⟩]
abbrev r55_22 : List AOper := [
  ⟨some 61, .mv (.t 0), none, []⟩,
  ⟨some 62, .mv (.t 12), none, []⟩,
  ⟨some 63, .idxS (.t 61) (.t 62), none, [0, 1]⟩,
  ⟨some 64, .iaddrA 256 1 (gl 1) (.t 63), none, [2]⟩,
  ⟨some 65, .load none (.t 64), none, [3]⟩,
  ⟨some 66, .bin .eql (.t 65) (.c (.int .u8 0)), none, [4]⟩]
abbrev r55_23 : List AOper := [
  ⟨some 67, .mv (.t 12), none, []⟩,
  ⟨some 68, .bin .add (.t 67) (.c (.int .i64 1)), none, [0]⟩,
  ⟨some 12, .mv (.t 68), none, [1, 0, 1]⟩]
abbrev r55_24 : List AOper := [
  ⟨some 69, .mv (.t 9), none, []⟩,
  ⟨some 70, .mv (.t 10), none, []⟩,
  ⟨some 71, .mv (.t 0), none, []⟩,
  ⟨some 72, .mv (.t 11), none, []⟩,
  ⟨some 73, .mv (.t 12), none, []⟩,
  ⟨some 74, .slcS (.t 71) (some (.t 72)) (some (.t 73)), none, [2, 3, 4]⟩,
  ⟨some 75, .iaddr 1 (.t 69) (.t 70), none, [0, 1, 0, 1, 2, 3, 4, 5]⟩,
  ⟨none, .store 1 (.t 75) (.t 74), none, [6, 5, 0, 1, 2, 3, 4, 5]⟩]
abbrev r55_25 : List AOper := [
  ⟨some 76, .mv (.t 10), none, []⟩,
  ⟨some 77, .bin .add (.t 76) (.c (.int .i64 1)), none, [0]⟩,
  ⟨some 10, .mv (.t 77), none, [1, 0, 1]⟩]
abbrev r55_26 : List AOper := [
  ⟨some 78, .mv (.t 12), none, []⟩,
  ⟨some 79, .bin .add (.t 78) (.c (.int .i64 1)), none, [0]⟩,
  ⟨some 12, .mv (.t 79), none, [1, 0, 1]⟩]
abbrev r55_27 : List AOper := [
  ⟨some 80, .mv (.t 12), none, []⟩,
  ⟨some 81, .mv (.t 0), none, []⟩,
  ⟨some 82, .len 0 (.t 81), none, [1]⟩,
  ⟨some 83, .bin .lss (.t 80) (.t 82), none, [0, 2]⟩,
  ⟨some 84, .mv (.t 83), none, [3]⟩,
  ⟨some 85, .mv (.t 0), some (84, true), [4]⟩,
  ⟨some 86, .mv (.t 12), some (84, true), [4]⟩,
  ⟨some 87, .idxS (.t 85) (.t 86), some (84, true), [5, 6, 4]⟩,
  ⟨some 88, .iaddrA 256 1 (gl 1) (.t 87), some (84, true), [7, 4]⟩,
  ⟨some 89, .load none (.t 88), some (84, true), [8, 4]⟩,
  ⟨some 90, .bin .neq (.t 89) (.c (.int .u8 0)), some (84, true), [9, 4]⟩,
  ⟨some 91, .pick (.t 84) (.t 90) (.c (.bool false)), none, [4, 10]⟩]
abbrev r55_28 : List AOper := [
  ⟨some 92, .mv (.t 12), none, []⟩,
  ⟨some 93, .bin .add (.t 92) (.c (.int .i64 1)), none, [0]⟩,
  ⟨some 12, .mv (.t 93), none, [1, 0, 1]⟩]
def l55_2 : ACode :=
  .seq (
  .seq (
  .region false r55_27 [0, 9, 10, 12, 91]) (
  .cond (.t 91) (
    .skip) (
    .exit 6))) (
  .block 7 (
    .region false r55_28 [0, 9, 10, 12]))
abbrev r55_29 : List AOper := [
  ⟨some 94, .mv (.t 12), none, []⟩,
  ⟨some 11, .mv (.t 94), none, [0, 0]⟩]
def l55_3 : ACode :=
  .seq (
  .seq (
  .region false r55_21 [0, 9, 10, 11, 12, 60]) (
  .cond (.t 60) (
    .skip) (
    .exit 4))) (
  .block 5 (
    .seq (
    .seq (
    .region false r55_22 [0, 9, 10, 11, 12, 66]) (
    .cond (.t 66) (
      .seq (
      .region false r55_23 [0, 9, 10, 11, 12]) (
      .exit 5)) (
      .skip))) (
    .seq (
    .region false r55_24 [0, 9, 10, 12]) (
    .seq (
    .region false r55_25 [0, 9, 10, 12]) (
    .seq (
    .region false r55_26 [0, 9, 10, 12]) (
    .seq (
    .block 6 (
      .loop l55_2)) (
    .region false r55_29 [0, 9, 10, 11, 12])))))))
abbrev r55_30 : List AOper := [
  ⟨some 95, .mv (.t 11), none, []⟩,
  ⟨some 96, .mv (.t 0), none, []⟩,
  ⟨some 97, .len 0 (.t 96), none, [1]⟩,
  ⟨some 98, .bin .lss (.t 95) (.t 97), none, [0, 2]⟩]
abbrev r55_31 : List AOper := [
  ⟨some 99, .mv (.t 9), none, []⟩,
  ⟨some 100, .mv (.t 10), none, []⟩,
  ⟨some 101, .mv (.t 0), none, []⟩,
  ⟨some 102, .mv (.t 11), none, []⟩,
  ⟨some 103, .slcS (.t 101) (some (.t 102)) none, none, [2, 3]⟩,
  ⟨some 104, .iaddr 1 (.t 99) (.t 100), none, [0, 1, 0, 1, 2, 3, 4]⟩,
  ⟨none, .store 1 (.t 104) (.t 103), none, [5, 4, 0, 1, 2, 3, 4]⟩]
abbrev r55_32 : List AOper := [
  ⟨some 105, .mv (.t 9), none, []⟩,
  ⟨some 2, .mv (.t 105), none, [0, 0]⟩]
def k55 : List (List Nat) := [[0], [0, 3], [0, 3, 4], [0, 3, 4, 5], [0, 3, 4, 5, 6], [0, 3, 4, 5, 6, 16], [0, 3, 4, 5, 6], [0, 3, 4, 5, 6, 7], [0, 3, 4, 5, 6, 7], [0, 3, 4, 5, 6, 8], [0, 3, 5, 6, 8], [0, 3, 4, 5, 6], [0, 3, 37], [2], [0, 9], [0, 9, 10], [0, 9, 10], [0, 9, 10, 12], [0, 9, 10, 12, 53], [0, 9, 10, 12], [0, 9, 10, 11, 12], [0, 9, 10, 11, 12, 60], [0, 9, 10, 11, 12, 66], [0, 9, 10, 11, 12], [0, 9, 10, 12], [0, 9, 10, 12], [0, 9, 10, 12], [0, 9, 10, 12, 91], [0, 9, 10, 12], [0, 9, 10, 11, 12], [0, 9, 10, 11, 98], [9], [2]]
def f55 : AFunc := { ntmps := 106, results := [.tmp 2], body := (
  .seq (
  .region false r55_0 [0]) (
  .seq (
  .region false r55_1 [0, 3]) (
  .seq (
  .region false r55_2 [0, 3, 4]) (
  .seq (
  .region false r55_3 [0, 3, 4, 5]) (
  .seq (
  .seq (
  .region false r55_4 [0, 3, 4, 5, 6]) (
  .block 0 (
    .loop l55_0))) (
  .seq (
  .seq (
  .region false r55_12 [0, 3, 37]) (
  .cond (.t 37) (
    .seq (
    .region false r55_13 [2]) (
    .ret)) (
    .skip))) (
  .seq (
  .region false r55_14 [0, 9]) (
  .seq (
  .region false r55_15 [0, 9, 10]) (
  .seq (
  .region false r55_16 [0, 9, 10]) (
  .seq (
  .region false r55_17 [0, 9, 10, 12]) (
  .seq (
  .block 2 (
    .loop l55_1)) (
  .seq (
  .region false r55_20 [0, 9, 10, 11, 12]) (
  .seq (
  .block 4 (
    .loop l55_3)) (
  .seq (
  .seq (
  .region false r55_30 [0, 9, 10, 11, 98]) (
  .cond (.t 98) (
    .region false r55_31 [9]) (
    .skip))) (
  .seq (
  .region false r55_32 [2]) (
  .ret)))))))))))))))) }
theorem c55 : cfunc Tryd.prog (kof k55) Tryd.f55 = some f55 := by kernel_rfl

/-- strings.HasPrefix -/
abbrev r56_0 : List AOper := [
  ⟨some 4, .mv (.c (.bool false)), none, []⟩]
abbrev r56_1 : List AOper := [
  ⟨some 5, .mv (.t 0), none, []⟩,
  ⟨some 6, .mv (.t 1), none, []⟩,
  ⟨some 7, .callF 67 [(.t 5), (.t 6)], none, [0, 1]⟩,
  ⟨some 4, .mv (.t 7), none, [2, 2, 0, 1, 2]⟩]
def k56 : List (List Nat) := [[0, 1], [4]]
def f56 : AFunc := { ntmps := 8, results := [.tmp 4], body := (
  .seq (
  .region false r56_0 [0, 1]) (
  .seq (
  .region false r56_1 [4]) (
  .ret))) }
theorem c56 : cfunc Tryd.prog (kof k56) Tryd.f56 = some f56 := by kernel_rfl

/-- exitwave/exitwaveref2.Letter -/
abbrev r57_0 : List AOper := [
  ⟨some 2, .mv (.c (.bool false)), none, []⟩]
abbrev r57_1 : List AOper := [
  ⟨some 3, .mv (.t 0), none, []⟩,
  ⟨some 4, .bin .geq (.t 3) (.c (.int .u8 97)), none, [0]⟩,
  ⟨some 5, .mv (.t 4), none, [1]⟩,
  ⟨some 6, .mv (.t 0), some (5, true), [2]⟩,
  ⟨some 7, .bin .leq (.t 6) (.c (.int .u8 122)), some (5, true), [3, 2]⟩,
  ⟨some 8, .pick (.t 5) (.t 7) (.c (.bool false)), none, [2, 4]⟩,
  ⟨some 9, .mv (.t 8), none, [5, 2]⟩,
  ⟨some 10, .mv (.t 0), some (9, false), [6]⟩,
  ⟨some 11, .bin .geq (.t 10) (.c (.int .u8 65)), some (9, false), [7, 6]⟩,
  ⟨some 12, .mv (.t 11), some (9, false), [8, 6, 6]⟩,
  ⟨some 13, .mv (.t 0), some (12, true), [9]⟩,
  ⟨some 14, .bin .leq (.t 13) (.c (.int .u8 90)), some (12, true), [10, 9]⟩,
  ⟨some 15, .pick (.t 12) (.t 14) (.c (.bool false)), some (9, false), [9, 11, 6]⟩,
  ⟨some 16, .pick (.t 9) (.c (.bool true)) (.t 15), none, [6, 12]⟩,
  ⟨some 17, .mv (.t 16), none, [13, 9]⟩,
  ⟨some 18, .mv (.t 0), some (17, false), [14]⟩,
  ⟨some 19, .bin .geq (.t 18) (.c (.int .u8 48)), some (17, false), [15, 14]⟩,
  ⟨some 20, .mv (.t 19), some (17, false), [16, 14, 14]⟩,
  ⟨some 21, .mv (.t 0), some (20, true), [17]⟩,
  ⟨some 22, .bin .leq (.t 21) (.c (.int .u8 57)), some (20, true), [18, 17]⟩,
  ⟨some 23, .pick (.t 20) (.t 22) (.c (.bool false)), some (17, false), [17, 19, 14]⟩,
  ⟨some 24, .pick (.t 17) (.c (.bool true)) (.t 23), none, [14, 20]⟩,
  ⟨some 25, .mv (.t 24), none, [21, 17]⟩,
  ⟨some 26, .mv (.t 0), some (25, false), [22]⟩,
  ⟨some 27, .bin .eql (.t 26) (.c (.int .u8 95)), some (25, false), [23, 22]⟩,
  ⟨some 28, .pick (.t 25) (.c (.bool true)) (.t 27), none, [22, 24]⟩,
  ⟨some 29, .mv (.t 28), none, [25, 22]⟩,
  ⟨some 30, .mv (.t 0), some (29, false), [26]⟩,
  ⟨some 31, .bin .eql (.t 30) (.c (.int .u8 64)), some (29, false), [27, 26]⟩,
  ⟨some 32, .pick (.t 29) (.c (.bool true)) (.t 31), none, [26, 28]⟩,
  ⟨some 2, .mv (.t 32), none, [29, 26, 0, 1, 2, 3, 4, 5, 6, 7, 8, 9, 10, 11, 12, 13, 14, 15, 16, 17, 18, 19, 20, 21, 22, 23, 24, 25, 26, 27, 28, 29]⟩]
def k57 : List (List Nat) := [[0], [2]]
def f57 : AFunc := { ntmps := 33, results := [.tmp 2], body := (
  .seq (
  .region false r57_0 [0]) (
  .seq (
  .region false r57_1 [2]) (
  .ret))) }
theorem c57 : cfunc Tryd.prog (kof k57) Tryd.f57 = some f57 := by kernel_rfl

/-- exitwave/exitwaveref5.whole -/
abbrev r58_0 : List AOper := [
  ⟨some 2, .mv (.c (.int .i64 0)), none, []⟩]
abbrev r58_1 : List AOper := [
  ⟨some 3, .mv (.c (.int .i64 0)), none, []⟩]
abbrev r58_2 : List AOper := [
  ⟨some 4, .mv (.c (.int .i64 0)), none, []⟩]
abbrev r58_3 : List AOper := [
  ⟨some 5, .mv (.t 4), none, []⟩,
  ⟨some 6, .mv (.t 0), none, []⟩,
  ⟨some 7, .len 0 (.t 6), none, [1]⟩,
  ⟨some 8, .bin .lss (.t 5) (.t 7), none, [0, 2]⟩]
abbrev r58_5 : List AOper := [
  ⟨some 11, .mv (.t 3), none, []⟩,
  ⟨some 12, .bin .mul (.c (.int .i64 10)) (.t 11), none, [0]⟩,
  ⟨some 13, .mv (.t 0), none, []⟩,
  ⟨some 14, .mv (.t 4), none, []⟩,
  ⟨some 15, .idxS (.t 13) (.t 14), none, [2, 3]⟩,
  ⟨some 16, .bin .sub (.t 15) (.c (.int .u8 48)), none, [4]⟩,
  ⟨some 17, .conv (.toInt .i64) (.t 16), none, [5]⟩,
  ⟨some 18, .bin .add (.t 12) (.t 17), none, [1, 6]⟩,
  ⟨some 3, .mv (.t 18), none, [7, 0, 1, 2, 3, 4, 5, 6, 7]⟩]
abbrev r58_4 : List AOper := [
  ⟨some 9, .mv (.t 4), none, []⟩,
  ⟨some 10, .bin .add (.t 9) (.c (.int .i64 1)), none, [0]⟩,
  ⟨some 4, .mv (.t 10), none, [1, 0, 1]⟩]
def l58_0 : ACode :=
  .seq (
  .seq (
  .region false r58_3 [0, 3, 4, 8]) (
  .cond (.t 8) (
    .skip) (
    .exit 0))) (
  .seq (
  .block 1 (
    .region false r58_5 [0, 3, 4])) (
  .region false r58_4 [0, 3, 4]))
abbrev r58_6 : List AOper := [
  ⟨some 19, .mv (.t 3), none, []⟩,
  ⟨some 2, .mv (.t 19), none, [0, 0]⟩]
def k58 : List (List Nat) := [[0], [0, 3], [0, 3, 4], [0, 3, 4, 8], [0, 3, 4], [0, 3, 4], [2]]
def f58 : AFunc := { ntmps := 20, results := [.tmp 2], body := (
  .seq (
  .region false r58_0 [0]) (
  .seq (
  .region false r58_1 [0, 3]) (
  .seq (
  .seq (
  .region false r58_2 [0, 3, 4]) (
  .block 0 (
    .loop l58_0))) (
  .seq (
  .region false r58_6 [2]) (
  .ret))))) }
theorem c58 : cfunc Tryd.prog (kof k58) Tryd.f58 = some f58 := by kernel_rfl

/-- exitwave/exitwaveref5.hexed -/
abbrev r59_0 : List AOper := [
  ⟨some 2, .mv (.c (.int .i64 0)), none, []⟩]
abbrev r59_1 : List AOper := [
  ⟨some 3, .mv (.t 0), none, []⟩,
  ⟨some 4, .callF 41 [(.t 3)], none, [0]⟩]
abbrev r59_2 : List AOper := [
  ⟨some 5, .mv (.t 0), none, []⟩,
  ⟨some 6, .bin .sub (.t 5) (.c (.int .u8 48)), none, [0]⟩,
  ⟨some 7, .conv (.toInt .i64) (.t 6), none, [1]⟩,
  ⟨some 2, .mv (.t 7), none, [2, 0, 1, 2]⟩]
abbrev r59_3 : List AOper := [
  ⟨some 8, .mv (.t 0), none, []⟩,
  ⟨some 9, .bin .geq (.t 8) (.c (.int .u8 97)), none, [0]⟩,
  ⟨some 10, .mv (.t 9), none, [1]⟩,
  ⟨some 11, .mv (.t 0), some (10, true), [2]⟩,
  ⟨some 12, .bin .leq (.t 11) (.c (.int .u8 102)), some (10, true), [3, 2]⟩,
  ⟨some 13, .pick (.t 10) (.t 12) (.c (.bool false)), none, [2, 4]⟩]
abbrev r59_4 : List AOper := [
  ⟨some 14, .mv (.t 0), none, []⟩,
  ⟨some 15, .bin .sub (.t 14) (.c (.int .u8 97)), none, [0]⟩,
  ⟨some 16, .conv (.toInt .i64) (.t 15), none, [1]⟩,
  ⟨some 17, .bin .add (.t 16) (.c (.int .i64 10)), none, [2]⟩,
  ⟨some 2, .mv (.t 17), none, [3, 0, 1, 2, 3]⟩]
abbrev r59_5 : List AOper := [
  ⟨some 2, .mv (.c (.int .i64 (-1))), none, []⟩]
def k59 : List (List Nat) := [[0], [0, 4], [2], [0, 13], [2], [2]]
def f59 : AFunc := { ntmps := 18, results := [.tmp 2], body := (
  .seq (
  .region false r59_0 [0]) (
  .seq (
  .seq (
  .region false r59_1 [0, 4]) (
  .cond (.t 4) (
    .seq (
    .region false r59_2 [2]) (
    .ret)) (
    .skip))) (
  .seq (
  .seq (
  .region false r59_3 [0, 13]) (
  .cond (.t 13) (
    .seq (
    .region false r59_4 [2]) (
    .ret)) (
    .skip))) (
  .seq (
  .region false r59_5 [2]) (
  .ret))))) }
theorem c59 : cfunc Tryd.prog (kof k59) Tryd.f59 = some f59 := by kernel_rfl

/-- exitwave/exitwaveref1.Finite -/
abbrev r60_0 : List AOper := [
  ⟨some 2, .mv (.c (.bool false)), none, []⟩]
abbrev r60_1 : List AOper := [
  ⟨some 3, .mv (.t 0), none, []⟩,
  ⟨some 4, .mv (.t 0), none, []⟩,
  ⟨some 5, .bin .sub (.t 3) (.t 4), none, [0, 1]⟩,
  ⟨some 6, .bin .eql (.t 5) (.c (.flt .f64 0)), none, [2]⟩,
  ⟨some 2, .mv (.t 6), none, [3, 0, 1, 2, 3]⟩]
def k60 : List (List Nat) := [[0], [2]]
def f60 : AFunc := { ntmps := 7, results := [.tmp 2], body := (
  .seq (
  .region false r60_0 [0]) (
  .seq (
  .region false r60_1 [2]) (
  .ret))) }
theorem c60 : cfunc Tryd.prog (kof k60) Tryd.f60 = some f60 := by kernel_rfl

/-- exitwave/exitwaveref2.own -/
abbrev r61_0 : List AOper := [
  ⟨some 1, .box 44 (.t 0), none, []⟩,
  ⟨some 2, .mv (.c (.int .i64 0)), none, []⟩]
abbrev r61_1 : List AOper := [
  ⟨some 3, .faddr 0 (.t 1), none, []⟩,
  ⟨some 4, .load none (.t 3), none, [0]⟩]
abbrev r61_2 : List AOper := [
  ⟨some 6, .bin .eql (.t 4) (.c (.int .i64 1)), none, []⟩,
  ⟨some 5, .mv (.t 6), none, [0]⟩]
abbrev r61_3 : List AOper := [
  ⟨some 7, .bin .eql (.t 4) (.c (.int .i64 3)), none, []⟩,
  ⟨some 5, .mv (.t 7), none, [0]⟩]
abbrev r61_4 : List AOper := [
  ⟨some 8, .bin .eql (.t 4) (.c (.int .i64 6)), none, []⟩,
  ⟨some 5, .mv (.t 8), none, [0]⟩]
abbrev r61_5 : List AOper := [
  ⟨some 2, .mv (.c (.int .i64 0)), none, []⟩]
abbrev r61_6 : List AOper := [
  ⟨some 10, .bin .eql (.t 4) (.c (.int .i64 2)), none, []⟩,
  ⟨some 9, .mv (.t 10), none, [0]⟩]
abbrev r61_7 : List AOper := [
  ⟨some 11, .bin .eql (.t 4) (.c (.int .i64 4)), none, []⟩,
  ⟨some 9, .mv (.t 11), none, [0]⟩]
abbrev r61_8 : List AOper := [
  ⟨some 2, .mv (.c (.int .i64 2)), none, []⟩]
abbrev r61_9 : List AOper := [
  ⟨some 13, .bin .eql (.t 4) (.c (.int .i64 8)), none, []⟩,
  ⟨some 12, .mv (.t 13), none, [0]⟩]
abbrev r61_10 : List AOper := [
  ⟨some 14, .faddr 4 (.t 1), none, []⟩,
  ⟨some 15, .load none (.t 14), none, [0]⟩,
  ⟨some 16, .len 1 (.t 15), none, [1]⟩,
  ⟨some 17, .bin .mul (.c (.int .i64 2)) (.t 16), none, [2]⟩,
  ⟨some 2, .mv (.t 17), none, [3, 0, 1, 2, 3]⟩]
abbrev r61_11 : List AOper := [
  ⟨some 19, .bin .eql (.t 4) (.c (.int .i64 5)), none, []⟩,
  ⟨some 18, .mv (.t 19), none, [0]⟩]
abbrev r61_12 : List AOper := [
  ⟨some 20, .faddr 4 (.t 1), none, []⟩,
  ⟨some 21, .load none (.t 20), none, [0]⟩,
  ⟨some 22, .len 1 (.t 21), none, [1]⟩,
  ⟨some 23, .bin .add (.c (.int .i64 2)) (.t 22), none, [2]⟩,
  ⟨some 2, .mv (.t 23), none, [3, 0, 1, 2, 3]⟩]
abbrev r61_13 : List AOper := [
  ⟨some 24, .faddr 4 (.t 1), none, []⟩,
  ⟨some 25, .load none (.t 24), none, [0]⟩,
  ⟨some 26, .len 1 (.t 25), none, [1]⟩,
  ⟨some 27, .bin .add (.c (.int .i64 1)) (.t 26), none, [2]⟩,
  ⟨some 2, .mv (.t 27), none, [3, 0, 1, 2, 3]⟩]
def k61 : List (List Nat) := [[1], [1, 4], [1, 4, 5], [1, 4, 5], [1, 4, 5], [2], [1, 4, 9], [1, 4, 9], [2], [1, 4, 12], [2], [1, 18], [2], [2]]
def f61 : AFunc := { ntmps := 28, results := [.tmp 2], body := (
  .seq (
  .region false r61_0 [1]) (
  .seq (
  .seq (
  .region false r61_1 [1, 4]) (
  .block 0 (
    .seq (
    .seq (
    .region false r61_2 [1, 4, 5]) (
    .cond (.t 5) (
      .skip) (
      .seq (
      .region false r61_3 [1, 4, 5]) (
      .cond (.t 5) (
        .skip) (
        .region false r61_4 [1, 4, 5]))))) (
    .cond (.t 5) (
      .seq (
      .region false r61_5 [2]) (
      .ret)) (
      .seq (
      .seq (
      .region false r61_6 [1, 4, 9]) (
      .cond (.t 9) (
        .skip) (
        .region false r61_7 [1, 4, 9]))) (
      .cond (.t 9) (
        .seq (
        .region false r61_8 [2]) (
        .ret)) (
        .seq (
        .region false r61_9 [1, 4, 12]) (
        .cond (.t 12) (
          .seq (
          .region false r61_10 [2]) (
          .ret)) (
          .seq (
          .region false r61_11 [1, 18]) (
          .cond (.t 18) (
            .seq (
            .region false r61_12 [2]) (
            .ret)) (
            .skip))))))))))) (
  .seq (
  .region false r61_13 [2]) (
  .ret)))) }
theorem c61 : cfunc Tryd.prog (kof k61) Tryd.f61 = some f61 := by kernel_rfl

/-- exitwave/exitwaveref2.fields -/
abbrev r62_0 : List AOper := [
  ⟨some 1, .box 44 (.t 0), none, []⟩,
  ⟨some 2, .mv (.c (.bool false)), none, []⟩]
abbrev r62_1 : List AOper := [
  ⟨some 3, .faddr 0 (.t 1), none, []⟩,
  ⟨some 4, .load none (.t 3), none, [0]⟩]
abbrev r62_2 : List AOper := [
  ⟨some 6, .bin .eql (.t 4) (.c (.int .i64 1)), none, []⟩,
  ⟨some 5, .mv (.t 6), none, [0]⟩]
abbrev r62_3 : List AOper := [
  ⟨some 7, .bin .eql (.t 4) (.c (.int .i64 2)), none, []⟩,
  ⟨some 5, .mv (.t 7), none, [0]⟩]
abbrev r62_4 : List AOper := [
  ⟨some 8, .load (some 5) (.t 1), none, []⟩,
  ⟨some 9, .callF 68 [(.t 8)], none, [0]⟩,
  ⟨some 2, .mv (.t 9), none, [1, 1, 0, 1]⟩]
abbrev r62_5 : List AOper := [
  ⟨some 11, .bin .eql (.t 4) (.c (.int .i64 3)), none, []⟩,
  ⟨some 10, .mv (.t 11), none, [0]⟩]
abbrev r62_6 : List AOper := [
  ⟨some 12, .faddr 3 (.t 1), none, []⟩,
  ⟨some 13, .load none (.t 12), none, [0]⟩,
  ⟨some 14, .len 0 (.t 13), none, [1]⟩,
  ⟨some 15, .bin .leq (.t 14) (.c (.int .i64 64)), none, [2]⟩,
  ⟨some 16, .mv (.t 15), none, [3]⟩,
  ⟨some 17, .faddr 1 (.t 1), some (16, true), [4]⟩,
  ⟨some 18, .load none (.t 17), some (16, true), [5, 4]⟩,
  ⟨some 19, .bin .eql (.t 18) (.c (.int .i64 0)), some (16, true), [6, 4]⟩,
  ⟨some 20, .pick (.t 16) (.t 19) (.c (.bool false)), none, [4, 7]⟩,
  ⟨some 21, .mv (.t 20), none, [8, 4]⟩,
  ⟨some 22, .faddr 2 (.t 1), some (21, true), [9]⟩,
  ⟨some 23, .load none (.t 22), some (21, true), [10, 9]⟩,
  ⟨some 24, .callF 69 [(.t 23)], some (21, true), [11, 9, 9]⟩,
  ⟨some 25, .pick (.t 21) (.t 24) (.c (.bool false)), none, [9, 12]⟩,
  ⟨some 26, .mv (.t 25), none, [13, 12]⟩,
  ⟨some 27, .faddr 4 (.t 1), some (26, true), [14]⟩,
  ⟨some 28, .load none (.t 27), some (26, true), [15, 14]⟩,
  ⟨some 29, .len 1 (.t 28), some (26, true), [16, 14]⟩,
  ⟨some 30, .bin .eql (.t 29) (.c (.int .i64 0)), some (26, true), [17, 14]⟩,
  ⟨some 31, .pick (.t 26) (.t 30) (.c (.bool false)), none, [14, 18]⟩,
  ⟨some 2, .mv (.t 31), none, [19, 14, 0, 1, 2, 3, 4, 5, 6, 7, 8, 9, 10, 11, 12, 13, 14, 15, 16, 17, 18, 19]⟩]
abbrev r62_7 : List AOper := [
  ⟨some 33, .bin .eql (.t 4) (.c (.int .i64 4)), none, []⟩,
  ⟨some 32, .mv (.t 33), none, [0]⟩]
abbrev r62_8 : List AOper := [
  ⟨some 34, .bin .eql (.t 4) (.c (.int .i64 6)), none, []⟩,
  ⟨some 32, .mv (.t 34), none, [0]⟩]
abbrev r62_9 : List AOper := [
  ⟨some 35, .faddr 1 (.t 1), none, []⟩,
  ⟨some 36, .load none (.t 35), none, [0]⟩,
  ⟨some 37, .bin .geq (.t 36) (.c (.int .i64 0)), none, [1]⟩,
  ⟨some 38, .mv (.t 37), none, [2]⟩,
  ⟨some 39, .faddr 1 (.t 1), some (38, true), [3]⟩,
  ⟨some 40, .load none (.t 39), some (38, true), [4, 3]⟩,
  ⟨some 41, .bin .leq (.t 40) (.c (.int .i64 1099511627776)), some (38, true), [5, 3]⟩,
  ⟨some 42, .pick (.t 38) (.t 41) (.c (.bool false)), none, [3, 6]⟩,
  ⟨some 43, .mv (.t 42), none, [7, 3]⟩,
  ⟨some 44, .faddr 3 (.t 1), some (43, true), [8]⟩,
  ⟨some 45, .load none (.t 44), some (43, true), [9, 8]⟩,
  ⟨some 46, .bin .eql (.t 45) (.c (.str ⟨#[]⟩)), some (43, true), [10, 8]⟩,
  ⟨some 47, .pick (.t 43) (.t 46) (.c (.bool false)), none, [8, 11]⟩,
  ⟨some 48, .mv (.t 47), none, [12, 8]⟩,
  ⟨some 49, .faddr 2 (.t 1), some (48, true), [13]⟩,
  ⟨some 50, .load none (.t 49), some (48, true), [14, 13]⟩,
  ⟨some 51, .callF 69 [(.t 50)], some (48, true), [15, 13, 13]⟩,
  ⟨some 52, .pick (.t 48) (.t 51) (.c (.bool false)), none, [13, 16]⟩,
  ⟨some 53, .mv (.t 52), none, [17, 16]⟩,
  ⟨some 54, .faddr 4 (.t 1), some (53, true), [18]⟩,
  ⟨some 55, .load none (.t 54), some (53, true), [19, 18]⟩,
  ⟨some 56, .len 1 (.t 55), some (53, true), [20, 18]⟩,
  ⟨some 57, .bin .eql (.t 56) (.c (.int .i64 0)), some (53, true), [21, 18]⟩,
  ⟨some 58, .pick (.t 53) (.t 57) (.c (.bool false)), none, [18, 22]⟩,
  ⟨some 2, .mv (.t 58), none, [23, 18, 0, 1, 2, 3, 4, 5, 6, 7, 8, 9, 10, 11, 12, 13, 14, 15, 16, 17, 18, 19, 20, 21, 22, 23]⟩]
abbrev r62_10 : List AOper := [
  ⟨some 60, .bin .eql (.t 4) (.c (.int .i64 5)), none, []⟩,
  ⟨some 59, .mv (.t 60), none, [0]⟩]
abbrev r62_11 : List AOper := [
  ⟨some 61, .faddr 1 (.t 1), none, []⟩,
  ⟨some 62, .load none (.t 61), none, [0]⟩,
  ⟨some 63, .bin .geq (.t 62) (.c (.int .i64 0)), none, [1]⟩,
  ⟨some 64, .mv (.t 63), none, [2]⟩,
  ⟨some 65, .faddr 1 (.t 1), some (64, true), [3]⟩,
  ⟨some 66, .load none (.t 65), some (64, true), [4, 3]⟩,
  ⟨some 67, .bin .leq (.t 66) (.c (.int .i64 16384)), some (64, true), [5, 3]⟩,
  ⟨some 68, .pick (.t 64) (.t 67) (.c (.bool false)), none, [3, 6]⟩,
  ⟨some 69, .mv (.t 68), none, [7, 3]⟩,
  ⟨some 70, .faddr 3 (.t 1), some (69, true), [8]⟩,
  ⟨some 71, .load none (.t 70), some (69, true), [9, 8]⟩,
  ⟨some 72, .bin .eql (.t 71) (.c (.str ⟨#[]⟩)), some (69, true), [10, 8]⟩,
  ⟨some 73, .pick (.t 69) (.t 72) (.c (.bool false)), none, [8, 11]⟩,
  ⟨some 74, .mv (.t 73), none, [12, 8]⟩,
  ⟨some 75, .faddr 2 (.t 1), some (74, true), [13]⟩,
  ⟨some 76, .load none (.t 75), some (74, true), [14, 13]⟩,
  ⟨some 77, .callF 69 [(.t 76)], some (74, true), [15, 13, 13]⟩,
  ⟨some 78, .pick (.t 74) (.t 77) (.c (.bool false)), none, [13, 16]⟩,
  ⟨some 2, .mv (.t 78), none, [17, 16, 0, 1, 2, 3, 4, 5, 6, 7, 8, 9, 10, 11, 12, 13, 14, 15, 16, 17]⟩]
abbrev r62_12 : List AOper := [
  ⟨some 80, .bin .eql (.t 4) (.c (.int .i64 7)), none, []⟩,
  ⟨some 79, .mv (.t 80), none, [0]⟩]
abbrev r62_13 : List AOper := [
  ⟨some 81, .bin .eql (.t 4) (.c (.int .i64 8)), none, []⟩,
  ⟨some 79, .mv (.t 81), none, [0]⟩]
abbrev r62_14 : List AOper := [
  ⟨some 82, .faddr 1 (.t 1), none, []⟩,
  ⟨some 83, .load none (.t 82), none, [0]⟩,
  ⟨some 84, .bin .eql (.t 83) (.c (.int .i64 0)), none, [1]⟩,
  ⟨some 85, .mv (.t 84), none, [2]⟩,
  ⟨some 86, .faddr 3 (.t 1), some (85, true), [3]⟩,
  ⟨some 87, .load none (.t 86), some (85, true), [4, 3]⟩,
  ⟨some 88, .bin .eql (.t 87) (.c (.str ⟨#[]⟩)), some (85, true), [5, 3]⟩,
  ⟨some 89, .pick (.t 85) (.t 88) (.c (.bool false)), none, [3, 6]⟩,
  ⟨some 90, .mv (.t 89), none, [7, 3]⟩,
  ⟨some 91, .faddr 2 (.t 1), some (90, true), [8]⟩,
  ⟨some 92, .load none (.t 91), some (90, true), [9, 8]⟩,
  ⟨some 93, .callF 69 [(.t 92)], some (90, true), [10, 8, 8]⟩,
  ⟨some 94, .pick (.t 90) (.t 93) (.c (.bool false)), none, [8, 11]⟩,
  ⟨some 2, .mv (.t 94), none, [12, 11, 0, 1, 2, 3, 4, 5, 6, 7, 8, 9, 10, 11, 12]⟩]
abbrev r62_15 : List AOper := [
  ⟨some 2, .mv (.c (.bool false)), none, []⟩]
def k62 : List (List Nat) := [[1], [1, 4], [1, 4, 5], [1, 4, 5], [2], [1, 4, 10], [2], [1, 4, 32], [1, 4, 32], [2], [1, 4, 59], [2], [1, 4, 79], [1, 79], [2], [2]]
def f62 : AFunc := { ntmps := 95, results := [.tmp 2], body := (
  .seq (
  .region false r62_0 [1]) (
  .seq (
  .seq (
  .region false r62_1 [1, 4]) (
  .block 0 (
    .seq (
    .seq (
    .region false r62_2 [1, 4, 5]) (
    .cond (.t 5) (
      .skip) (
      .region false r62_3 [1, 4, 5]))) (
    .cond (.t 5) (
      .seq (
      .region false r62_4 [2]) (
      .ret)) (
      .seq (
      .region false r62_5 [1, 4, 10]) (
      .cond (.t 10) (
        .seq (
        .region false r62_6 [2]) (
        .ret)) (
        .seq (
        .seq (
        .region false r62_7 [1, 4, 32]) (
        .cond (.t 32) (
          .skip) (
          .region false r62_8 [1, 4, 32]))) (
        .cond (.t 32) (
          .seq (
          .region false r62_9 [2]) (
          .ret)) (
          .seq (
          .region false r62_10 [1, 4, 59]) (
          .cond (.t 59) (
            .seq (
            .region false r62_11 [2]) (
            .ret)) (
            .seq (
            .seq (
            .region false r62_12 [1, 4, 79]) (
            .cond (.t 79) (
              .skip) (
              .region false r62_13 [1, 79]))) (
            .cond (.t 79) (
              .seq (
              .region false r62_14 [2]) (
              .ret)) (
              .skip))))))))))))) (
  .seq (
  .region false r62_15 [2]) (
  .ret)))) }
theorem c62 : cfunc Tryd.prog (kof k62) Tryd.f62 = some f62 := by kernel_rfl

/-- strings.IndexByte -/
abbrev r63_0 : List AOper := [
  ⟨some 4, .mv (.c (.int .i64 0)), none, []⟩]
abbrev r63_1 : List AOper := [
  ⟨some 5, .mv (.t 0), none, []⟩,
  ⟨some 6, .mv (.t 1), none, []⟩,
  ⟨some 7, .callF 70 [(.t 5), (.t 6)], none, [0, 1]⟩,
  ⟨some 4, .mv (.t 7), none, [2, 2, 0, 1, 2]⟩]
def k63 : List (List Nat) := [[0, 1], [4]]
def f63 : AFunc := { ntmps := 8, results := [.tmp 4], body := (
  .seq (
  .region false r63_0 [0, 1]) (
  .seq (
  .region false r63_1 [4]) (
  .ret))) }
theorem c63 : cfunc Tryd.prog (kof k63) Tryd.f63 = some f63 := by kernel_rfl

/-- exitwave/num.Float -/
abbrev r64_0 : List AOper := [
  ⟨some 2, .alloc 44 (.agg [.int .i64 0, .int .i64 0, .flt .f64 0, .str ⟨#[]⟩, .nils]), none, []⟩,
  ⟨some 3, .mv (.c (.int .i64 0)), none, []⟩]
abbrev r64_1 : List AOper := [
  ⟨some 4, .mv (.t 0), none, []⟩,
  ⟨some 5, .callF 71 [(.t 4)], none, [0]⟩,
  ⟨some 6, .mv (.t 5), none, [1, 1]⟩,
  ⟨some 7, .mv (.t 0), some (6, false), [2]⟩,
  ⟨some 8, .callF 72 [(.t 7), (.c (.int .i64 0))], some (6, false), [3, 2, 2]⟩,
  ⟨some 9, .pick (.t 6) (.c (.bool true)) (.t 8), none, [2, 4]⟩]
abbrev r64_2 : List AOper := [
  ⟨some 10, .build [.int .i64 0, .int .i64 0, .flt .f64 0, .str ⟨#[]⟩, .nils] [], none, []⟩,
  ⟨none, .store 5 (.t 2) (.t 10), none, [0, 0]⟩,
  ⟨some 3, .mv (.c (.int .i64 11)), none, [1, 0, 1]⟩]
abbrev r64_3 : List AOper := [
  ⟨some 11, .mv (.t 0), none, []⟩,
  ⟨some 12, .build [.int .i64 0, .int .i64 0, .flt .f64 0, .str ⟨#[]⟩, .nils] [(0, 1, (.c (.int .i64 2))), (2, 1, (.t 11))], none, [0]⟩,
  ⟨none, .store 5 (.t 2) (.t 12), none, [1, 0, 1]⟩,
  ⟨some 3, .mv (.c (.int .i64 0)), none, [2, 0, 1, 2]⟩]
def k64 : List (List Nat) := [[0, 2], [0, 2, 9], [2, 3], [2, 3]]
def f64 : AFunc := { ntmps := 13, results := [.cell 2 (some 5), .tmp 3], body := (
  .seq (
  .region false r64_0 [0, 2]) (
  .seq (
  .seq (
  .region false r64_1 [0, 2, 9]) (
  .cond (.t 9) (
    .seq (
    .region false r64_2 [2, 3]) (
    .ret)) (
    .skip))) (
  .seq (
  .region false r64_3 [2, 3]) (
  .ret)))) }
theorem c64 : cfunc Tryd.prog (kof k64) Tryd.f64 = some f64 := by kernel_rfl

/-- strings.FieldsFunc -/
abbrev r65_0 : List AOper := [
  ⟨some 4, .mv (.c (.nils)), none, []⟩]
abbrev r65_1 : List AOper := [
  ⟨some 12, .mkslice 88 [.int .i64 0, .int .i64 0] 16 (.c (.int .i64 0)) (.c (.int .i64 32)), none, []⟩,
  ⟨some 5, .mv (.t 12), none, [0, 0]⟩]
abbrev r65_2 : List AOper := [
  ⟨some 6, .mv (.c (.int .i64 (-1))), none, []⟩]
abbrev r65_3 : List AOper := [
  ⟨some 13, .mv (.t 0), none, []⟩,
  ⟨some 14, .rngS (.t 13), none, [0]⟩]
abbrev r65_4 : List AOper := [
  ⟨some 15, .nxtS (.t 14), none, []⟩,
  ⟨some 16, .extract (.t 15) 0, none, [0]⟩]
abbrev r65_5 : List AOper := [
  ⟨some 17, .extract (.t 15) 1, none, []⟩,
  ⟨some 18, .extract (.t 15) 2, none, []⟩,
  ⟨some 7, .mv (.t 17), none, [0, 0]⟩,
  ⟨some 8, .mv (.t 18), none, [1, 2, 0, 1, 2]⟩]
abbrev r65_6 : List AOper := [
  ⟨some 19, .mv (.t 1), none, []⟩,
  ⟨some 20, .mv (.t 8), none, []⟩,
  ⟨some 21, .callV (.t 19) [(.t 20)], none, [0, 1]⟩]
abbrev r65_7 : List AOper := [
  ⟨some 22, .mv (.t 6), none, []⟩,
  ⟨some 23, .bin .geq (.t 22) (.c (.int .i64 0)), none, [0]⟩]
abbrev r65_8 : List AOper := [
  ⟨some 24, .mv (.t 5), none, []⟩,
  ⟨some 25, .mv (.t 6), none, []⟩,
  ⟨some 26, .mv (.t 7), none, []⟩,
  ⟨some 27, .build [.int .i64 0, .int .i64 0] [(0, 1, (.t 25)), (1, 1, (.t 26))], none, [1, 2]⟩,
  ⟨some 28, .bslice 88 1 [.int .i64 0, .int .i64 0] [(0, 2, (.t 27))], none, [3]⟩,
  ⟨some 29, .app 88 2 16 (.t 24) (.t 28), none, [0, 4]⟩,
  ⟨some 5, .mv (.t 29), none, [5, 5, 0, 1, 2, 3, 4, 5]⟩]
abbrev r65_9 : List AOper := [
  ⟨some 30, .mv (.t 6), none, []⟩,
  ⟨some 31, .un .xor (.t 30), none, [0]⟩,
  ⟨some 6, .mv (.t 31), none, [1, 0, 1]⟩]
abbrev r65_10 : List AOper := [
  ⟨some 32, .mv (.t 6), none, []⟩,
  ⟨some 33, .bin .lss (.t 32) (.c (.int .i64 0)), none, [0]⟩]
abbrev r65_11 : List AOper := [
  ⟨some 34, .mv (.t 7), none, []⟩,
  ⟨some 6, .mv (.t 34), none, [0, 0]⟩]
def l65_0 : ACode :=
  .seq (
  .region false r65_4 [0, 1, 5, 6, 14, 15, 16]) (
  .seq (
  .cond (.t 16) (
    .skip) (
    .exit 0)) (
  .block 1 (
    .seq (
    .region false r65_5 [0, 1, 5, 6, 7, 8, 14]) (
    .seq (
    .region false r65_6 [0, 1, 5, 6, 7, 14, 21]) (
    .cond (.t 21) (
      .seq (
      .region false r65_7 [0, 1, 5, 6, 7, 14, 23]) (
      .cond (.t 23) (
        .seq (
        .region false r65_8 [0, 1, 5, 6, 14]) (
        .region false r65_9 [0, 1, 5, 6, 14])) (
        .skip))) (
      .seq (
      .region false r65_10 [0, 1, 5, 6, 7, 14, 33]) (
      .cond (.t 33) (
        .region false r65_11 [0, 1, 5, 6, 14]) (
        .skip))))))))
abbrev r65_12 : List AOper := [
  ⟨some 35, .mv (.t 6), none, []⟩,
  ⟨some 36, .bin .geq (.t 35) (.c (.int .i64 0)), none, [0]⟩]
abbrev r65_13 : List AOper := [
  ⟨some 37, .mv (.t 5), none, []⟩,
  ⟨some 38, .mv (.t 6), none, []⟩,
  ⟨some 39, .mv (.t 0), none, []⟩,
  ⟨some 40, .len 0 (.t 39), none, [2]⟩,
  ⟨some 41, .build [.int .i64 0, .int .i64 0] [(0, 1, (.t 38)), (1, 1, (.t 40))], none, [1, 3]⟩,
  ⟨some 42, .bslice 88 1 [.int .i64 0, .int .i64 0] [(0, 2, (.t 41))], none, [4]⟩,
  ⟨some 43, .app 88 2 16 (.t 37) (.t 42), none, [0, 5]⟩,
  ⟨some 5, .mv (.t 43), none, [6, 6, 0, 1, 2, 3, 4, 5, 6]⟩]
abbrev r65_14 : List AOper := [
  ⟨some 44, .mv (.t 5), none, []⟩,
  ⟨some 45, .len 1 (.t 44), none, [0]⟩,
  ⟨some 46, .mkslice 9 [.str ⟨#[]⟩] 16 (.t 45) (.t 45), none, [1, 1]⟩,
  ⟨some 9, .mv (.t 46), none, [2, 0, 1, 2]⟩]
abbrev r65_15 : List AOper := [
  ⟨some 47, .mv (.t 5), none, []⟩,
  ⟨some 48, .len 1 (.t 47), none, [0]⟩,
  ⟨some 49, .mv (.c (.int .i64 0)), none, []⟩]
abbrev r65_16 : List AOper := [
  ⟨some 50, .bin .lss (.t 49) (.t 48), none, []⟩]
abbrev r65_17 : List AOper := [
  ⟨some 51, .mv (.t 49), none, []⟩,
  ⟨some 52, .iaddr 2 (.t 47) (.t 49), none, []⟩,
  ⟨some 53, .load (some 2) (.t 52), none, [1]⟩,
  ⟨some 11, .alloc 88 (.agg [.int .i64 0, .int .i64 0]), none, []⟩,
  ⟨some 10, .mv (.t 51), none, [0, 0, 1, 2, 3]⟩,
  ⟨none, .store 2 (.t 11) (.t 53), none, [3, 2, 4, 0, 1, 2, 3, 4]⟩]
abbrev r65_18 : List AOper := [
  ⟨some 54, .mv (.t 9), none, []⟩,
  ⟨some 55, .mv (.t 10), none, []⟩,
  ⟨some 56, .mv (.t 0), none, []⟩,
  ⟨some 57, .faddr 0 (.t 11), none, []⟩,
  ⟨some 58, .load none (.t 57), none, [3]⟩,
  ⟨some 59, .faddr 1 (.t 11), none, []⟩,
  ⟨some 60, .load none (.t 59), none, [5]⟩,
  ⟨some 61, .slcS (.t 56) (some (.t 58)) (some (.t 60)), none, [2, 4, 6]⟩,
  ⟨some 62, .iaddr 1 (.t 54) (.t 55), none, [0, 1, 0, 1, 2, 3, 4, 5, 6, 7]⟩,
  ⟨none, .store 1 (.t 62) (.t 61), none, [8, 7, 0, 1, 2, 3, 4, 5, 6, 7]⟩]
abbrev r65_19 : List AOper := [
  ⟨some 63, .bin .add (.t 49) (.c (.int .i64 1)), none, []⟩,
  ⟨some 49, .mv (.t 63), none, [0]⟩]
def l65_1 : ACode :=
  .seq (
  .region false r65_16 [0, 9, 47, 48, 49, 50]) (
  .seq (
  .cond (.t 50) (
    .skip) (
    .exit 2)) (
  .seq (
  .block 3 (
    .seq (
    .region false r65_17 [0, 9, 10, 11, 47, 48, 49]) (
    .region false r65_18 [0, 9, 47, 48, 49]))) (
  .region false r65_19 [0, 9, 47, 48, 49])))
abbrev r65_20 : List AOper := [
  ⟨some 64, .mv (.t 9), none, []⟩,
  ⟨some 4, .mv (.t 64), none, [0, 0]⟩]
def k65 : List (List Nat) := [[0, 1], [0, 1, 5], [0, 1, 5, 6], [0, 1, 5, 6, 14], [0, 1, 5, 6, 14, 15, 16], [0, 1, 5, 6, 7, 8, 14], [0, 1, 5, 6, 7, 14, 21], [0, 1, 5, 6, 7, 14, 23], [0, 1, 5, 6, 14], [0, 1, 5, 6, 14], [0, 1, 5, 6, 7, 14, 33], [0, 1, 5, 6, 14], [0, 5, 6, 36], [0, 5], [0, 5, 9], [0, 9, 47, 48, 49], [0, 9, 47, 48, 49, 50], [0, 9, 10, 11, 47, 48, 49], [0, 9, 47, 48, 49], [0, 9, 47, 48, 49], [4]]
def f65 : AFunc := { ntmps := 65, results := [.tmp 4], body := (
  .seq (
  .region false r65_0 [0, 1]) (
  .seq (
  .region false r65_1 [0, 1, 5]) (
  .seq (
  .region false r65_2 [0, 1, 5, 6]) (
  .seq (
  .seq (
  .region false r65_3 [0, 1, 5, 6, 14]) (
  .block 0 (
    .loop l65_0))) (
  .seq (
  .seq (
  .region false r65_12 [0, 5, 6, 36]) (
  .cond (.t 36) (
    .region false r65_13 [0, 5]) (
    .skip))) (
  .seq (
  .region false r65_14 [0, 5, 9]) (
  .seq (
  .seq (
  .region false r65_15 [0, 9, 47, 48, 49]) (
  .block 2 (
    .loop l65_1))) (
  .seq (
  .region false r65_20 [4]) (
  .ret))))))))) }
theorem c65 : cfunc Tryd.prog (kof k65) Tryd.f65 = some f65 := by kernel_rfl

/-- unicode.IsSpace -/
abbrev r66_0 : List AOper := [
  ⟨some 2, .mv (.c (.bool false)), none, []⟩]
abbrev r66_1 : List AOper := [
  ⟨some 3, .mv (.t 0), none, []⟩,
  ⟨some 4, .conv (.toInt .u32) (.t 3), none, [0]⟩,
  ⟨some 5, .bin .leq (.t 4) (.c (.int .u32 255)), none, [1]⟩]
abbrev r66_2 : List AOper := [
  ⟨some 6, .mv (.t 0), none, []⟩]
abbrev r66_3 : List AOper := [
  ⟨some 8, .bin .eql (.t 6) (.c (.int .i32 9)), none, []⟩,
  ⟨some 7, .mv (.t 8), none, [0]⟩]
abbrev r66_4 : List AOper := [
  ⟨some 9, .bin .eql (.t 6) (.c (.int .i32 10)), none, []⟩,
  ⟨some 7, .mv (.t 9), none, [0]⟩]
abbrev r66_5 : List AOper := [
  ⟨some 10, .bin .eql (.t 6) (.c (.int .i32 11)), none, []⟩,
  ⟨some 7, .mv (.t 10), none, [0]⟩]
abbrev r66_6 : List AOper := [
  ⟨some 11, .bin .eql (.t 6) (.c (.int .i32 12)), none, []⟩,
  ⟨some 7, .mv (.t 11), none, [0]⟩]
abbrev r66_7 : List AOper := [
  ⟨some 12, .bin .eql (.t 6) (.c (.int .i32 13)), none, []⟩,
  ⟨some 7, .mv (.t 12), none, [0]⟩]
abbrev r66_8 : List AOper := [
  ⟨some 13, .bin .eql (.t 6) (.c (.int .i32 32)), none, []⟩,
  ⟨some 7, .mv (.t 13), none, [0]⟩]
abbrev r66_9 : List AOper := [
  ⟨some 14, .bin .eql (.t 6) (.c (.int .i32 133)), none, []⟩,
  ⟨some 7, .mv (.t 14), none, [0]⟩]
abbrev r66_10 : List AOper := [
  ⟨some 15, .bin .eql (.t 6) (.c (.int .i32 160)), none, []⟩,
  ⟨some 7, .mv (.t 15), none, [0]⟩]
abbrev r66_11 : List AOper := [
  ⟨some 2, .mv (.c (.bool true)), none, []⟩]
abbrev r66_12 : List AOper := [
  ⟨some 2, .mv (.c (.bool false)), none, []⟩]
abbrev r66_13 : List AOper := [
  ⟨some 16, .load none (gl 2), none, []⟩,
  ⟨some 17, .mv (.t 0), none, []⟩,
  ⟨some 18, .callF 73 [(.t 16), (.t 17)], none, [0, 1]⟩,
  ⟨some 2, .mv (.t 18), none, [2, 2, 0, 1, 2]⟩]
def k66 : List (List Nat) := [[0], [0, 5], [6], [6, 7], [6, 7], [6, 7], [6, 7], [6, 7], [6, 7], [6, 7], [7], [2], [2], [2]]
def f66 : AFunc := { ntmps := 19, results := [.tmp 2], body := (
  .seq (
  .region false r66_0 [0]) (
  .seq (
  .seq (
  .region false r66_1 [0, 5]) (
  .cond (.t 5) (
    .seq (
    .seq (
    .region false r66_2 [6]) (
    .block 0 (
      .seq (
      .seq (
      .region false r66_3 [6, 7]) (
      .cond (.t 7) (
        .skip) (
        .seq (
        .region false r66_4 [6, 7]) (
        .cond (.t 7) (
          .skip) (
          .seq (
          .region false r66_5 [6, 7]) (
          .cond (.t 7) (
            .skip) (
            .seq (
            .region false r66_6 [6, 7]) (
            .cond (.t 7) (
              .skip) (
              .seq (
              .region false r66_7 [6, 7]) (
              .cond (.t 7) (
                .skip) (
                .seq (
                .region false r66_8 [6, 7]) (
                .cond (.t 7) (
                  .skip) (
                  .seq (
                  .region false r66_9 [6, 7]) (
                  .cond (.t 7) (
                    .skip) (
                    .region false r66_10 [7]))))))))))))))) (
      .cond (.t 7) (
        .seq (
        .region false r66_11 [2]) (
        .ret)) (
        .skip))))) (
    .seq (
    .region false r66_12 [2]) (
    .ret))) (
    .skip))) (
  .seq (
  .region false r66_13 [2]) (
  .ret)))) }
theorem c66 : cfunc Tryd.prog (kof k66) Tryd.f66 = some f66 := by kernel_rfl

/-- internal/stringslite.HasPrefix -/
abbrev r67_0 : List AOper := [
  ⟨some 4, .mv (.c (.bool false)), none, []⟩]
abbrev r67_1 : List AOper := [
  ⟨some 5, .mv (.t 0), none, []⟩,
  ⟨some 6, .len 0 (.t 5), none, [0]⟩,
  ⟨some 7, .mv (.t 1), none, []⟩,
  ⟨some 8, .len 0 (.t 7), none, [2]⟩,
  ⟨some 9, .bin .geq (.t 6) (.t 8), none, [1, 3]⟩,
  ⟨some 10, .mv (.t 9), none, [4]⟩,
  ⟨some 11, .mv (.t 0), some (10, true), [5]⟩,
  ⟨some 12, .mv (.t 1), some (10, true), [5]⟩,
  ⟨some 13, .len 0 (.t 12), some (10, true), [7, 5]⟩,
  ⟨some 14, .slcS (.t 11) none (some (.t 13)), some (10, true), [6, 8, 5]⟩,
  ⟨some 15, .mv (.t 1), some (10, true), [5]⟩,
  ⟨some 16, .bin .eql (.t 14) (.t 15), some (10, true), [9, 10, 5]⟩,
  ⟨some 17, .pick (.t 10) (.t 16) (.c (.bool false)), none, [5, 11]⟩,
  ⟨some 4, .mv (.t 17), none, [12, 5, 0, 1, 2, 3, 4, 5, 6, 7, 8, 9, 10, 11, 12]⟩]
def k67 : List (List Nat) := [[0, 1], [4]]
def f67 : AFunc := { ntmps := 18, results := [.tmp 4], body := (
  .seq (
  .region false r67_0 [0, 1]) (
  .seq (
  .region false r67_1 [4]) (
  .ret))) }
theorem c67 : cfunc Tryd.prog (kof k67) Tryd.f67 = some f67 := by kernel_rfl

/-- exitwave/exitwaveref1.Right -/
abbrev r68_0 : List AOper := [
  ⟨some 1, .box 44 (.t 0), none, []⟩,
  ⟨some 2, .mv (.c (.bool false)), none, []⟩]
abbrev r68_1 : List AOper := [
  ⟨some 3, .faddr 3 (.t 1), none, []⟩,
  ⟨some 4, .load none (.t 3), none, [0]⟩,
  ⟨some 5, .bin .neq (.t 4) (.c (.str ⟨#[]⟩)), none, [1]⟩,
  ⟨some 6, .mv (.t 5), none, [2]⟩,
  ⟨some 7, .faddr 4 (.t 1), some (6, false), [3]⟩,
  ⟨some 8, .load none (.t 7), some (6, false), [4, 3]⟩,
  ⟨some 9, .len 1 (.t 8), some (6, false), [5, 3]⟩,
  ⟨some 10, .bin .neq (.t 9) (.c (.int .i64 0)), some (6, false), [6, 3]⟩,
  ⟨some 11, .pick (.t 6) (.c (.bool true)) (.t 10), none, [3, 7]⟩]
abbrev r68_2 : List AOper := [
  ⟨some 2, .mv (.c (.bool false)), none, []⟩]
abbrev r68_3 : List AOper := [
  ⟨some 12, .faddr 0 (.t 1), none, []⟩,
  ⟨some 13, .load none (.t 12), none, [0]⟩,
  ⟨some 14, .bin .eql (.t 13) (.c (.int .i64 1)), none, [1]⟩]
abbrev r68_4 : List AOper := [
  ⟨some 15, .faddr 1 (.t 1), none, []⟩,
  ⟨some 16, .load none (.t 15), none, [0]⟩,
  ⟨some 17, .bin .geq (.t 16) (.c (.int .i64 (-576460752303423488))), none, [1]⟩,
  ⟨some 18, .mv (.t 17), none, [2]⟩,
  ⟨some 19, .faddr 1 (.t 1), some (18, true), [3]⟩,
  ⟨some 20, .load none (.t 19), some (18, true), [4, 3]⟩,
  ⟨some 21, .bin .leq (.t 20) (.c (.int .i64 576460752303423487)), some (18, true), [5, 3]⟩,
  ⟨some 22, .pick (.t 18) (.t 21) (.c (.bool false)), none, [3, 6]⟩,
  ⟨some 23, .mv (.t 22), none, [7, 3]⟩,
  ⟨some 24, .faddr 2 (.t 1), some (23, true), [8]⟩,
  ⟨some 25, .load none (.t 24), some (23, true), [9, 8]⟩,
  ⟨some 26, .callF 69 [(.t 25)], some (23, true), [10, 8, 8]⟩,
  ⟨some 27, .pick (.t 23) (.t 26) (.c (.bool false)), none, [8, 11]⟩,
  ⟨some 2, .mv (.t 27), none, [12, 11, 0, 1, 2, 3, 4, 5, 6, 7, 8, 9, 10, 11, 12]⟩]
abbrev r68_5 : List AOper := [
  ⟨some 28, .faddr 0 (.t 1), none, []⟩,
  ⟨some 29, .load none (.t 28), none, [0]⟩,
  ⟨some 30, .bin .eql (.t 29) (.c (.int .i64 2)), none, [1]⟩,
  ⟨some 31, .mv (.t 30), none, [2]⟩,
  ⟨some 32, .faddr 1 (.t 1), some (31, true), [3]⟩,
  ⟨some 33, .load none (.t 32), some (31, true), [4, 3]⟩,
  ⟨some 34, .bin .eql (.t 33) (.c (.int .i64 0)), some (31, true), [5, 3]⟩,
  ⟨some 35, .pick (.t 31) (.t 34) (.c (.bool false)), none, [3, 6]⟩,
  ⟨some 36, .mv (.t 35), none, [7, 3]⟩,
  ⟨some 37, .faddr 2 (.t 1), some (36, true), [8]⟩,
  ⟨some 38, .load none (.t 37), some (36, true), [9, 8]⟩,
  ⟨some 39, .callF 60 [(.t 38)], some (36, true), [10, 8, 8]⟩,
  ⟨some 40, .pick (.t 36) (.t 39) (.c (.bool false)), none, [8, 11]⟩,
  ⟨some 2, .mv (.t 40), none, [12, 11, 0, 1, 2, 3, 4, 5, 6, 7, 8, 9, 10, 11, 12]⟩]
def k68 : List (List Nat) := [[1], [1, 11], [2], [1, 14], [2], [2]]
def f68 : AFunc := { ntmps := 41, results := [.tmp 2], body := (
  .seq (
  .region false r68_0 [1]) (
  .seq (
  .seq (
  .region false r68_1 [1, 11]) (
  .cond (.t 11) (
    .seq (
    .region false r68_2 [2]) (
    .ret)) (
    .skip))) (
  .seq (
  .seq (
  .region false r68_3 [1, 14]) (
  .cond (.t 14) (
    .seq (
    .region false r68_4 [2]) (
    .ret)) (
    .skip))) (
  .seq (
  .region false r68_5 [2]) (
  .ret))))) }
theorem c68 : cfunc Tryd.prog (kof k68) Tryd.f68 = some f68 := by kernel_rfl

/-- exitwave/exitwaveref1.Plus -/
abbrev r69_0 : List AOper := [
  ⟨some 2, .mv (.c (.bool false)), none, []⟩]
abbrev r69_1 : List AOper := [
  ⟨some 3, .mv (.t 0), none, []⟩,
  ⟨some 4, .ext 0 [(.t 3)], none, [0]⟩,
  ⟨some 5, .bin .eql (.t 4) (.c (.int .u64 0)), none, [1]⟩,
  ⟨some 2, .mv (.t 5), none, [2, 1, 0, 1, 2]⟩]
def k69 : List (List Nat) := [[0], [2]]
def f69 : AFunc := { ntmps := 6, results := [.tmp 2], body := (
  .seq (
  .region false r69_0 [0]) (
  .seq (
  .region false r69_1 [2]) (
  .ret))) }
theorem c69 : cfunc Tryd.prog (kof k69) Tryd.f69 = some f69 := by kernel_rfl

/-- internal/stringslite.IndexByte -/
abbrev r70_0 : List AOper := [
  ⟨some 4, .mv (.c (.int .i64 0)), none, []⟩]
abbrev r70_1 : List AOper := [
  ⟨some 5, .mv (.t 0), none, []⟩,
  ⟨some 6, .mv (.t 1), none, []⟩,
  ⟨some 7, .ext 2 [(.t 5), (.t 6)], none, [0, 1]⟩,
  ⟨some 4, .mv (.t 7), none, [2, 2, 0, 1, 2]⟩]
def k70 : List (List Nat) := [[0, 1], [4]]
def f70 : AFunc := { ntmps := 8, results := [.tmp 4], body := (
  .seq (
  .region false r70_0 [0, 1]) (
  .seq (
  .region false r70_1 [4]) (
  .ret))) }
theorem c70 : cfunc Tryd.prog (kof k70) Tryd.f70 = some f70 := by kernel_rfl

/-- math.IsNaN -/
abbrev r71_0 : List AOper := [
  ⟨some 2, .mv (.c (.bool false)), none, []⟩]
abbrev r71_1 : List AOper := [
  ⟨some 3, .mv (.t 0), none, []⟩,
  ⟨some 4, .mv (.t 0), none, []⟩,
  ⟨some 5, .bin .neq (.t 3) (.t 4), none, [0, 1]⟩,
  ⟨some 2, .mv (.t 5), none, [2, 0, 1, 2]⟩]
def k71 : List (List Nat) := [[0], [2]]
def f71 : AFunc := { ntmps := 6, results := [.tmp 2], body := (
  .seq (
  .region false r71_0 [0]) (
  .seq (
  .region false r71_1 [2]) (
  .ret))) }
theorem c71 : cfunc Tryd.prog (kof k71) Tryd.f71 = some f71 := by kernel_rfl

/-- math.IsInf -/
abbrev r72_0 : List AOper := [
  ⟨some 4, .mv (.c (.bool false)), none, []⟩]
abbrev r72_1 : List AOper := [
  ⟨some 5, .mv (.t 1), none, []⟩,
  ⟨some 6, .bin .eql (.t 5) (.c (.int .i64 0)), none, [0]⟩]
abbrev r72_2 : List AOper := [
  ⟨some 7, .mv (.t 0), none, []⟩,
  ⟨some 8, .callF 75 [(.t 7)], none, [0]⟩,
  ⟨some 0, .mv (.t 8), none, [1, 1, 0, 1]⟩]
abbrev r72_3 : List AOper := [
  ⟨some 9, .mv (.t 1), none, []⟩,
  ⟨some 10, .bin .lss (.t 9) (.c (.int .i64 0)), none, [0]⟩]
abbrev r72_4 : List AOper := [
  ⟨some 11, .mv (.t 0), none, []⟩,
  ⟨some 12, .un .neg (.t 11), none, [0]⟩,
  ⟨some 0, .mv (.t 12), none, [1, 0, 1]⟩]
abbrev r72_5 : List AOper := [
  ⟨some 13, .mv (.t 0), none, []⟩,
  ⟨some 14, .bin .gtr (.t 13) (.c (.flt .f64 9218868437227405311)), none, [0]⟩,
  ⟨some 4, .mv (.t 14), none, [1, 0, 1]⟩]
def k72 : List (List Nat) := [[0, 1], [0, 1, 6], [0], [0, 10], [0], [4]]
def f72 : AFunc := { ntmps := 15, results := [.tmp 4], body := (
  .seq (
  .region false r72_0 [0, 1]) (
  .seq (
  .seq (
  .region false r72_1 [0, 1, 6]) (
  .cond (.t 6) (
    .region false r72_2 [0]) (
    .seq (
    .region false r72_3 [0, 10]) (
    .cond (.t 10) (
      .region false r72_4 [0]) (
      .skip))))) (
  .seq (
  .region false r72_5 [4]) (
  .ret)))) }
theorem c72 : cfunc Tryd.prog (kof k72) Tryd.f72 = some f72 := by kernel_rfl

/-- unicode.isExcludingLatin -/
abbrev r73_0 : List AOper := [
  ⟨some 4, .mv (.c (.bool false)), none, []⟩]
abbrev r73_1 : List AOper := [
  ⟨some 8, .mv (.t 0), none, []⟩,
  ⟨some 9, .nilchk (.t 8), none, [0]⟩,
  ⟨some 10, .faddr 0 (.t 9), none, [1]⟩,
  ⟨some 11, .load none (.t 10), none, [2]⟩,
  ⟨some 5, .mv (.t 11), none, [3, 0, 1, 2, 3]⟩]
abbrev r73_2 : List AOper := [
  ⟨some 12, .mv (.t 0), none, []⟩,
  ⟨some 13, .nilchk (.t 12), none, [0]⟩,
  ⟨some 14, .faddr 2 (.t 13), none, [1]⟩,
  ⟨some 15, .load none (.t 14), none, [2]⟩,
  ⟨some 6, .mv (.t 15), none, [3, 0, 1, 2, 3]⟩]
abbrev r73_3 : List AOper := [
  ⟨some 16, .mv (.t 5), none, []⟩,
  ⟨some 17, .len 1 (.t 16), none, [0]⟩,
  ⟨some 18, .mv (.t 6), none, []⟩,
  ⟨some 19, .bin .gtr (.t 17) (.t 18), none, [1, 2]⟩,
  ⟨some 20, .mv (.t 19), none, [3]⟩,
  ⟨some 21, .mv (.t 1), some (20, true), [4]⟩,
  ⟨some 22, .conv (.toInt .u32) (.t 21), some (20, true), [5, 4]⟩,
  ⟨some 23, .mv (.t 5), some (20, true), [4]⟩,
  ⟨some 24, .mv (.t 5), some (20, true), [4]⟩,
  ⟨some 25, .len 1 (.t 24), some (20, true), [8, 4]⟩,
  ⟨some 26, .bin .sub (.t 25) (.c (.int .i64 1)), some (20, true), [9, 4]⟩,
  ⟨some 27, .iaddr 3 (.t 23) (.t 26), some (20, true), [7, 10, 4]⟩,
  ⟨some 28, .faddr 1 (.t 27), some (20, true), [11, 4]⟩,
  ⟨some 29, .load none (.t 28), some (20, true), [12, 4]⟩,
  ⟨some 30, .conv (.toInt .u32) (.t 29), some (20, true), [13, 4]⟩,
  ⟨some 31, .bin .leq (.t 22) (.t 30), some (20, true), [6, 14, 4]⟩,
  ⟨some 32, .pick (.t 20) (.t 31) (.c (.bool false)), none, [4, 15]⟩]
abbrev r73_4 : List AOper := [
  ⟨some 33, .mv (.t 5), none, []⟩,
  ⟨some 34, .mv (.t 6), none, []⟩,
  ⟨some 35, .slc 99 3 (.t 33) (some (.t 34)) none none, none, [0, 1]⟩,
  ⟨some 36, .mv (.t 1), none, []⟩,
  ⟨some 37, .conv (.toInt .u16) (.t 36), none, [3]⟩,
  ⟨some 38, .callF 76 [(.t 35), (.t 37)], none, [2, 4]⟩,
  ⟨some 4, .mv (.t 38), none, [5, 5, 0, 1, 2, 3, 4, 5]⟩]
abbrev r73_5 : List AOper := [
  ⟨some 39, .mv (.t 0), none, []⟩,
  ⟨some 40, .nilchk (.t 39), none, [0]⟩,
  ⟨some 41, .faddr 1 (.t 40), none, [1]⟩,
  ⟨some 42, .load none (.t 41), none, [2]⟩,
  ⟨some 7, .mv (.t 42), none, [3, 0, 1, 2, 3]⟩]
abbrev r73_6 : List AOper := [
  ⟨some 43, .mv (.t 7), none, []⟩,
  ⟨some 44, .len 1 (.t 43), none, [0]⟩,
  ⟨some 45, .bin .gtr (.t 44) (.c (.int .i64 0)), none, [1]⟩,
  ⟨some 46, .mv (.t 45), none, [2]⟩,
  ⟨some 47, .mv (.t 1), some (46, true), [3]⟩,
  ⟨some 48, .mv (.t 7), some (46, true), [3]⟩,
  ⟨some 49, .iaddr 3 (.t 48) (.c (.int .i64 0)), some (46, true), [5, 3]⟩,
  ⟨some 50, .faddr 0 (.t 49), some (46, true), [6, 3]⟩,
  ⟨some 51, .load none (.t 50), some (46, true), [7, 3]⟩,
  ⟨some 52, .conv (.toInt .i32) (.t 51), some (46, true), [8, 3]⟩,
  ⟨some 53, .bin .geq (.t 47) (.t 52), some (46, true), [4, 9, 3]⟩,
  ⟨some 54, .pick (.t 46) (.t 53) (.c (.bool false)), none, [3, 10]⟩]
abbrev r73_7 : List AOper := [
  ⟨some 55, .mv (.t 7), none, []⟩,
  ⟨some 56, .mv (.t 1), none, []⟩,
  ⟨some 57, .conv (.toInt .u32) (.t 56), none, [1]⟩,
  ⟨some 58, .callF 77 [(.t 55), (.t 57)], none, [0, 2]⟩,
  ⟨some 4, .mv (.t 58), none, [3, 3, 0, 1, 2, 3]⟩]
abbrev r73_8 : List AOper := [
  ⟨some 4, .mv (.c (.bool false)), none, []⟩]
def k73 : List (List Nat) := [[0, 1], [0, 1, 5], [0, 1, 5, 6], [0, 1, 5, 6, 32], [4], [1, 7], [1, 7, 54], [4], [4]]
def f73 : AFunc := { ntmps := 59, results := [.tmp 4], body := (
  .seq (
  .region false r73_0 [0, 1]) (
  .seq (
  .region false r73_1 [0, 1, 5]) (
  .seq (
  .seq (
  .region false r73_2 [0, 1, 5, 6]) (
  .seq (
  .region false r73_3 [0, 1, 5, 6, 32]) (
  .cond (.t 32) (
    .seq (
    .region false r73_4 [4]) (
    .ret)) (
    .skip)))) (
  .seq (
  .region false r73_5 [1, 7]) (
  .seq (
  .seq (
  .region false r73_6 [1, 7, 54]) (
  .cond (.t 54) (
    .seq (
    .region false r73_7 [4]) (
    .ret)) (
    .skip))) (
  .seq (
  .region false r73_8 [4]) (
  .ret))))))) }
theorem c73 : cfunc Tryd.prog (kof k73) Tryd.f73 = some f73 := by kernel_rfl

/-- math.Abs -/
abbrev r75_0 : List AOper := [
  ⟨some 2, .mv (.c (.flt .f64 0)), none, []⟩]
abbrev r75_1 : List AOper := [
  ⟨some 3, .mv (.t 0), none, []⟩,
  ⟨some 4, .ext 0 [(.t 3)], none, [0]⟩,
  ⟨some 5, .bin .andNot (.t 4) (.c (.int .u64 9223372036854775808)), none, [1]⟩,
  ⟨some 6, .ext 1 [(.t 5)], none, [2, 1]⟩,
  ⟨some 2, .mv (.t 6), none, [3, 3, 0, 1, 2, 3]⟩]
def k75 : List (List Nat) := [[0], [2]]
def f75 : AFunc := { ntmps := 7, results := [.tmp 2], body := (
  .seq (
  .region false r75_0 [0]) (
  .seq (
  .region false r75_1 [2]) (
  .ret))) }
theorem c75 : cfunc Tryd.prog (kof k75) Tryd.f75 = some f75 := by kernel_rfl

/-- unicode.is16 -/
abbrev r76_0 : List AOper := [
  ⟨some 4, .mv (.c (.bool false)), none, []⟩]
abbrev r76_1 : List AOper := [
  ⟨some 11, .mv (.t 0), none, []⟩,
  ⟨some 12, .len 1 (.t 11), none, [0]⟩,
  ⟨some 13, .bin .leq (.t 12) (.c (.int .i64 18)), none, [1]⟩,
  ⟨some 14, .mv (.t 13), none, [2]⟩,
  ⟨some 15, .mv (.t 1), some (14, false), [3]⟩,
  ⟨some 16, .bin .leq (.t 15) (.c (.int .u16 255)), some (14, false), [4, 3]⟩,
  ⟨some 17, .pick (.t 14) (.c (.bool true)) (.t 16), none, [3, 5]⟩]
abbrev r76_2 : List AOper := [
  ⟨some 18, .mv (.t 0), none, []⟩,
  ⟨some 19, .len 1 (.t 18), none, [0]⟩,
  ⟨some 20, .mv (.c (.int .i64 0)), none, []⟩]
abbrev r76_3 : List AOper := [
  ⟨some 21, .bin .lss (.t 20) (.t 19), none, []⟩]
abbrev r76_4 : List AOper := [
  ⟨some 22, .mv (.t 20), none, []⟩,
  ⟨some 5, .mv (.t 22), none, [0, 0]⟩]
abbrev r76_5 : List AOper := [
  ⟨some 23, .mv (.t 0), none, []⟩,
  ⟨some 24, .mv (.t 5), none, []⟩,
  ⟨some 25, .iaddr 3 (.t 23) (.t 24), none, [0, 1]⟩,
  ⟨some 6, .mv (.t 25), none, [2, 0, 1, 2]⟩]
abbrev r76_6 : List AOper := [
  ⟨some 26, .mv (.t 1), none, []⟩,
  ⟨some 27, .mv (.t 6), none, []⟩,
  ⟨some 28, .nilchk (.t 27), none, [1]⟩,
  ⟨some 29, .faddr 0 (.t 28), none, [2]⟩,
  ⟨some 30, .load none (.t 29), none, [3]⟩,
  ⟨some 31, .bin .lss (.t 26) (.t 30), none, [0, 4]⟩]
abbrev r76_7 : List AOper := [
  ⟨some 4, .mv (.c (.bool false)), none, []⟩]
abbrev r76_8 : List AOper := [
  ⟨some 32, .mv (.t 1), none, []⟩,
  ⟨some 33, .mv (.t 6), none, []⟩,
  ⟨some 34, .nilchk (.t 33), none, [1]⟩,
  ⟨some 35, .faddr 1 (.t 34), none, [2]⟩,
  ⟨some 36, .load none (.t 35), none, [3]⟩,
  ⟨some 37, .bin .leq (.t 32) (.t 36), none, [0, 4]⟩]
abbrev r76_9 : List AOper := [
  ⟨some 38, .mv (.t 6), none, []⟩,
  ⟨some 39, .nilchk (.t 38), none, [0]⟩,
  ⟨some 40, .faddr 2 (.t 39), none, [1]⟩,
  ⟨some 41, .load none (.t 40), none, [2]⟩,
  ⟨some 42, .bin .eql (.t 41) (.c (.int .u16 1)), none, [3]⟩,
  ⟨some 43, .mv (.t 42), none, [4]⟩,
  ⟨some 44, .mv (.t 1), some (43, false), [5]⟩,
  ⟨some 45, .mv (.t 6), some (43, false), [5]⟩,
  ⟨some 46, .nilchk (.t 45), some (43, false), [7, 5]⟩,
  ⟨some 47, .faddr 0 (.t 46), some (43, false), [8, 5]⟩,
  ⟨some 48, .load none (.t 47), some (43, false), [9, 5]⟩,
  ⟨some 49, .bin .sub (.t 44) (.t 48), some (43, false), [6, 10, 5]⟩,
  ⟨some 50, .mv (.t 6), some (43, false), [5]⟩,
  ⟨some 51, .nilchk (.t 50), some (43, false), [12, 5]⟩,
  ⟨some 52, .faddr 2 (.t 51), some (43, false), [13, 5]⟩,
  ⟨some 53, .load none (.t 52), some (43, false), [14, 5]⟩,
  ⟨some 54, .bin .rem (.t 49) (.t 53), some (43, false), [11, 15, 5]⟩,
  ⟨some 55, .bin .eql (.t 54) (.c (.int .u16 0)), some (43, false), [16, 5]⟩,
  ⟨some 56, .pick (.t 43) (.c (.bool true)) (.t 55), none, [5, 17]⟩,
  ⟨some 4, .mv (.t 56), none, [18, 5, 0, 1, 2, 3, 4, 5, 6, 7, 8, 9, 10, 11, 12, 13, 14, 15, 16, 17, 18]⟩]
abbrev r76_10 : List AOper := [
  ⟨some 57, .bin .add (.t 20) (.c (.int .i64 1)), none, []⟩,
  ⟨some 20, .mv (.t 57), none, [0]⟩]
def l76_0 : ACode :=
  .seq (
  .region false r76_3 [0, 1, 19, 20, 21]) (
  .seq (
  .cond (.t 21) (
    .skip) (
    .exit 0)) (
  .seq (
  .block 1 (
    .seq (
    .region false r76_4 [0, 1, 5, 19, 20]) (
    .seq (
    .region false r76_5 [0, 1, 6, 19, 20]) (
    .seq (
    .seq (
    .region false r76_6 [0, 1, 6, 19, 20, 31]) (
    .cond (.t 31) (
      .seq (
      .region false r76_7 [4]) (
      .ret)) (
      .skip))) (
    .seq (
    .region false r76_8 [0, 1, 6, 19, 20, 37]) (
    .cond (.t 37) (
      .seq (
      .region true r76_9 [4]) (
      .ret)) (
      .skip))))))) (
  .region false r76_10 [0, 1, 19, 20])))
abbrev r76_11 : List AOper := [
  ⟨some 4, .mv (.c (.bool false)), none, []⟩]
abbrev r76_12 : List AOper := [
  ⟨some 7, .mv (.c (.int .i64 0)), none, []⟩]
abbrev r76_13 : List AOper := [
  ⟨some 58, .mv (.t 0), none, []⟩,
  ⟨some 59, .len 1 (.t 58), none, [0]⟩,
  ⟨some 8, .mv (.t 59), none, [1, 0, 1]⟩]
abbrev r76_14 : List AOper := [
  ⟨some 60, .mv (.t 7), none, []⟩,
  ⟨some 61, .mv (.t 8), none, []⟩,
  ⟨some 62, .bin .lss (.t 60) (.t 61), none, [0, 1]⟩]
abbrev r76_15 : List AOper := [
  ⟨some 63, .mv (.t 7), none, []⟩,
  ⟨some 64, .mv (.t 8), none, []⟩,
  ⟨some 65, .bin .add (.t 63) (.t 64), none, [0, 1]⟩,
  ⟨some 66, .conv (.toInt .u64) (.t 65), none, [2]⟩,
  ⟨some 67, .bin .shr (.t 66) (.c (.int .u64 1)), none, [3]⟩,
  ⟨some 68, .conv (.toInt .i64) (.t 67), none, [4]⟩,
  ⟨some 9, .mv (.t 68), none, [5, 0, 1, 2, 3, 4, 5]⟩]
abbrev r76_16 : List AOper := [
  ⟨some 69, .mv (.t 0), none, []⟩,
  ⟨some 70, .mv (.t 9), none, []⟩,
  ⟨some 71, .iaddr 3 (.t 69) (.t 70), none, [0, 1]⟩,
  ⟨some 10, .mv (.t 71), none, [2, 0, 1, 2]⟩]
abbrev r76_17 : List AOper := [
  ⟨some 72, .mv (.t 10), none, []⟩,
  ⟨some 73, .nilchk (.t 72), none, [0]⟩,
  ⟨some 74, .faddr 0 (.t 73), none, [1]⟩,
  ⟨some 75, .load none (.t 74), none, [2]⟩,
  ⟨some 76, .mv (.t 1), none, []⟩,
  ⟨some 77, .bin .leq (.t 75) (.t 76), none, [3, 4]⟩,
  ⟨some 78, .mv (.t 77), none, [5]⟩,
  ⟨some 79, .mv (.t 1), some (78, true), [6]⟩,
  ⟨some 80, .mv (.t 10), some (78, true), [6]⟩,
  ⟨some 81, .nilchk (.t 80), some (78, true), [8, 6]⟩,
  ⟨some 82, .faddr 1 (.t 81), some (78, true), [9, 6]⟩,
  ⟨some 83, .load none (.t 82), some (78, true), [10, 6]⟩,
  ⟨some 84, .bin .leq (.t 79) (.t 83), some (78, true), [7, 11, 6]⟩,
  ⟨some 85, .pick (.t 78) (.t 84) (.c (.bool false)), none, [6, 12]⟩]
abbrev r76_18 : List AOper := [
  ⟨some 86, .mv (.t 10), none, []⟩,
  ⟨some 87, .nilchk (.t 86), none, [0]⟩,
  ⟨some 88, .faddr 2 (.t 87), none, [1]⟩,
  ⟨some 89, .load none (.t 88), none, [2]⟩,
  ⟨some 90, .bin .eql (.t 89) (.c (.int .u16 1)), none, [3]⟩,
  ⟨some 91, .mv (.t 90), none, [4]⟩,
  ⟨some 92, .mv (.t 1), some (91, false), [5]⟩,
  ⟨some 93, .mv (.t 10), some (91, false), [5]⟩,
  ⟨some 94, .nilchk (.t 93), some (91, false), [7, 5]⟩,
  ⟨some 95, .faddr 0 (.t 94), some (91, false), [8, 5]⟩,
  ⟨some 96, .load none (.t 95), some (91, false), [9, 5]⟩,
  ⟨some 97, .bin .sub (.t 92) (.t 96), some (91, false), [6, 10, 5]⟩,
  ⟨some 98, .mv (.t 10), some (91, false), [5]⟩,
  ⟨some 99, .nilchk (.t 98), some (91, false), [12, 5]⟩,
  ⟨some 100, .faddr 2 (.t 99), some (91, false), [13, 5]⟩,
  ⟨some 101, .load none (.t 100), some (91, false), [14, 5]⟩,
  ⟨some 102, .bin .rem (.t 97) (.t 101), some (91, false), [11, 15, 5]⟩,
  ⟨some 103, .bin .eql (.t 102) (.c (.int .u16 0)), some (91, false), [16, 5]⟩,
  ⟨some 104, .pick (.t 91) (.c (.bool true)) (.t 103), none, [5, 17]⟩,
  ⟨some 4, .mv (.t 104), none, [18, 5, 0, 1, 2, 3, 4, 5, 6, 7, 8, 9, 10, 11, 12, 13, 14, 15, 16, 17, 18]⟩]
abbrev r76_19 : List AOper := [
  ⟨some 105, .mv (.t 1), none, []⟩,
  ⟨some 106, .mv (.t 10), none, []⟩,
  ⟨some 107, .nilchk (.t 106), none, [1]⟩,
  ⟨some 108, .faddr 0 (.t 107), none, [2]⟩,
  ⟨some 109, .load none (.t 108), none, [3]⟩,
  ⟨some 110, .bin .lss (.t 105) (.t 109), none, [0, 4]⟩]
abbrev r76_20 : List AOper := [
  ⟨some 111, .mv (.t 9), none, []⟩,
  ⟨some 8, .mv (.t 111), none, [0, 0]⟩]
abbrev r76_21 : List AOper := [
  ⟨some 112, .mv (.t 9), none, []⟩,
  ⟨some 113, .bin .add (.t 112) (.c (.int .i64 1)), none, [0]⟩,
  ⟨some 7, .mv (.t 113), none, [1, 0, 1]⟩]
def l76_1 : ACode :=
  .seq (
  .seq (
  .region false r76_14 [0, 1, 7, 8, 62]) (
  .cond (.t 62) (
    .skip) (
    .exit 2))) (
  .block 3 (
    .seq (
    .region false r76_15 [0, 1, 7, 8, 9]) (
    .seq (
    .region false r76_16 [0, 1, 7, 8, 9, 10]) (
    .seq (
    .seq (
    .region false r76_17 [0, 1, 7, 8, 9, 10, 85]) (
    .cond (.t 85) (
      .seq (
      .region true r76_18 [4]) (
      .ret)) (
      .skip))) (
    .seq (
    .region false r76_19 [0, 1, 7, 8, 9, 110]) (
    .cond (.t 110) (
      .region false r76_20 [0, 1, 7, 8]) (
      .region false r76_21 [0, 1, 7, 8])))))))
abbrev r76_22 : List AOper := [
  ⟨some 4, .mv (.c (.bool false)), none, []⟩]
def m76_9 : List Nat := [0, 1, 3, 7, 15, 31, 63, 63, 191, 447, 959, 2047, 63, 4159, 12351, 28735, 65535, 131071, 262143, 524287]
theorem d76_9 : okDraw r76_9 m76_9 = true := by kernel_rfl
def m76_18 : List Nat := [0, 1, 3, 7, 15, 31, 63, 63, 191, 447, 959, 2047, 63, 4159, 12351, 28735, 65535, 131071, 262143, 524287]
theorem d76_18 : okDraw r76_18 m76_18 = true := by kernel_rfl
def k76 : List (List Nat) := [[0, 1], [0, 1, 17], [0, 1, 19, 20], [0, 1, 19, 20, 21], [0, 1, 5, 19, 20], [0, 1, 6, 19, 20], [0, 1, 6, 19, 20, 31], [4], [0, 1, 6, 19, 20, 37], [4], [0, 1, 19, 20], [4], [0, 1, 7], [0, 1, 7, 8], [0, 1, 7, 8, 62], [0, 1, 7, 8, 9], [0, 1, 7, 8, 9, 10], [0, 1, 7, 8, 9, 10, 85], [4], [0, 1, 7, 8, 9, 110], [0, 1, 7, 8], [0, 1, 7, 8], [4]]
def f76 : AFunc := { ntmps := 114, results := [.tmp 4], body := (
  .seq (
  .region false r76_0 [0, 1]) (
  .seq (
  .seq (
  .region false r76_1 [0, 1, 17]) (
  .cond (.t 17) (
    .seq (
    .seq (
    .region false r76_2 [0, 1, 19, 20]) (
    .block 0 (
      .loop l76_0))) (
    .seq (
    .region false r76_11 [4]) (
    .ret))) (
    .skip))) (
  .seq (
  .region false r76_12 [0, 1, 7]) (
  .seq (
  .region false r76_13 [0, 1, 7, 8]) (
  .seq (
  .block 2 (
    .loop l76_1)) (
  .seq (
  .region false r76_22 [4]) (
  .ret))))))) }
theorem c76 : cfunc Tryd.prog (kof k76) Tryd.f76 = some f76 := by kernel_rfl

/-- unicode.is32 -/
abbrev r77_0 : List AOper := [
  ⟨some 4, .mv (.c (.bool false)), none, []⟩]
abbrev r77_1 : List AOper := [
  ⟨some 11, .mv (.t 0), none, []⟩,
  ⟨some 12, .len 1 (.t 11), none, [0]⟩,
  ⟨some 13, .bin .leq (.t 12) (.c (.int .i64 18)), none, [1]⟩]
abbrev r77_2 : List AOper := [
  ⟨some 14, .mv (.t 0), none, []⟩,
  ⟨some 15, .len 1 (.t 14), none, [0]⟩,
  ⟨some 16, .mv (.c (.int .i64 0)), none, []⟩]
abbrev r77_3 : List AOper := [
  ⟨some 17, .bin .lss (.t 16) (.t 15), none, []⟩]
abbrev r77_4 : List AOper := [
  ⟨some 18, .mv (.t 16), none, []⟩,
  ⟨some 5, .mv (.t 18), none, [0, 0]⟩]
abbrev r77_5 : List AOper := [
  ⟨some 19, .mv (.t 0), none, []⟩,
  ⟨some 20, .mv (.t 5), none, []⟩,
  ⟨some 21, .iaddr 3 (.t 19) (.t 20), none, [0, 1]⟩,
  ⟨some 6, .mv (.t 21), none, [2, 0, 1, 2]⟩]
abbrev r77_6 : List AOper := [
  ⟨some 22, .mv (.t 1), none, []⟩,
  ⟨some 23, .mv (.t 6), none, []⟩,
  ⟨some 24, .nilchk (.t 23), none, [1]⟩,
  ⟨some 25, .faddr 0 (.t 24), none, [2]⟩,
  ⟨some 26, .load none (.t 25), none, [3]⟩,
  ⟨some 27, .bin .lss (.t 22) (.t 26), none, [0, 4]⟩]
abbrev r77_7 : List AOper := [
  ⟨some 4, .mv (.c (.bool false)), none, []⟩]
abbrev r77_8 : List AOper := [
  ⟨some 28, .mv (.t 1), none, []⟩,
  ⟨some 29, .mv (.t 6), none, []⟩,
  ⟨some 30, .nilchk (.t 29), none, [1]⟩,
  ⟨some 31, .faddr 1 (.t 30), none, [2]⟩,
  ⟨some 32, .load none (.t 31), none, [3]⟩,
  ⟨some 33, .bin .leq (.t 28) (.t 32), none, [0, 4]⟩]
abbrev r77_9 : List AOper := [
  ⟨some 34, .mv (.t 6), none, []⟩,
  ⟨some 35, .nilchk (.t 34), none, [0]⟩,
  ⟨some 36, .faddr 2 (.t 35), none, [1]⟩,
  ⟨some 37, .load none (.t 36), none, [2]⟩,
  ⟨some 38, .bin .eql (.t 37) (.c (.int .u32 1)), none, [3]⟩,
  ⟨some 39, .mv (.t 38), none, [4]⟩,
  ⟨some 40, .mv (.t 1), some (39, false), [5]⟩,
  ⟨some 41, .mv (.t 6), some (39, false), [5]⟩,
  ⟨some 42, .nilchk (.t 41), some (39, false), [7, 5]⟩,
  ⟨some 43, .faddr 0 (.t 42), some (39, false), [8, 5]⟩,
  ⟨some 44, .load none (.t 43), some (39, false), [9, 5]⟩,
  ⟨some 45, .bin .sub (.t 40) (.t 44), some (39, false), [6, 10, 5]⟩,
  ⟨some 46, .mv (.t 6), some (39, false), [5]⟩,
  ⟨some 47, .nilchk (.t 46), some (39, false), [12, 5]⟩,
  ⟨some 48, .faddr 2 (.t 47), some (39, false), [13, 5]⟩,
  ⟨some 49, .load none (.t 48), some (39, false), [14, 5]⟩,
  ⟨some 50, .bin .rem (.t 45) (.t 49), some (39, false), [11, 15, 5]⟩,
  ⟨some 51, .bin .eql (.t 50) (.c (.int .u32 0)), some (39, false), [16, 5]⟩,
  ⟨some 52, .pick (.t 39) (.c (.bool true)) (.t 51), none, [5, 17]⟩,
  ⟨some 4, .mv (.t 52), none, [18, 5, 0, 1, 2, 3, 4, 5, 6, 7, 8, 9, 10, 11, 12, 13, 14, 15, 16, 17, 18]⟩]
abbrev r77_10 : List AOper := [
  ⟨some 53, .bin .add (.t 16) (.c (.int .i64 1)), none, []⟩,
  ⟨some 16, .mv (.t 53), none, [0]⟩]
def l77_0 : ACode :=
  .seq (
  .region false r77_3 [0, 1, 15, 16, 17]) (
  .seq (
  .cond (.t 17) (
    .skip) (
    .exit 0)) (
  .seq (
  .block 1 (
    .seq (
    .region false r77_4 [0, 1, 5, 15, 16]) (
    .seq (
    .region false r77_5 [0, 1, 6, 15, 16]) (
    .seq (
    .seq (
    .region false r77_6 [0, 1, 6, 15, 16, 27]) (
    .cond (.t 27) (
      .seq (
      .region false r77_7 [4]) (
      .ret)) (
      .skip))) (
    .seq (
    .region false r77_8 [0, 1, 6, 15, 16, 33]) (
    .cond (.t 33) (
      .seq (
      .region true r77_9 [4]) (
      .ret)) (
      .skip))))))) (
  .region false r77_10 [0, 1, 15, 16])))
abbrev r77_11 : List AOper := [
  ⟨some 4, .mv (.c (.bool false)), none, []⟩]
abbrev r77_12 : List AOper := [
  ⟨some 7, .mv (.c (.int .i64 0)), none, []⟩]
abbrev r77_13 : List AOper := [
  ⟨some 54, .mv (.t 0), none, []⟩,
  ⟨some 55, .len 1 (.t 54), none, [0]⟩,
  ⟨some 8, .mv (.t 55), none, [1, 0, 1]⟩]
abbrev r77_14 : List AOper := [
  ⟨some 56, .mv (.t 7), none, []⟩,
  ⟨some 57, .mv (.t 8), none, []⟩,
  ⟨some 58, .bin .lss (.t 56) (.t 57), none, [0, 1]⟩]
abbrev r77_15 : List AOper := [
  ⟨some 59, .mv (.t 7), none, []⟩,
  ⟨some 60, .mv (.t 8), none, []⟩,
  ⟨some 61, .bin .add (.t 59) (.t 60), none, [0, 1]⟩,
  ⟨some 62, .conv (.toInt .u64) (.t 61), none, [2]⟩,
  ⟨some 63, .bin .shr (.t 62) (.c (.int .u64 1)), none, [3]⟩,
  ⟨some 64, .conv (.toInt .i64) (.t 63), none, [4]⟩,
  ⟨some 9, .mv (.t 64), none, [5, 0, 1, 2, 3, 4, 5]⟩]
abbrev r77_16 : List AOper := [
  ⟨some 65, .mv (.t 0), none, []⟩,
  ⟨some 66, .mv (.t 9), none, []⟩,
  ⟨some 67, .iaddr 3 (.t 65) (.t 66), none, [0, 1]⟩,
  ⟨some 68, .load (some 3) (.t 67), none, [2]⟩,
  ⟨some 10, .alloc 102 (.agg [.int .u32 0, .int .u32 0, .int .u32 0]), none, []⟩,
  ⟨none, .store 3 (.t 10) (.t 68), none, [4, 3, 0, 1, 2, 3, 4]⟩]
abbrev r77_17 : List AOper := [
  ⟨some 69, .faddr 0 (.t 10), none, []⟩,
  ⟨some 70, .load none (.t 69), none, [0]⟩,
  ⟨some 71, .mv (.t 1), none, []⟩,
  ⟨some 72, .bin .leq (.t 70) (.t 71), none, [1, 2]⟩,
  ⟨some 73, .mv (.t 72), none, [3]⟩,
  ⟨some 74, .mv (.t 1), some (73, true), [4]⟩,
  ⟨some 75, .faddr 1 (.t 10), some (73, true), [4]⟩,
  ⟨some 76, .load none (.t 75), some (73, true), [6, 4]⟩,
  ⟨some 77, .bin .leq (.t 74) (.t 76), some (73, true), [5, 7, 4]⟩,
  ⟨some 78, .pick (.t 73) (.t 77) (.c (.bool false)), none, [4, 8]⟩]
abbrev r77_18 : List AOper := [
  ⟨some 79, .faddr 2 (.t 10), none, []⟩,
  ⟨some 80, .load none (.t 79), none, [0]⟩,
  ⟨some 81, .bin .eql (.t 80) (.c (.int .u32 1)), none, [1]⟩,
  ⟨some 82, .mv (.t 81), none, [2]⟩,
  ⟨some 83, .mv (.t 1), some (82, false), [3]⟩,
  ⟨some 84, .faddr 0 (.t 10), some (82, false), [3]⟩,
  ⟨some 85, .load none (.t 84), some (82, false), [5, 3]⟩,
  ⟨some 86, .bin .sub (.t 83) (.t 85), some (82, false), [4, 6, 3]⟩,
  ⟨some 87, .faddr 2 (.t 10), some (82, false), [3]⟩,
  ⟨some 88, .load none (.t 87), some (82, false), [8, 3]⟩,
  ⟨some 89, .bin .rem (.t 86) (.t 88), some (82, false), [7, 9, 3]⟩,
  ⟨some 90, .bin .eql (.t 89) (.c (.int .u32 0)), some (82, false), [10, 3]⟩,
  ⟨some 91, .pick (.t 82) (.c (.bool true)) (.t 90), none, [3, 11]⟩,
  ⟨some 4, .mv (.t 91), none, [12, 3, 0, 1, 2, 3, 4, 5, 6, 7, 8, 9, 10, 11, 12]⟩]
abbrev r77_19 : List AOper := [
  ⟨some 92, .mv (.t 1), none, []⟩,
  ⟨some 93, .faddr 0 (.t 10), none, []⟩,
  ⟨some 94, .load none (.t 93), none, [1]⟩,
  ⟨some 95, .bin .lss (.t 92) (.t 94), none, [0, 2]⟩]
abbrev r77_20 : List AOper := [
  ⟨some 96, .mv (.t 9), none, []⟩,
  ⟨some 8, .mv (.t 96), none, [0, 0]⟩]
abbrev r77_21 : List AOper := [
  ⟨some 97, .mv (.t 9), none, []⟩,
  ⟨some 98, .bin .add (.t 97) (.c (.int .i64 1)), none, [0]⟩,
  ⟨some 7, .mv (.t 98), none, [1, 0, 1]⟩]
def l77_1 : ACode :=
  .seq (
  .seq (
  .region false r77_14 [0, 1, 7, 8, 58]) (
  .cond (.t 58) (
    .skip) (
    .exit 2))) (
  .block 3 (
    .seq (
    .region false r77_15 [0, 1, 7, 8, 9]) (
    .seq (
    .region false r77_16 [0, 1, 7, 8, 9, 10]) (
    .seq (
    .seq (
    .region false r77_17 [0, 1, 7, 8, 9, 10, 78]) (
    .cond (.t 78) (
      .seq (
      .region false r77_18 [4]) (
      .ret)) (
      .skip))) (
    .seq (
    .region false r77_19 [0, 1, 7, 8, 9, 95]) (
    .cond (.t 95) (
      .region false r77_20 [0, 1, 7, 8]) (
      .region false r77_21 [0, 1, 7, 8])))))))
abbrev r77_22 : List AOper := [
  ⟨some 4, .mv (.c (.bool false)), none, []⟩]
def m77_9 : List Nat := [0, 1, 3, 7, 15, 31, 63, 63, 191, 447, 959, 2047, 63, 4159, 12351, 28735, 65535, 131071, 262143, 524287]
theorem d77_9 : okDraw r77_9 m77_9 = true := by kernel_rfl
def k77 : List (List Nat) := [[0, 1], [0, 1, 13], [0, 1, 15, 16], [0, 1, 15, 16, 17], [0, 1, 5, 15, 16], [0, 1, 6, 15, 16], [0, 1, 6, 15, 16, 27], [4], [0, 1, 6, 15, 16, 33], [4], [0, 1, 15, 16], [4], [0, 1, 7], [0, 1, 7, 8], [0, 1, 7, 8, 58], [0, 1, 7, 8, 9], [0, 1, 7, 8, 9, 10], [0, 1, 7, 8, 9, 10, 78], [4], [0, 1, 7, 8, 9, 95], [0, 1, 7, 8], [0, 1, 7, 8], [4]]
def f77 : AFunc := { ntmps := 99, results := [.tmp 4], body := (
  .seq (
  .region false r77_0 [0, 1]) (
  .seq (
  .seq (
  .region false r77_1 [0, 1, 13]) (
  .cond (.t 13) (
    .seq (
    .seq (
    .region false r77_2 [0, 1, 15, 16]) (
    .block 0 (
      .loop l77_0))) (
    .seq (
    .region false r77_11 [4]) (
    .ret))) (
    .skip))) (
  .seq (
  .region false r77_12 [0, 1, 7]) (
  .seq (
  .region false r77_13 [0, 1, 7, 8]) (
  .seq (
  .block 2 (
    .loop l77_1)) (
  .seq (
  .region false r77_22 [4]) (
  .ret))))))) }
theorem c77 : cfunc Tryd.prog (kof k77) Tryd.f77 = some f77 := by kernel_rfl


end Go.Am.Rl
