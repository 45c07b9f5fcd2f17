/- The functions, in the abstract machine's form (written by gen.py). -/
import Derived.Test.YtilfjbbfabcdlaaGreatDoorFnP
import Derived.Test.YtilfjbbfabcdlaaGreatDoorProg
set_option linter.unusedVariables false
namespace Go.Am.Rl
open Go.Proofs
set_option maxRecDepth 20000

/-- exitwave/exitwavelaw9.BifNots -/
abbrev r5_0 : List AOper := [
  ⟨some 1, .box 25 (.t 0), none, []⟩,
  ⟨some 2, .mv (.c (.bool false)), none, []⟩]
abbrev r5_1 : List AOper := [
  ⟨some 10, .callF 7 [], none, []⟩,
  ⟨some 11, .un .not (.t 10), none, [0]⟩]
abbrev r5_2 : List AOper := [
  ⟨some 2, .mv (.c (.bool false)), none, []⟩]
abbrev r5_3 : List AOper := [
  ⟨some 12, .load (some 5) (.t 1), none, []⟩,
  ⟨some 13, .bslice 25 1 [.int .i64 0, .int .i64 0, .flt .f64 0, .str ⟨#[]⟩, .nils] [(0, 5, (.t 12))], none, [0]⟩,
  ⟨some 14, .callF 8 [(.t 13)], none, [1]⟩,
  ⟨some 15, .un .not (.t 14), none, [2]⟩]
abbrev r5_4 : List AOper := [
  ⟨some 2, .mv (.c (.bool true)), none, []⟩]
abbrev r5_5 : List AOper := [
  ⟨some 17, .load (some 5) (.t 1), none, []⟩,
  ⟨some 18, .bslice 25 1 [.int .i64 0, .int .i64 0, .flt .f64 0, .str ⟨#[]⟩, .nils] [(0, 5, (.t 17))], none, [0]⟩,
  ⟨some 19, .callF 12 [(.c (.str ⟨#[110, 111, 116]⟩)), (.t 18)], none, [1]⟩,
  ⟨some 16, .mv (.t 19), none, [2]⟩,
  ⟨some 20, .extract (.t 16) 0, none, [3]⟩,
  ⟨some 21, .extract (.t 16) 1, none, [3]⟩,
  ⟨some 3, .alloc 25 (.agg [.int .i64 0, .int .i64 0, .flt .f64 0, .str ⟨#[]⟩, .nils]), none, []⟩,
  ⟨none, .store 5 (.t 3) (.t 20), none, [6, 4, 2, 0, 1, 2, 3, 4, 6]⟩,
  ⟨some 4, .mv (.t 21), none, [5, 7, 0, 1, 2, 3, 4, 5, 6, 7]⟩]
abbrev r5_6 : List AOper := [
  ⟨some 22, .faddr 0 (.t 1), none, []⟩,
  ⟨some 23, .load none (.t 22), none, [0]⟩,
  ⟨some 24, .bin .eql (.t 23) (.c (.int .i64 3)), none, [1]⟩,
  ⟨some 25, .mv (.t 24), none, [2]⟩,
  ⟨some 26, .faddr 3 (.t 1), some (25, true), [3]⟩,
  ⟨some 27, .load none (.t 26), some (25, true), [4, 3]⟩,
  ⟨some 28, .bin .eql (.t 27) (.c (.str ⟨#[116, 114, 117, 101]⟩)), some (25, true), [5, 3]⟩,
  ⟨some 29, .mv (.t 28), some (25, true), [6, 3, 3]⟩,
  ⟨some 30, .faddr 3 (.t 1), some (29, false), [7]⟩,
  ⟨some 31, .load none (.t 30), some (29, false), [8, 7]⟩,
  ⟨some 32, .bin .eql (.t 31) (.c (.str ⟨#[102, 97, 108, 115, 101]⟩)), some (29, false), [9, 7]⟩,
  ⟨some 33, .pick (.t 29) (.c (.bool true)) (.t 32), some (25, true), [7, 10, 3]⟩,
  ⟨some 34, .pick (.t 25) (.t 33) (.c (.bool false)), none, [3, 11]⟩,
  ⟨some 5, .mv (.t 34), none, [12, 7, 0, 1, 2, 3, 4, 5, 6, 7, 8, 9, 10, 11, 12]⟩]
abbrev r5_7 : List AOper := [
  ⟨some 35, .mv (.t 5), none, []⟩]
abbrev r5_8 : List AOper := [
  ⟨some 37, .load (some 5) (.t 3), none, []⟩,
  ⟨some 38, .bslice 25 1 [.int .i64 0, .int .i64 0, .flt .f64 0, .str ⟨#[]⟩, .nils] [(0, 5, (.t 37))], none, [0]⟩,
  ⟨some 39, .callF 12 [(.c (.str ⟨#[110, 111, 116]⟩)), (.t 38)], none, [1]⟩,
  ⟨some 36, .mv (.t 39), none, [2]⟩,
  ⟨some 40, .extract (.t 36) 0, none, [3]⟩,
  ⟨some 41, .extract (.t 36) 1, none, [3]⟩,
  ⟨some 6, .alloc 25 (.agg [.int .i64 0, .int .i64 0, .flt .f64 0, .str ⟨#[]⟩, .nils]), none, []⟩,
  ⟨none, .store 5 (.t 6) (.t 40), none, [6, 4, 2, 0, 1, 2, 3, 4, 6]⟩,
  ⟨some 7, .mv (.t 41), none, [5, 7, 0, 1, 2, 3, 4, 5, 6, 7]⟩]
abbrev r5_9 : List AOper := [
  ⟨some 42, .mv (.t 4), none, []⟩,
  ⟨some 43, .bin .neq (.t 42) (.c (.int .i64 0)), none, [0]⟩,
  ⟨some 44, .mv (.t 43), none, [1]⟩,
  ⟨some 45, .mv (.t 7), some (44, false), [2]⟩,
  ⟨some 46, .bin .neq (.t 45) (.c (.int .i64 0)), some (44, false), [3, 2]⟩,
  ⟨some 47, .pick (.t 44) (.c (.bool true)) (.t 46), none, [2, 4]⟩,
  ⟨some 48, .mv (.t 47), none, [5, 2]⟩,
  ⟨some 49, .faddr 3 (.t 3), some (48, false), [6]⟩,
  ⟨some 50, .load none (.t 49), some (48, false), [7, 6]⟩,
  ⟨some 51, .faddr 3 (.t 1), some (48, false), [6]⟩,
  ⟨some 52, .load none (.t 51), some (48, false), [9, 6]⟩,
  ⟨some 53, .bin .eql (.t 50) (.t 52), some (48, false), [8, 10, 6]⟩,
  ⟨some 54, .pick (.t 48) (.c (.bool true)) (.t 53), none, [6, 11]⟩,
  ⟨some 55, .mv (.t 54), none, [12, 6]⟩,
  ⟨some 56, .faddr 3 (.t 6), some (55, false), [13]⟩,
  ⟨some 57, .load none (.t 56), some (55, false), [14, 13]⟩,
  ⟨some 58, .faddr 3 (.t 1), some (55, false), [13]⟩,
  ⟨some 59, .load none (.t 58), some (55, false), [16, 13]⟩,
  ⟨some 60, .bin .neq (.t 57) (.t 59), some (55, false), [15, 17, 13]⟩,
  ⟨some 61, .pick (.t 55) (.c (.bool true)) (.t 60), none, [13, 18]⟩]
abbrev r5_10 : List AOper := [
  ⟨some 2, .mv (.c (.bool false)), none, []⟩]
abbrev r5_11 : List AOper := [
  ⟨some 62, .mv (.t 4), none, []⟩,
  ⟨some 63, .bin .neq (.t 62) (.c (.int .i64 13)), none, [0]⟩]
abbrev r5_12 : List AOper := [
  ⟨some 2, .mv (.c (.bool false)), none, []⟩]
abbrev r5_13 : List AOper := [
  ⟨some 65, .load (some 5) (.t 1), none, []⟩,
  ⟨some 66, .build [.int .i64 0, .int .i64 0, .flt .f64 0, .str ⟨#[]⟩, .nils] [(0, 1, (.c (.int .i64 8)))], none, []⟩,
  ⟨some 67, .bslice 25 2 [.int .i64 0, .int .i64 0, .flt .f64 0, .str ⟨#[]⟩, .nils, .int .i64 0, .int .i64 0, .flt .f64 0, .str ⟨#[]⟩, .nils] [(0, 5, (.t 65)), (5, 5, (.t 66))], none, [0, 1]⟩,
  ⟨some 68, .callF 12 [(.c (.str ⟨#[43, 43]⟩)), (.t 67)], none, [2]⟩,
  ⟨some 64, .mv (.t 68), none, [3]⟩,
  ⟨some 69, .extract (.t 64) 0, none, [4]⟩,
  ⟨some 70, .extract (.t 64) 1, none, [4]⟩,
  ⟨some 8, .alloc 25 (.agg [.int .i64 0, .int .i64 0, .flt .f64 0, .str ⟨#[]⟩, .nils]), none, []⟩,
  ⟨none, .store 5 (.t 8) (.t 69), none, [7, 5, 3, 0, 1, 2, 3, 4, 5, 7]⟩,
  ⟨some 9, .mv (.t 70), none, [6, 8, 0, 1, 2, 3, 4, 5, 6, 7, 8]⟩]
abbrev r5_14 : List AOper := [
  ⟨some 71, .mv (.t 9), none, []⟩,
  ⟨some 72, .bin .eql (.t 71) (.c (.int .i64 0)), none, [0]⟩,
  ⟨some 73, .faddr 0 (.t 1), none, []⟩,
  ⟨some 74, .load none (.t 73), none, [2]⟩,
  ⟨some 75, .bin .eql (.t 74) (.c (.int .i64 8)), none, [3]⟩,
  ⟨some 76, .eqB false (.t 72) (.t 75), none, [1, 4]⟩,
  ⟨some 2, .mv (.t 76), none, [5, 0, 1, 2, 3, 4, 5]⟩]
def k5 : List (List Nat) := [[1], [1, 11], [2], [1, 15], [2], [1, 3, 4], [1, 3, 4, 5], [1, 3, 4, 35], [1, 3, 4, 6, 7], [1, 61], [2], [1, 63], [2], [1, 9], [2]]
def f5 : AFunc := { ntmps := 77, results := [.tmp 2], body := (
  .seq (
  .region false r5_0 [1]) (
  .seq (
  .seq (
  .region false r5_1 [1, 11]) (
  .cond (.t 11) (
    .seq (
    .region false r5_2 [2]) (
    .ret)) (
    .skip))) (
  .seq (
  .seq (
  .region false r5_3 [1, 15]) (
  .cond (.t 15) (
    .seq (
    .region false r5_4 [2]) (
    .ret)) (
    .skip))) (
  .seq (
  .region false r5_5 [1, 3, 4]) (
  .seq (
  .region false r5_6 [1, 3, 4, 5]) (
  .seq (
  .seq (
  .region false r5_7 [1, 3, 4, 35]) (
  .cond (.t 35) (
    .seq (
    .region false r5_8 [1, 3, 4, 6, 7]) (
    .seq (
    .region false r5_9 [1, 61]) (
    .cond (.t 61) (
      .seq (
      .region false r5_10 [2]) (
      .ret)) (
      .skip)))) (
    .seq (
    .region false r5_11 [1, 63]) (
    .cond (.t 63) (
      .seq (
      .region false r5_12 [2]) (
      .ret)) (
      .skip))))) (
  .seq (
  .region false r5_13 [1, 9]) (
  .seq (
  .region false r5_14 [2]) (
  .ret))))))))) }
theorem c5 : cfunc Tryz.prog (kof k5) Tryz.f5 = some f5 := by kernel_rfl

/-- exitwave/bif.one -/
abbrev r21_0 : List AOper := [
  ⟨some 2, .mv (.c (.nilf)), none, []⟩]
abbrev r21_1 : List AOper := [
  ⟨some 3, .mv (.t 0), none, []⟩]
abbrev r21_2 : List AOper := [
  ⟨some 5, .bin .eql (.t 3) (.c (.str ⟨#[45]⟩)), none, []⟩,
  ⟨some 4, .mv (.t 5), none, [0]⟩]
abbrev r21_3 : List AOper := [
  ⟨some 2, .mv (.c (.fn (.func 44) [] [])), none, []⟩]
abbrev r21_4 : List AOper := [
  ⟨some 7, .bin .eql (.t 3) (.c (.str ⟨#[110, 111, 116]⟩)), none, []⟩,
  ⟨some 6, .mv (.t 7), none, [0]⟩]
abbrev r21_5 : List AOper := [
  ⟨some 2, .mv (.c (.fn (.func 46) [] [])), none, []⟩]
abbrev r21_6 : List AOper := [
  ⟨some 2, .mv (.c (.nilf)), none, []⟩]
def k21 : List (List Nat) := [[0], [3], [3, 4], [2], [6], [2], [2]]
def f21 : AFunc := { ntmps := 8, results := [.tmp 2], body := (
  .seq (
  .region false r21_0 [0]) (
  .seq (
  .seq (
  .region false r21_1 [3]) (
  .block 0 (
    .seq (
    .region false r21_2 [3, 4]) (
    .cond (.t 4) (
      .seq (
      .region false r21_3 [2]) (
      .ret)) (
      .seq (
      .region false r21_4 [6]) (
      .cond (.t 6) (
        .seq (
        .region false r21_5 [2]) (
        .ret)) (
        .skip))))))) (
  .seq (
  .region false r21_6 [2]) (
  .ret)))) }
theorem c21 : cfunc Tryz.prog (kof k21) Tryz.f21 = some f21 := by kernel_rfl

/-- (*exitwave/bif.call).append -/
abbrev r43_0 : List AOper := [
  ⟨some 2, .alloc 25 (.agg [.int .i64 0, .int .i64 0, .flt .f64 0, .str ⟨#[]⟩, .nils]), none, []⟩]
abbrev r43_1 : List AOper := [
  ⟨some 5, .mv (.t 0), none, []⟩,
  ⟨some 6, .callF 47 [(.t 5), (.c (.int .i64 0)), (.c (.int .i64 8))], none, [0]⟩,
  ⟨some 7, .mv (.t 0), none, []⟩,
  ⟨some 8, .callF 47 [(.t 7), (.c (.int .i64 1)), (.c (.int .i64 8))], none, [2, 1]⟩,
  ⟨some 3, .alloc 25 (.agg [.int .i64 0, .int .i64 0, .flt .f64 0, .str ⟨#[]⟩, .nils]), none, []⟩,
  ⟨some 4, .alloc 25 (.agg [.int .i64 0, .int .i64 0, .flt .f64 0, .str ⟨#[]⟩, .nils]), none, []⟩,
  ⟨none, .store 5 (.t 3) (.t 6), none, [4, 1, 3, 0, 1, 4, 5]⟩,
  ⟨none, .store 5 (.t 4) (.t 8), none, [5, 3, 6, 0, 1, 2, 3, 4, 5, 6]⟩]
abbrev r43_2 : List AOper := [
  ⟨some 9, .faddr 4 (.t 3), none, []⟩,
  ⟨some 10, .load none (.t 9), none, [0]⟩,
  ⟨some 11, .faddr 4 (.t 4), none, []⟩,
  ⟨some 12, .load none (.t 11), none, [2]⟩,
  ⟨some 13, .bslice 23 2 [.nils, .nils] [(0, 1, (.t 10)), (1, 1, (.t 12))], none, [1, 3]⟩,
  ⟨some 14, .callF 65 [(.t 13)], none, [4]⟩,
  ⟨some 15, .callF 64 [(.t 14)], none, [5, 5]⟩,
  ⟨some 16, .extract (.t 15) 0, none, [6]⟩,
  ⟨some 17, .extract (.t 15) 1, none, [6]⟩,
  ⟨some 18, .callF 35 [(.t 16), (.t 17)], none, [7, 8, 6]⟩,
  ⟨none, .store 5 (.t 2) (.t 18), none, [9, 9, 0, 1, 2, 3, 4, 5, 6, 7, 8, 9]⟩]
def k43 : List (List Nat) := [[0, 2], [2, 3, 4], [2]]
def f43 : AFunc := { ntmps := 19, results := [.cell 2 (some 5)], body := (
  .seq (
  .region false r43_0 [0, 2]) (
  .seq (
  .region false r43_1 [2, 3, 4]) (
  .seq (
  .region false r43_2 [2]) (
  .ret)))) }
theorem c43 : cfunc Tryz.prog (kof k43) Tryz.f43 = some f43 := by kernel_rfl

/-- exitwave/bif.one$2 -/
abbrev r46_0 : List AOper := [
  ⟨some 2, .alloc 25 (.agg [.int .i64 0, .int .i64 0, .flt .f64 0, .str ⟨#[]⟩, .nils]), none, []⟩]
abbrev r46_1 : List AOper := [
  ⟨some 4, .mv (.t 0), none, []⟩,
  ⟨some 5, .callF 47 [(.t 4), (.c (.int .i64 0)), (.c (.int .i64 3))], none, [0]⟩,
  ⟨some 3, .alloc 25 (.agg [.int .i64 0, .int .i64 0, .flt .f64 0, .str ⟨#[]⟩, .nils]), none, []⟩,
  ⟨none, .store 5 (.t 3) (.t 5), none, [2, 1, 1, 0, 1, 2]⟩]
abbrev r46_2 : List AOper := [
  ⟨some 6, .faddr 3 (.t 3), none, []⟩,
  ⟨some 7, .load none (.t 6), none, [0]⟩,
  ⟨some 8, .bin .neq (.t 7) (.c (.str ⟨#[116, 114, 117, 101]⟩)), none, [1]⟩,
  ⟨some 9, .mv (.t 8), none, [2]⟩,
  ⟨some 10, .faddr 3 (.t 3), some (9, true), [3]⟩,
  ⟨some 11, .load none (.t 10), some (9, true), [4, 3]⟩,
  ⟨some 12, .bin .neq (.t 11) (.c (.str ⟨#[102, 97, 108, 115, 101]⟩)), some (9, true), [5, 3]⟩,
  ⟨some 13, .pick (.t 9) (.t 12) (.c (.bool false)), none, [3, 6]⟩]
abbrev r46_3 : List AOper := [
  ⟨some 14, .callF 48 [], none, []⟩,
  ⟨none, .store 5 (.t 2) (.t 14), none, [0, 0, 0]⟩]
abbrev r46_4 : List AOper := [
  ⟨some 15, .faddr 3 (.t 3), none, []⟩,
  ⟨some 16, .load none (.t 15), none, [0]⟩,
  ⟨some 17, .bin .eql (.t 16) (.c (.str ⟨#[102, 97, 108, 115, 101]⟩)), none, [1]⟩,
  ⟨some 18, .callF 30 [(.t 17)], none, [2]⟩,
  ⟨none, .store 5 (.t 2) (.t 18), none, [3, 3, 0, 1, 2, 3]⟩]
def k46 : List (List Nat) := [[0, 2], [2, 3], [2, 3, 13], [2], [2]]
def f46 : AFunc := { ntmps := 19, results := [.cell 2 (some 5)], body := (
  .seq (
  .region false r46_0 [0, 2]) (
  .seq (
  .region false r46_1 [2, 3]) (
  .seq (
  .seq (
  .region false r46_2 [2, 3, 13]) (
  .cond (.t 13) (
    .seq (
    .region false r46_3 [2]) (
    .ret)) (
    .skip))) (
  .seq (
  .region false r46_4 [2]) (
  .ret))))) }
theorem c46 : cfunc Tryz.prog (kof k46) Tryz.f46 = some f46 := by kernel_rfl

/-- exitwave/term.List -/
abbrev r64_0 : List AOper := [
  ⟨some 2, .alloc 25 (.agg [.int .i64 0, .int .i64 0, .flt .f64 0, .str ⟨#[]⟩, .nils]), none, []⟩,
  ⟨some 3, .mv (.c (.int .i64 0)), none, []⟩]
abbrev r64_1 : List AOper := [
  ⟨some 4, .mv (.t 0), none, []⟩,
  ⟨some 5, .callF 100 [(.c (.int .i64 8)), (.t 4)], none, [0]⟩,
  ⟨some 6, .extract (.t 5) 0, none, [1]⟩,
  ⟨some 7, .extract (.t 5) 1, none, [1]⟩,
  ⟨none, .store 5 (.t 2) (.t 6), none, [2, 1, 0, 1, 2, 3]⟩,
  ⟨some 3, .mv (.t 7), none, [3, 4, 0, 1, 2, 3, 4]⟩]
def k64 : List (List Nat) := [[0, 2], [2, 3]]
def f64 : AFunc := { ntmps := 8, results := [.cell 2 (some 5), .tmp 3], body := (
  .seq (
  .region false r64_0 [0, 2]) (
  .seq (
  .region false r64_1 [2, 3]) (
  .ret))) }
theorem c64 : cfunc Tryz.prog (kof k64) Tryz.f64 = some f64 := by kernel_rfl

/-- slices.Concat[[]exitwave/api.Term,exitwave/api.Term] -/
abbrev r65_0 : List AOper := [
  ⟨some 2, .mv (.c (.nils)), none, []⟩]
abbrev r65_1 : List AOper := [
  ⟨some 3, .mv (.c (.int .i64 0)), none, []⟩]
abbrev r65_2 : List AOper := [
  ⟨some 9, .mv (.t 0), none, []⟩,
  ⟨some 10, .len 1 (.t 9), none, [0]⟩,
  ⟨some 11, .mv (.c (.int .i64 0)), none, []⟩]
abbrev r65_3 : List AOper := [
  ⟨some 12, .bin .lss (.t 11) (.t 10), none, []⟩]
abbrev r65_4 : List AOper := [
  ⟨some 13, .iaddr 1 (.t 9) (.t 11), none, []⟩,
  ⟨some 14, .load none (.t 13), none, [0]⟩,
  ⟨some 5, .mv (.t 14), none, [1, 0, 1]⟩]
abbrev r65_5 : List AOper := [
  ⟨some 15, .mv (.t 3), none, []⟩,
  ⟨some 16, .mv (.t 5), none, []⟩,
  ⟨some 17, .len 1 (.t 16), none, [1]⟩,
  ⟨some 18, .bin .add (.t 15) (.t 17), none, [0, 2]⟩,
  ⟨some 3, .mv (.t 18), none, [3, 0, 1, 2, 3]⟩]
abbrev r65_6 : List AOper := [
  ⟨some 19, .mv (.t 3), none, []⟩,
  ⟨some 20, .bin .lss (.t 19) (.c (.int .i64 0)), none, [0]⟩]
abbrev r65_7 : List AOper := [
  ⟨some 21, .mkifc 9 (.c (.str ⟨#[108, 101, 110, 32, 111, 117, 116, 32, 111, 102, 32, 114, 97, 110, 103, 101]⟩)), none, []⟩,
  ⟨none, .pan (.t 21), none, [0]⟩]
abbrev r65_8 : List AOper := [
  ⟨some 22, .bin .add (.t 11) (.c (.int .i64 1)), none, []⟩,
  ⟨some 11, .mv (.t 22), none, [0]⟩]
def l65_0 : ACode :=
  .seq (
  .region false r65_3 [0, 3, 9, 10, 11, 12]) (
  .seq (
  .cond (.t 12) (
    .skip) (
    .exit 0)) (
  .seq (
  .block 1 (
    .seq (
    .region false r65_4 [0, 3, 5, 9, 10, 11]) (
    .seq (
    .region false r65_5 [0, 3, 9, 10, 11]) (
    .seq (
    .region false r65_6 [0, 3, 9, 10, 11, 20]) (
    .cond (.t 20) (
      .region false r65_7 [0, 3, 9, 10, 11]) (
      .skip)))))) (
  .region false r65_8 [0, 3, 9, 10, 11])))
abbrev r65_9 : List AOper := [
  ⟨some 23, .mv (.t 3), none, []⟩,
  ⟨some 24, .callF 101 [(.c (.nils)), (.t 23)], none, [0]⟩,
  ⟨some 6, .mv (.t 24), none, [1, 1, 0, 1]⟩]
abbrev r65_10 : List AOper := [
  ⟨some 25, .mv (.t 0), none, []⟩,
  ⟨some 26, .len 1 (.t 25), none, [0]⟩,
  ⟨some 27, .mv (.c (.int .i64 0)), none, []⟩]
abbrev r65_11 : List AOper := [
  ⟨some 28, .bin .lss (.t 27) (.t 26), none, []⟩]
abbrev r65_12 : List AOper := [
  ⟨some 29, .iaddr 1 (.t 25) (.t 27), none, []⟩,
  ⟨some 30, .load none (.t 29), none, [0]⟩,
  ⟨some 8, .mv (.t 30), none, [1, 0, 1]⟩]
abbrev r65_13 : List AOper := [
  ⟨some 31, .mv (.t 6), none, []⟩,
  ⟨some 32, .mv (.t 8), none, []⟩,
  ⟨some 33, .app 25 5 64 (.t 31) (.t 32), none, [0, 1]⟩,
  ⟨some 6, .mv (.t 33), none, [2, 2, 0, 1, 2]⟩]
abbrev r65_14 : List AOper := [
  ⟨some 34, .bin .add (.t 27) (.c (.int .i64 1)), none, []⟩,
  ⟨some 27, .mv (.t 34), none, [0]⟩]
def l65_1 : ACode :=
  .seq (
  .region false r65_11 [6, 25, 26, 27, 28]) (
  .seq (
  .cond (.t 28) (
    .skip) (
    .exit 2)) (
  .seq (
  .block 3 (
    .seq (
    .region false r65_12 [6, 8, 25, 26, 27]) (
    .region false r65_13 [6, 25, 26, 27]))) (
  .region false r65_14 [6, 25, 26, 27])))
abbrev r65_15 : List AOper := [
  ⟨some 35, .mv (.t 6), none, []⟩,
  ⟨some 2, .mv (.t 35), none, [0, 0]⟩]
def k65 : List (List Nat) := [[0], [0, 3], [0, 3, 9, 10, 11], [0, 3, 9, 10, 11, 12], [0, 3, 5, 9, 10, 11], [0, 3, 9, 10, 11], [0, 3, 9, 10, 11, 20], [0, 3, 9, 10, 11], [0, 3, 9, 10, 11], [0, 6], [6, 25, 26, 27], [6, 25, 26, 27, 28], [6, 8, 25, 26, 27], [6, 25, 26, 27], [6, 25, 26, 27], [2]]
def f65 : AFunc := { ntmps := 36, results := [.tmp 2], body := (
  .seq (
  .region false r65_0 [0]) (
  .seq (
  .region false r65_1 [0, 3]) (
  .seq (
  .seq (
  .region false r65_2 [0, 3, 9, 10, 11]) (
  .block 0 (
    .loop l65_0))) (
  .seq (
  .region false r65_9 [0, 6]) (
  .seq (
  .seq (
  .region false r65_10 [6, 25, 26, 27]) (
  .block 2 (
    .loop l65_1))) (
  .seq (
  .region false r65_15 [2]) (
  .ret))))))) }
theorem c65 : cfunc Tryz.prog (kof k65) Tryz.f65 = some f65 := by kernel_rfl

/-- slices.Grow[[]exitwave/api.Term,exitwave/api.Term] -/
abbrev r101_0 : List AOper := [
  ⟨some 4, .mv (.c (.nils)), none, []⟩]
abbrev r101_1 : List AOper := [
  ⟨some 5, .mv (.t 1), none, []⟩,
  ⟨some 6, .bin .lss (.t 5) (.c (.int .i64 0)), none, [0]⟩]
abbrev r101_2 : List AOper := [
  ⟨some 7, .mkifc 9 (.c (.str ⟨#[99, 97, 110, 110, 111, 116, 32, 98, 101, 32, 110, 101, 103, 97, 116, 105, 118, 101]⟩)), none, []⟩,
  ⟨none, .pan (.t 7), none, [0]⟩]
abbrev r101_3 : List AOper := [
  ⟨some 8, .mv (.t 1), none, []⟩,
  ⟨some 9, .mv (.t 0), none, []⟩,
  ⟨some 10, .len 3 (.t 9), none, [1]⟩,
  ⟨some 11, .mv (.t 0), none, []⟩,
  ⟨some 12, .len 1 (.t 11), none, [3]⟩,
  ⟨some 13, .bin .sub (.t 10) (.t 12), none, [2, 4]⟩,
  ⟨some 14, .bin .sub (.t 8) (.t 13), none, [0, 5]⟩,
  ⟨some 1, .mv (.t 14), none, [6, 0, 1, 2, 3, 4, 5, 6]⟩]
abbrev r101_4 : List AOper := [
  ⟨some 15, .mv (.t 1), none, []⟩,
  ⟨some 16, .bin .gtr (.t 15) (.c (.int .i64 0)), none, [0]⟩]
abbrev r101_5 : List AOper := [
  ⟨some 17, .mv (.t 0), none, []⟩,
  ⟨some 18, .mv (.t 0), none, []⟩,
  ⟨some 19, .len 3 (.t 18), none, [1]⟩,
  ⟨some 20, .slc 25 5 (.t 17) none (some (.t 19)) none, none, [0, 2]⟩,
  ⟨some 21, .mv (.t 1), none, []⟩,
  ⟨some 22, .appN 25 [.int .i64 0, .int .i64 0, .flt .f64 0, .str ⟨#[]⟩, .nils] 64 (.t 20) (.t 21), none, [3, 4]⟩,
  ⟨some 23, .mv (.t 0), none, []⟩,
  ⟨some 24, .len 1 (.t 23), none, [6]⟩,
  ⟨some 25, .slc 25 5 (.t 22) none (some (.t 24)) none, none, [5, 7]⟩,
  ⟨some 0, .mv (.t 25), none, [8, 5, 0, 1, 2, 3, 4, 5, 6, 7, 8]⟩]
abbrev r101_6 : List AOper := [
  ⟨some 26, .mv (.t 0), none, []⟩,
  ⟨some 4, .mv (.t 26), none, [0, 0]⟩]
def k101 : List (List Nat) := [[0, 1], [0, 1, 6], [0, 1], [0, 1], [0, 1, 16], [0], [4]]
def f101 : AFunc := { ntmps := 27, results := [.tmp 4], body := (
  .seq (
  .region false r101_0 [0, 1]) (
  .seq (
  .seq (
  .region false r101_1 [0, 1, 6]) (
  .cond (.t 6) (
    .region false r101_2 [0, 1]) (
    .skip))) (
  .seq (
  .seq (
  .region false r101_3 [0, 1]) (
  .seq (
  .region false r101_4 [0, 1, 16]) (
  .cond (.t 16) (
    .region false r101_5 [0]) (
    .skip)))) (
  .seq (
  .region false r101_6 [4]) (
  .ret))))) }
theorem c101 : cfunc Tryz.prog (kof k101) Tryz.f101 = some f101 := by kernel_rfl


end Go.Am.Rl
