/- The functions, in the abstract machine's form (written by gen.py). -/
import Derived.Test.YtcmaphhbecjbjaaGreatDoorAmS
import Derived.Test.YtcmaphhbecjbjaaGreatDoorProg
set_option linter.unusedVariables false
namespace Go.Am.Rl
open Go.Proofs
set_option maxRecDepth 20000

/-- exitwave/exitwavelaw9.known -/
abbrev r6_0 : List AOper := [
  ⟨some 0, .mv (.c (.bool false)), none, []⟩]
abbrev r6_1 : List AOper := [
  ⟨some 10, .callF 18 [(.c (.int .i64 1))], none, []⟩,
  ⟨some 11, .build [.int .i64 0, .int .i64 0, .flt .f64 0, .str ⟨#[]⟩, .nils] [(0, 1, (.c (.int .i64 2))), (2, 1, (.c (.flt .f64 4607182418800017408)))], none, []⟩,
  ⟨some 12, .bslice 25 2 [.int .i64 0, .int .i64 0, .flt .f64 0, .str ⟨#[]⟩, .nils, .int .i64 0, .int .i64 0, .flt .f64 0, .str ⟨#[]⟩, .nils] [(0, 5, (.t 10)), (5, 5, (.t 11))], none, [0, 1]⟩,
  ⟨some 13, .callF 11 [(.c (.str ⟨#[61, 61]⟩)), (.t 12)], none, [2, 0]⟩,
  ⟨some 9, .mv (.t 13), none, [3]⟩,
  ⟨some 14, .extract (.t 9) 0, none, [4]⟩,
  ⟨some 15, .extract (.t 9) 1, none, [4]⟩,
  ⟨some 1, .alloc 25 (.agg [.int .i64 0, .int .i64 0, .flt .f64 0, .str ⟨#[]⟩, .nils]), none, []⟩,
  ⟨none, .store 5 (.t 1) (.t 14), none, [7, 5, 3, 0, 1, 2, 3, 4, 5, 7]⟩,
  ⟨some 2, .mv (.t 15), none, [6, 8, 0, 1, 2, 3, 4, 5, 6, 7, 8]⟩]
abbrev r6_2 : List AOper := [
  ⟨some 17, .callF 18 [(.c (.int .i64 1))], none, []⟩,
  ⟨some 18, .build [.int .i64 0, .int .i64 0, .flt .f64 0, .str ⟨#[]⟩, .nils] [(0, 1, (.c (.int .i64 2))), (2, 1, (.c (.flt .f64 4607182418800017408)))], none, []⟩,
  ⟨some 19, .bslice 25 2 [.int .i64 0, .int .i64 0, .flt .f64 0, .str ⟨#[]⟩, .nils, .int .i64 0, .int .i64 0, .flt .f64 0, .str ⟨#[]⟩, .nils] [(0, 5, (.t 17)), (5, 5, (.t 18))], none, [0, 1]⟩,
  ⟨some 20, .callF 11 [(.c (.str ⟨#[61, 58, 61]⟩)), (.t 19)], none, [2, 0]⟩,
  ⟨some 16, .mv (.t 20), none, [3]⟩,
  ⟨some 21, .extract (.t 16) 0, none, [4]⟩,
  ⟨some 22, .extract (.t 16) 1, none, [4]⟩,
  ⟨some 3, .alloc 25 (.agg [.int .i64 0, .int .i64 0, .flt .f64 0, .str ⟨#[]⟩, .nils]), none, []⟩,
  ⟨none, .store 5 (.t 3) (.t 21), none, [7, 5, 3, 0, 1, 2, 3, 4, 5, 7]⟩,
  ⟨some 4, .mv (.t 22), none, [6, 8, 0, 1, 2, 3, 4, 5, 6, 7, 8]⟩]
abbrev r6_3 : List AOper := [
  ⟨some 24, .callF 18 [(.c (.int .i64 1))], none, []⟩,
  ⟨some 25, .callF 18 [(.c (.int .i64 7))], none, [0]⟩,
  ⟨some 26, .bslice 25 1 [.int .i64 0, .int .i64 0, .flt .f64 0, .str ⟨#[]⟩, .nils] [(0, 5, (.t 25))], none, [1]⟩,
  ⟨some 27, .build [.int .i64 0, .int .i64 0, .flt .f64 0, .str ⟨#[]⟩, .nils] [(0, 1, (.c (.int .i64 7))), (4, 1, (.t 26))], none, [2]⟩,
  ⟨some 28, .bslice 25 2 [.int .i64 0, .int .i64 0, .flt .f64 0, .str ⟨#[]⟩, .nils, .int .i64 0, .int .i64 0, .flt .f64 0, .str ⟨#[]⟩, .nils] [(0, 5, (.t 24)), (5, 5, (.t 27))], none, [0, 3]⟩,
  ⟨some 29, .callF 15 [(.c (.str ⟨#[101, 108, 101, 109, 101, 110, 116]⟩)), (.t 28), (.c (.fn (.func 16) [] []))], none, [4, 1]⟩,
  ⟨some 23, .mv (.t 29), none, [5]⟩,
  ⟨some 30, .extract (.t 23) 0, none, [6]⟩,
  ⟨some 31, .extract (.t 23) 1, none, [6]⟩,
  ⟨some 5, .alloc 25 (.agg [.int .i64 0, .int .i64 0, .flt .f64 0, .str ⟨#[]⟩, .nils]), none, []⟩,
  ⟨none, .store 5 (.t 5) (.t 30), none, [9, 7, 5, 0, 1, 2, 3, 4, 5, 6, 7, 9]⟩,
  ⟨some 6, .mv (.t 31), none, [8, 10, 0, 1, 2, 3, 4, 5, 6, 7, 8, 9, 10]⟩]
abbrev r6_4 : List AOper := [
  ⟨some 33, .callF 18 [(.c (.int .i64 0))], none, []⟩,
  ⟨some 34, .callF 18 [(.c (.int .i64 7))], none, [0]⟩,
  ⟨some 35, .bslice 25 1 [.int .i64 0, .int .i64 0, .flt .f64 0, .str ⟨#[]⟩, .nils] [(0, 5, (.t 34))], none, [1]⟩,
  ⟨some 36, .build [.int .i64 0, .int .i64 0, .flt .f64 0, .str ⟨#[]⟩, .nils] [(0, 1, (.c (.int .i64 7))), (4, 1, (.t 35))], none, [2]⟩,
  ⟨some 37, .bslice 25 2 [.int .i64 0, .int .i64 0, .flt .f64 0, .str ⟨#[]⟩, .nils, .int .i64 0, .int .i64 0, .flt .f64 0, .str ⟨#[]⟩, .nils] [(0, 5, (.t 33)), (5, 5, (.t 36))], none, [0, 3]⟩,
  ⟨some 38, .callF 15 [(.c (.str ⟨#[101, 108, 101, 109, 101, 110, 116]⟩)), (.t 37), (.c (.fn (.func 16) [] []))], none, [4, 1]⟩,
  ⟨some 32, .mv (.t 38), none, [5]⟩,
  ⟨some 39, .extract (.t 32) 0, none, [6]⟩,
  ⟨some 40, .extract (.t 32) 1, none, [6]⟩,
  ⟨some 7, .alloc 25 (.agg [.int .i64 0, .int .i64 0, .flt .f64 0, .str ⟨#[]⟩, .nils]), none, []⟩,
  ⟨none, .store 5 (.t 7) (.t 39), none, [9, 7, 5, 0, 1, 2, 3, 4, 5, 6, 7, 9]⟩,
  ⟨some 8, .mv (.t 40), none, [8, 10, 0, 1, 2, 3, 4, 5, 6, 7, 8, 9, 10]⟩]
abbrev r6_5 : List AOper := [
  ⟨some 41, .faddr 3 (.t 1), none, []⟩,
  ⟨some 42, .load none (.t 41), none, [0]⟩,
  ⟨some 43, .bin .eql (.t 42) (.c (.str ⟨#[116, 114, 117, 101]⟩)), none, [1]⟩,
  ⟨some 44, .mv (.t 43), none, [2]⟩,
  ⟨some 45, .mv (.t 2), some (44, true), [3]⟩,
  ⟨some 46, .bin .eql (.t 45) (.c (.int .i64 0)), some (44, true), [4, 3]⟩,
  ⟨some 47, .pick (.t 44) (.t 46) (.c (.bool false)), none, [3, 5]⟩,
  ⟨some 48, .mv (.t 47), none, [6, 3]⟩,
  ⟨some 49, .faddr 3 (.t 3), some (48, true), [7]⟩,
  ⟨some 50, .load none (.t 49), some (48, true), [8, 7]⟩,
  ⟨some 51, .bin .eql (.t 50) (.c (.str ⟨#[102, 97, 108, 115, 101]⟩)), some (48, true), [9, 7]⟩,
  ⟨some 52, .pick (.t 48) (.t 51) (.c (.bool false)), none, [7, 10]⟩,
  ⟨some 53, .mv (.t 52), none, [11, 7]⟩,
  ⟨some 54, .mv (.t 4), some (53, true), [12]⟩,
  ⟨some 55, .bin .eql (.t 54) (.c (.int .i64 0)), some (53, true), [13, 12]⟩,
  ⟨some 56, .pick (.t 53) (.t 55) (.c (.bool false)), none, [12, 14]⟩,
  ⟨some 57, .mv (.t 56), none, [15, 12]⟩,
  ⟨some 58, .faddr 1 (.t 5), some (57, true), [16]⟩,
  ⟨some 59, .load none (.t 58), some (57, true), [17, 16]⟩,
  ⟨some 60, .bin .eql (.t 59) (.c (.int .i64 7)), some (57, true), [18, 16]⟩,
  ⟨some 61, .pick (.t 57) (.t 60) (.c (.bool false)), none, [16, 19]⟩,
  ⟨some 62, .mv (.t 61), none, [20, 16]⟩,
  ⟨some 63, .mv (.t 6), some (62, true), [21]⟩,
  ⟨some 64, .bin .eql (.t 63) (.c (.int .i64 0)), some (62, true), [22, 21]⟩,
  ⟨some 65, .pick (.t 62) (.t 64) (.c (.bool false)), none, [21, 23]⟩,
  ⟨some 66, .mv (.t 65), none, [24, 21]⟩,
  ⟨some 67, .mv (.t 8), some (66, true), [25]⟩,
  ⟨some 68, .bin .eql (.t 67) (.c (.int .i64 13)), some (66, true), [26, 25]⟩,
  ⟨some 69, .pick (.t 66) (.t 68) (.c (.bool false)), none, [25, 27]⟩,
  ⟨some 0, .mv (.t 69), none, [28, 25, 0, 1, 2, 3, 4, 5, 6, 7, 8, 9, 10, 11, 12, 13, 14, 15, 16, 17, 18, 19, 20, 21, 22, 23, 24, 25, 26, 27, 28]⟩]
def k6 : List (List Nat) := [[], [1, 2], [1, 2, 3, 4], [1, 2, 3, 4, 5, 6], [1, 2, 3, 4, 5, 6, 8], [0]]
def f6 : AFunc := { ntmps := 70, results := [.tmp 0], body := (
  .seq (
  .region false r6_0 []) (
  .seq (
  .region false r6_1 [1, 2]) (
  .seq (
  .region false r6_2 [1, 2, 3, 4]) (
  .seq (
  .region false r6_3 [1, 2, 3, 4, 5, 6]) (
  .seq (
  .region false r6_4 [1, 2, 3, 4, 5, 6, 8]) (
  .seq (
  .region false r6_5 [0]) (
  .ret))))))) }
theorem c6 : cfunc Tryz.prog (kof k6) Tryz.f6 = some f6 := by kernel_rfl

/-- exitwave/exitwavelaw9.i -/
abbrev r18_0 : List AOper := [
  ⟨some 2, .alloc 25 (.agg [.int .i64 0, .int .i64 0, .flt .f64 0, .str ⟨#[]⟩, .nils]), none, []⟩]
abbrev r18_1 : List AOper := [
  ⟨some 3, .mv (.t 0), none, []⟩,
  ⟨some 4, .build [.int .i64 0, .int .i64 0, .flt .f64 0, .str ⟨#[]⟩, .nils] [(0, 1, (.c (.int .i64 1))), (1, 1, (.t 3))], none, [0]⟩,
  ⟨none, .store 5 (.t 2) (.t 4), none, [1, 0, 1]⟩]
def k18 : List (List Nat) := [[0, 2], [2]]
def f18 : AFunc := { ntmps := 5, results := [.cell 2 (some 5)], body := (
  .seq (
  .region false r18_0 [0, 2]) (
  .seq (
  .region false r18_1 [2]) (
  .ret))) }
theorem c18 : cfunc Tryz.prog (kof k18) Tryz.f18 = some f18 := by kernel_rfl

/-- exitwave/bif.Op -/
abbrev r11_0 : List AOper := [
  ⟨some 4, .alloc 25 (.agg [.int .i64 0, .int .i64 0, .flt .f64 0, .str ⟨#[]⟩, .nils]), none, []⟩,
  ⟨some 5, .mv (.c (.int .i64 0)), none, []⟩]
abbrev r11_1 : List AOper := [
  ⟨some 8, .mv (.t 1), none, []⟩,
  ⟨some 9, .build [.nils, .nilf] [(0, 1, (.t 8))], none, [0]⟩,
  ⟨some 10, .box 53 (.t 9), none, [1]⟩,
  ⟨some 6, .alloc 51 (.nilp), none, []⟩,
  ⟨none, .store 1 (.t 6) (.t 10), none, [3, 2, 0, 1, 2, 3]⟩]
abbrev r11_2 : List AOper := [
  ⟨some 11, .mv (.t 0), none, []⟩,
  ⟨some 12, .callF 24 [(.t 11)], none, [0]⟩,
  ⟨some 7, .alloc 54 (.nilf), none, []⟩,
  ⟨none, .store 1 (.t 7) (.t 12), none, [2, 1, 1, 0, 1, 2]⟩]
abbrev r11_3 : List AOper := [
  ⟨some 13, .mv (.t 1), none, []⟩,
  ⟨some 14, .len 1 (.t 13), none, [0]⟩,
  ⟨some 15, .bin .eql (.t 14) (.c (.int .i64 1)), none, [1]⟩]
abbrev r11_4 : List AOper := [
  ⟨some 16, .mv (.t 0), none, []⟩,
  ⟨some 17, .callF 25 [(.t 16)], none, [0]⟩,
  ⟨none, .store 1 (.t 7) (.t 17), none, [1, 1, 0, 1]⟩]
abbrev r11_5 : List AOper := [
  ⟨some 18, .load none (.t 7), none, []⟩,
  ⟨some 19, .eqN 3 false (.t 18) (.c (.nilf)), none, [0]⟩,
  ⟨some 20, .mv (.t 19), none, [1]⟩,
  ⟨some 21, .mv (.t 1), some (20, false), [2]⟩,
  ⟨some 22, .len 1 (.t 21), some (20, false), [3, 2]⟩,
  ⟨some 23, .bin .lss (.t 22) (.c (.int .i64 1)), some (20, false), [4, 2]⟩,
  ⟨some 24, .pick (.t 20) (.c (.bool true)) (.t 23), none, [2, 5]⟩,
  ⟨some 25, .mv (.t 24), none, [6, 2]⟩,
  ⟨some 26, .mv (.t 1), some (25, false), [7]⟩,
  ⟨some 27, .len 1 (.t 26), some (25, false), [8, 7]⟩,
  ⟨some 28, .bin .gtr (.t 27) (.c (.int .i64 2)), some (25, false), [9, 7]⟩,
  ⟨some 29, .pick (.t 25) (.c (.bool true)) (.t 28), none, [7, 10]⟩]
abbrev r11_6 : List AOper := [
  ⟨some 30, .build [.int .i64 0, .int .i64 0, .flt .f64 0, .str ⟨#[]⟩, .nils] [], none, []⟩,
  ⟨none, .store 5 (.t 4) (.t 30), none, [0, 0]⟩,
  ⟨some 5, .mv (.c (.int .i64 5)), none, [1, 0, 1]⟩]
abbrev r11_7 : List AOper := [
  ⟨some 31, .mkfn (.func 27) [] [(.t 7), (.t 6)], none, []⟩,
  ⟨some 32, .callF 26 [(.t 31)], none, [0]⟩,
  ⟨some 33, .extract (.t 32) 0, none, [1]⟩,
  ⟨some 34, .extract (.t 32) 1, none, [1]⟩,
  ⟨none, .store 5 (.t 4) (.t 33), none, [2, 1, 0, 1, 2, 3]⟩,
  ⟨some 5, .mv (.t 34), none, [3, 4, 0, 1, 2, 3, 4]⟩]
def k11 : List (List Nat) := [[0, 1, 4], [0, 1, 4, 6], [0, 1, 4, 6, 7], [0, 1, 4, 6, 7, 15], [1, 4, 6, 7], [4, 6, 7, 29], [4, 5], [4, 5]]
def f11 : AFunc := { ntmps := 35, results := [.cell 4 (some 5), .tmp 5], body := (
  .seq (
  .region false r11_0 [0, 1, 4]) (
  .seq (
  .region false r11_1 [0, 1, 4, 6]) (
  .seq (
  .region false r11_2 [0, 1, 4, 6, 7]) (
  .seq (
  .seq (
  .region false r11_3 [0, 1, 4, 6, 7, 15]) (
  .cond (.t 15) (
    .region false r11_4 [1, 4, 6, 7]) (
    .skip))) (
  .seq (
  .seq (
  .region false r11_5 [4, 6, 7, 29]) (
  .cond (.t 29) (
    .seq (
    .region false r11_6 [4, 5]) (
    .ret)) (
    .skip))) (
  .seq (
  .region false r11_7 [4, 5]) (
  .ret))))))) }
theorem c11 : cfunc Tryz.prog (kof k11) Tryz.f11 = some f11 := by kernel_rfl

/-- exitwave/bif.Call -/
abbrev r15_0 : List AOper := [
  ⟨some 4, .box 23 (.t 1), none, []⟩,
  ⟨some 5, .box 42 (.t 2), none, []⟩,
  ⟨some 6, .alloc 25 (.agg [.int .i64 0, .int .i64 0, .flt .f64 0, .str ⟨#[]⟩, .nils]), none, []⟩,
  ⟨some 7, .mv (.c (.int .i64 0)), none, []⟩]
abbrev r15_1 : List AOper := [
  ⟨some 11, .mv (.t 0), none, []⟩,
  ⟨some 12, .load none (.t 4), none, []⟩,
  ⟨some 13, .len 1 (.t 12), none, [1]⟩,
  ⟨some 14, .callF 28 [(.t 11), (.t 13)], none, [0, 2]⟩,
  ⟨some 10, .mv (.t 14), none, [3]⟩,
  ⟨some 15, .extract (.t 10) 0, none, [4]⟩,
  ⟨some 16, .extract (.t 10) 1, none, [4]⟩,
  ⟨some 8, .alloc 59 (.agg [.int .i64 0, .bool false, .nilf]), none, []⟩,
  ⟨none, .store 3 (.t 8) (.t 15), none, [7, 5, 3, 0, 1, 2, 3, 4, 5, 7]⟩,
  ⟨some 9, .mv (.t 16), none, [6, 8, 0, 1, 2, 3, 4, 5, 6, 7, 8]⟩]
abbrev r15_2 : List AOper := [
  ⟨some 17, .mv (.t 9), none, []⟩,
  ⟨some 18, .un .not (.t 17), none, [0]⟩]
abbrev r15_3 : List AOper := [
  ⟨some 19, .build [.int .i64 0, .int .i64 0, .flt .f64 0, .str ⟨#[]⟩, .nils] [], none, []⟩,
  ⟨none, .store 5 (.t 6) (.t 19), none, [0, 0]⟩,
  ⟨some 7, .mv (.c (.int .i64 5)), none, [1, 0, 1]⟩]
abbrev r15_4 : List AOper := [
  ⟨some 20, .mkfn (.func 29) [] [(.t 8), (.t 4), (.t 5)], none, []⟩,
  ⟨some 21, .callF 26 [(.t 20)], none, [0]⟩,
  ⟨some 22, .extract (.t 21) 0, none, [1]⟩,
  ⟨some 23, .extract (.t 21) 1, none, [1]⟩,
  ⟨none, .store 5 (.t 6) (.t 22), none, [2, 1, 0, 1, 2, 3]⟩,
  ⟨some 7, .mv (.t 23), none, [3, 4, 0, 1, 2, 3, 4]⟩]
def k15 : List (List Nat) := [[0, 4, 5, 6], [4, 5, 6, 8, 9], [4, 5, 6, 8, 18], [6, 7], [6, 7]]
def f15 : AFunc := { ntmps := 24, results := [.cell 6 (some 5), .tmp 7], body := (
  .seq (
  .region false r15_0 [0, 4, 5, 6]) (
  .seq (
  .region false r15_1 [4, 5, 6, 8, 9]) (
  .seq (
  .seq (
  .region false r15_2 [4, 5, 6, 8, 18]) (
  .cond (.t 18) (
    .seq (
    .region false r15_3 [6, 7]) (
    .ret)) (
    .skip))) (
  .seq (
  .region false r15_4 [6, 7]) (
  .ret))))) }
theorem c15 : cfunc Tryz.prog (kof k15) Tryz.f15 = some f15 := by kernel_rfl

/-- exitwave/exitwavelaw9.none -/
abbrev r16_0 : List AOper := [
  ⟨some 1, .box 25 (.t 0), none, []⟩,
  ⟨some 2, .mv (.c (.int .i64 0)), none, []⟩]
abbrev r16_1 : List AOper := [
  ⟨some 2, .mv (.c (.int .i64 (-1))), none, []⟩]
def k16 : List (List Nat) := [[], [2]]
def f16 : AFunc := { ntmps := 3, results := [.tmp 2], body := (
  .seq (
  .region false r16_0 []) (
  .seq (
  .region false r16_1 [2]) (
  .ret))) }
theorem c16 : cfunc Tryz.prog (kof k16) Tryz.f16 = some f16 := by kernel_rfl

/-- exitwave/bif.two -/
abbrev r24_0 : List AOper := [
  ⟨some 1, .box 9 (.t 0), none, []⟩,
  ⟨some 2, .mv (.c (.nilf)), none, []⟩]
abbrev r24_1 : List AOper := [
  ⟨some 3, .mv (.c (.fn (.func 37) [] [])), none, []⟩]
abbrev r24_2 : List AOper := [
  ⟨some 4, .mv (.c (.fn (.func 40) [] [])), none, []⟩]
abbrev r24_3 : List AOper := [
  ⟨some 5, .load none (.t 1), none, []⟩]
abbrev r24_4 : List AOper := [
  ⟨some 7, .bin .eql (.t 5) (.c (.str ⟨#[43]⟩)), none, []⟩,
  ⟨some 6, .mv (.t 7), none, [0]⟩]
abbrev r24_5 : List AOper := [
  ⟨some 8, .bin .eql (.t 5) (.c (.str ⟨#[45]⟩)), none, []⟩,
  ⟨some 6, .mv (.t 8), none, [0]⟩]
abbrev r24_6 : List AOper := [
  ⟨some 9, .bin .eql (.t 5) (.c (.str ⟨#[42]⟩)), none, []⟩,
  ⟨some 6, .mv (.t 9), none, [0]⟩]
abbrev r24_7 : List AOper := [
  ⟨some 10, .bin .eql (.t 5) (.c (.str ⟨#[47]⟩)), none, []⟩,
  ⟨some 6, .mv (.t 10), none, [0]⟩]
abbrev r24_8 : List AOper := [
  ⟨some 11, .bin .eql (.t 5) (.c (.str ⟨#[100, 105, 118]⟩)), none, []⟩,
  ⟨some 6, .mv (.t 11), none, [0]⟩]
abbrev r24_9 : List AOper := [
  ⟨some 12, .bin .eql (.t 5) (.c (.str ⟨#[114, 101, 109]⟩)), none, []⟩,
  ⟨some 6, .mv (.t 12), none, [0]⟩]
abbrev r24_10 : List AOper := [
  ⟨some 13, .mkfn (.func 43) [] [(.t 1)], none, []⟩,
  ⟨some 2, .mv (.t 13), none, [0, 0]⟩]
abbrev r24_11 : List AOper := [
  ⟨some 15, .bin .eql (.t 5) (.c (.str ⟨#[61, 61]⟩)), none, []⟩,
  ⟨some 14, .mv (.t 15), none, [0]⟩]
abbrev r24_12 : List AOper := [
  ⟨some 16, .mv (.t 3), none, []⟩,
  ⟨some 17, .callV (.t 16) [(.c (.fn (.func 46) [] []))], none, [0]⟩,
  ⟨some 2, .mv (.t 17), none, [1, 1, 0, 1]⟩]
abbrev r24_13 : List AOper := [
  ⟨some 19, .bin .eql (.t 5) (.c (.str ⟨#[47, 61]⟩)), none, []⟩,
  ⟨some 18, .mv (.t 19), none, [0]⟩]
abbrev r24_14 : List AOper := [
  ⟨some 20, .mv (.t 3), none, []⟩,
  ⟨some 21, .callV (.t 20) [(.c (.fn (.func 47) [] []))], none, [0]⟩,
  ⟨some 2, .mv (.t 21), none, [1, 1, 0, 1]⟩]
abbrev r24_15 : List AOper := [
  ⟨some 23, .bin .eql (.t 5) (.c (.str ⟨#[61, 60]⟩)), none, []⟩,
  ⟨some 22, .mv (.t 23), none, [0]⟩]
abbrev r24_16 : List AOper := [
  ⟨some 24, .mv (.t 3), none, []⟩,
  ⟨some 25, .callV (.t 24) [(.c (.fn (.func 48) [] []))], none, [0]⟩,
  ⟨some 2, .mv (.t 25), none, [1, 1, 0, 1]⟩]
abbrev r24_17 : List AOper := [
  ⟨some 27, .bin .eql (.t 5) (.c (.str ⟨#[60]⟩)), none, []⟩,
  ⟨some 26, .mv (.t 27), none, [0]⟩]
abbrev r24_18 : List AOper := [
  ⟨some 28, .mv (.t 3), none, []⟩,
  ⟨some 29, .callV (.t 28) [(.c (.fn (.func 49) [] []))], none, [0]⟩,
  ⟨some 2, .mv (.t 29), none, [1, 1, 0, 1]⟩]
abbrev r24_19 : List AOper := [
  ⟨some 31, .bin .eql (.t 5) (.c (.str ⟨#[62, 61]⟩)), none, []⟩,
  ⟨some 30, .mv (.t 31), none, [0]⟩]
abbrev r24_20 : List AOper := [
  ⟨some 32, .mv (.t 3), none, []⟩,
  ⟨some 33, .callV (.t 32) [(.c (.fn (.func 50) [] []))], none, [0]⟩,
  ⟨some 2, .mv (.t 33), none, [1, 1, 0, 1]⟩]
abbrev r24_21 : List AOper := [
  ⟨some 35, .bin .eql (.t 5) (.c (.str ⟨#[62]⟩)), none, []⟩,
  ⟨some 34, .mv (.t 35), none, [0]⟩]
abbrev r24_22 : List AOper := [
  ⟨some 36, .mv (.t 3), none, []⟩,
  ⟨some 37, .callV (.t 36) [(.c (.fn (.func 51) [] []))], none, [0]⟩,
  ⟨some 2, .mv (.t 37), none, [1, 1, 0, 1]⟩]
abbrev r24_23 : List AOper := [
  ⟨some 39, .bin .eql (.t 5) (.c (.str ⟨#[61, 58, 61]⟩)), none, []⟩,
  ⟨some 38, .mv (.t 39), none, [0]⟩]
abbrev r24_24 : List AOper := [
  ⟨some 40, .mv (.t 4), none, []⟩,
  ⟨some 41, .callV (.t 40) [(.c (.bool true))], none, [0]⟩,
  ⟨some 2, .mv (.t 41), none, [1, 1, 0, 1]⟩]
abbrev r24_25 : List AOper := [
  ⟨some 43, .bin .eql (.t 5) (.c (.str ⟨#[61, 47, 61]⟩)), none, []⟩,
  ⟨some 42, .mv (.t 43), none, [0]⟩]
abbrev r24_26 : List AOper := [
  ⟨some 44, .mv (.t 4), none, []⟩,
  ⟨some 45, .callV (.t 44) [(.c (.bool false))], none, [0]⟩,
  ⟨some 2, .mv (.t 45), none, [1, 1, 0, 1]⟩]
abbrev r24_27 : List AOper := [
  ⟨some 47, .bin .eql (.t 5) (.c (.str ⟨#[43, 43]⟩)), none, []⟩,
  ⟨some 46, .mv (.t 47), none, [0]⟩]
abbrev r24_28 : List AOper := [
  ⟨some 2, .mv (.c (.fn (.func 52) [] [])), none, []⟩]
abbrev r24_29 : List AOper := [
  ⟨some 2, .mv (.c (.nilf)), none, []⟩]
def k24 : List (List Nat) := [[1], [1, 3], [1, 3, 4], [1, 3, 4, 5], [1, 3, 4, 5, 6], [1, 3, 4, 5, 6], [1, 3, 4, 5, 6], [1, 3, 4, 5, 6], [1, 3, 4, 5, 6], [1, 3, 4, 5, 6], [2], [3, 4, 5, 14], [2], [3, 4, 5, 18], [2], [3, 4, 5, 22], [2], [3, 4, 5, 26], [2], [3, 4, 5, 30], [2], [3, 4, 5, 34], [2], [4, 5, 38], [2], [4, 5, 42], [2], [46], [2], [2]]
def f24 : AFunc := { ntmps := 48, results := [.tmp 2], body := (
  .seq (
  .region false r24_0 [1]) (
  .seq (
  .region false r24_1 [1, 3]) (
  .seq (
  .region false r24_2 [1, 3, 4]) (
  .seq (
  .seq (
  .region false r24_3 [1, 3, 4, 5]) (
  .block 0 (
    .seq (
    .seq (
    .region false r24_4 [1, 3, 4, 5, 6]) (
    .cond (.t 6) (
      .skip) (
      .seq (
      .region false r24_5 [1, 3, 4, 5, 6]) (
      .cond (.t 6) (
        .skip) (
        .seq (
        .region false r24_6 [1, 3, 4, 5, 6]) (
        .cond (.t 6) (
          .skip) (
          .seq (
          .region false r24_7 [1, 3, 4, 5, 6]) (
          .cond (.t 6) (
            .skip) (
            .seq (
            .region false r24_8 [1, 3, 4, 5, 6]) (
            .cond (.t 6) (
              .skip) (
              .region false r24_9 [1, 3, 4, 5, 6]))))))))))) (
    .cond (.t 6) (
      .seq (
      .region false r24_10 [2]) (
      .ret)) (
      .seq (
      .region false r24_11 [3, 4, 5, 14]) (
      .cond (.t 14) (
        .seq (
        .region false r24_12 [2]) (
        .ret)) (
        .seq (
        .region false r24_13 [3, 4, 5, 18]) (
        .cond (.t 18) (
          .seq (
          .region false r24_14 [2]) (
          .ret)) (
          .seq (
          .region false r24_15 [3, 4, 5, 22]) (
          .cond (.t 22) (
            .seq (
            .region false r24_16 [2]) (
            .ret)) (
            .seq (
            .region false r24_17 [3, 4, 5, 26]) (
            .cond (.t 26) (
              .seq (
              .region false r24_18 [2]) (
              .ret)) (
              .seq (
              .region false r24_19 [3, 4, 5, 30]) (
              .cond (.t 30) (
                .seq (
                .region false r24_20 [2]) (
                .ret)) (
                .seq (
                .region false r24_21 [3, 4, 5, 34]) (
                .cond (.t 34) (
                  .seq (
                  .region false r24_22 [2]) (
                  .ret)) (
                  .seq (
                  .region false r24_23 [4, 5, 38]) (
                  .cond (.t 38) (
                    .seq (
                    .region false r24_24 [2]) (
                    .ret)) (
                    .seq (
                    .region false r24_25 [4, 5, 42]) (
                    .cond (.t 42) (
                      .seq (
                      .region false r24_26 [2]) (
                      .ret)) (
                      .seq (
                      .region false r24_27 [46]) (
                      .cond (.t 46) (
                        .seq (
                        .region false r24_28 [2]) (
                        .ret)) (
                        .skip))))))))))))))))))))))) (
  .seq (
  .region false r24_29 [2]) (
  .ret)))))) }
theorem c24 : cfunc Tryz.prog (kof k24) Tryz.f24 = some f24 := by kernel_rfl

/-- exitwave/bif.told -/
abbrev r26_0 : List AOper := [
  ⟨some 2, .alloc 25 (.agg [.int .i64 0, .int .i64 0, .flt .f64 0, .str ⟨#[]⟩, .nils]), none, []⟩,
  ⟨some 3, .alloc 31 (.int .i64 0), none, []⟩]
abbrev r26_1 : List AOper := [
  ⟨some 4, .mkfn (.func 58) [] [(.t 2), (.t 3)], none, []⟩,
  ⟨none, .dfr (.t 4) [], none, [0]⟩]
abbrev r26_2 : List AOper := [
  ⟨some 5, .mv (.t 0), none, []⟩,
  ⟨some 6, .callV (.t 5) [], none, [0]⟩,
  ⟨some 7, .callF 59 [(.t 6)], none, [1, 1]⟩,
  ⟨none, .store 5 (.t 2) (.t 7), none, [2, 2, 0, 1, 2]⟩,
  ⟨none, .store 1 (.t 3) (.c (.int .i64 0)), none, [3, 0, 1, 2, 3]⟩]
def k26 : List (List Nat) := [[0, 2, 3], [0, 2, 3], [2, 3]]
def f26 : AFunc := { ntmps := 8, results := [.cell 2 (some 5), .cell 3 none], body := (
  .seq (
  .region false r26_0 [0, 2, 3]) (
  .seq (
  .region false r26_1 [0, 2, 3]) (
  .seq (
  .region false r26_2 [2, 3]) (
  .ret)))) }
theorem c26 : cfunc Tryz.prog (kof k26) Tryz.f26 = some f26 := by kernel_rfl

/-- exitwave/bif.Op$1 -/
abbrev r27_0 : List AOper := [
  ⟨some 2, .alloc 25 (.agg [.int .i64 0, .int .i64 0, .flt .f64 0, .str ⟨#[]⟩, .nils]), none, []⟩]
abbrev r27_1 : List AOper := [
  ⟨some 3, .load none (.t 0), none, []⟩,
  ⟨some 4, .load none (.t 1), none, []⟩,
  ⟨some 5, .callV (.t 3) [(.t 4)], none, [0, 1]⟩,
  ⟨none, .store 5 (.t 2) (.t 5), none, [2, 2, 0, 1, 2]⟩]
def k27 : List (List Nat) := [[0, 1, 2], [2]]
def f27 : AFunc := { ntmps := 6, results := [.cell 2 (some 5)], body := (
  .seq (
  .region false r27_0 [0, 1, 2]) (
  .seq (
  .region false r27_1 [2]) (
  .ret))) }
theorem c27 : cfunc Tryz.prog (kof k27) Tryz.f27 = some f27 := by kernel_rfl

/-- exitwave/bif.find -/
abbrev r28_0 : List AOper := [
  ⟨some 4, .alloc 59 (.agg [.int .i64 0, .bool false, .nilf]), none, []⟩,
  ⟨some 5, .mv (.c (.bool false)), none, []⟩]
abbrev r28_1 : List AOper := [
  ⟨some 8, .mv (.t 0), none, []⟩,
  ⟨some 9, .callF 60 [(.t 8)], none, [0]⟩,
  ⟨some 10, .len 1 (.t 9), none, [1]⟩,
  ⟨some 11, .mv (.c (.int .i64 0)), none, []⟩]
abbrev r28_2 : List AOper := [
  ⟨some 12, .bin .lss (.t 11) (.t 10), none, []⟩]
abbrev r28_3 : List AOper := [
  ⟨some 13, .iaddr 3 (.t 9) (.t 11), none, []⟩,
  ⟨some 14, .load (some 3) (.t 13), none, [0]⟩,
  ⟨some 7, .alloc 59 (.agg [.int .i64 0, .bool false, .nilf]), none, []⟩,
  ⟨none, .store 3 (.t 7) (.t 14), none, [2, 1, 0, 1, 2]⟩]
abbrev r28_4 : List AOper := [
  ⟨some 15, .faddr 0 (.t 7), none, []⟩,
  ⟨some 16, .load none (.t 15), none, [0]⟩,
  ⟨some 17, .mv (.t 1), none, []⟩,
  ⟨some 18, .bin .eql (.t 16) (.t 17), none, [1, 2]⟩]
abbrev r28_5 : List AOper := [
  ⟨some 19, .load (some 3) (.t 7), none, []⟩,
  ⟨none, .store 3 (.t 4) (.t 19), none, [0, 0]⟩,
  ⟨some 5, .mv (.c (.bool true)), none, [1, 0, 1]⟩]
abbrev r28_6 : List AOper := [
  ⟨some 20, .bin .add (.t 11) (.c (.int .i64 1)), none, []⟩,
  ⟨some 11, .mv (.t 20), none, [0]⟩]
def l28_0 : ACode :=
  .seq (
  .region false r28_2 [1, 4, 9, 10, 11, 12]) (
  .seq (
  .cond (.t 12) (
    .skip) (
    .exit 0)) (
  .seq (
  .block 1 (
    .seq (
    .region false r28_3 [1, 4, 7, 9, 10, 11]) (
    .seq (
    .region false r28_4 [1, 4, 7, 9, 10, 11, 18]) (
    .cond (.t 18) (
      .seq (
      .region false r28_5 [4, 5]) (
      .ret)) (
      .skip))))) (
  .region false r28_6 [1, 4, 9, 10, 11])))
abbrev r28_7 : List AOper := [
  ⟨some 21, .build [.int .i64 0, .bool false, .nilf] [], none, []⟩,
  ⟨none, .store 3 (.t 4) (.t 21), none, [0, 0]⟩,
  ⟨some 5, .mv (.c (.bool false)), none, [1, 0, 1]⟩]
def k28 : List (List Nat) := [[0, 1, 4], [1, 4, 9, 10, 11], [1, 4, 9, 10, 11, 12], [1, 4, 7, 9, 10, 11], [1, 4, 7, 9, 10, 11, 18], [4, 5], [1, 4, 9, 10, 11], [4, 5]]
def f28 : AFunc := { ntmps := 22, results := [.cell 4 (some 3), .tmp 5], body := (
  .seq (
  .region false r28_0 [0, 1, 4]) (
  .seq (
  .seq (
  .region false r28_1 [1, 4, 9, 10, 11]) (
  .block 0 (
    .loop l28_0))) (
  .seq (
  .region false r28_7 [4, 5]) (
  .ret)))) }
theorem c28 : cfunc Tryz.prog (kof k28) Tryz.f28 = some f28 := by kernel_rfl

/-- exitwave/bif.Call$1 -/
abbrev r29_0 : List AOper := [
  ⟨some 3, .alloc 25 (.agg [.int .i64 0, .int .i64 0, .flt .f64 0, .str ⟨#[]⟩, .nils]), none, []⟩]
abbrev r29_1 : List AOper := [
  ⟨some 4, .faddr 2 (.t 0), none, []⟩,
  ⟨some 5, .load none (.t 4), none, [0]⟩,
  ⟨some 6, .load none (.t 1), none, []⟩,
  ⟨some 7, .load none (.t 2), none, []⟩,
  ⟨some 8, .build [.nils, .nilf] [(0, 1, (.t 6)), (1, 1, (.t 7))], none, [2, 3]⟩,
  ⟨some 9, .box 53 (.t 8), none, [4]⟩,
  ⟨some 10, .callV (.t 5) [(.t 9)], none, [1, 5]⟩,
  ⟨none, .store 5 (.t 3) (.t 10), none, [6, 6, 0, 1, 2, 3, 4, 5, 6]⟩]
def k29 : List (List Nat) := [[0, 1, 2, 3], [3]]
def f29 : AFunc := { ntmps := 11, results := [.cell 3 (some 5)], body := (
  .seq (
  .region false r29_0 [0, 1, 2, 3]) (
  .seq (
  .region false r29_1 [3]) (
  .ret))) }
theorem c29 : cfunc Tryz.prog (kof k29) Tryz.f29 = some f29 := by kernel_rfl

/-- exitwave/bif.two$1 -/
abbrev r37_0 : List AOper := [
  ⟨some 1, .box 70 (.t 0), none, []⟩,
  ⟨some 2, .mv (.c (.nilf)), none, []⟩]
abbrev r37_1 : List AOper := [
  ⟨some 3, .mkfn (.func 38) [] [(.t 1)], none, []⟩,
  ⟨some 2, .mv (.t 3), none, [0, 0]⟩]
def k37 : List (List Nat) := [[1], [2]]
def f37 : AFunc := { ntmps := 4, results := [.tmp 2], body := (
  .seq (
  .region false r37_0 [1]) (
  .seq (
  .region false r37_1 [2]) (
  .ret))) }
theorem c37 : cfunc Tryz.prog (kof k37) Tryz.f37 = some f37 := by kernel_rfl

/-- exitwave/bif.two$1$1 -/
abbrev r38_0 : List AOper := [
  ⟨some 3, .alloc 25 (.agg [.int .i64 0, .int .i64 0, .flt .f64 0, .str ⟨#[]⟩, .nils]), none, []⟩]
abbrev r38_1 : List AOper := [
  ⟨some 7, .mv (.t 0), none, []⟩,
  ⟨some 8, .nilchk (.t 7), none, [0]⟩,
  ⟨some 9, .faddr 0 (.t 8), none, [1]⟩,
  ⟨some 10, .load none (.t 9), none, [2]⟩,
  ⟨some 11, .iaddr 5 (.t 10) (.c (.int .i64 0)), none, [3]⟩,
  ⟨some 12, .load (some 5) (.t 11), none, [4]⟩,
  ⟨some 13, .mv (.t 0), none, []⟩,
  ⟨some 14, .nilchk (.t 13), none, [6]⟩,
  ⟨some 15, .faddr 0 (.t 14), none, [7]⟩,
  ⟨some 16, .load none (.t 15), none, [8]⟩,
  ⟨some 17, .iaddr 5 (.t 16) (.c (.int .i64 1)), none, [9]⟩,
  ⟨some 18, .load (some 5) (.t 17), none, [10]⟩,
  ⟨some 19, .callF 10 [(.t 12), (.t 18)], none, [5, 11]⟩,
  ⟨some 6, .mv (.t 19), none, [12]⟩,
  ⟨some 20, .extract (.t 6) 0, none, [13]⟩,
  ⟨some 21, .extract (.t 6) 1, none, [13]⟩,
  ⟨some 4, .mv (.t 20), none, [14, 12, 0, 1, 2, 3, 4, 5, 6, 7, 8, 9, 10, 11, 12, 13, 14]⟩,
  ⟨some 5, .mv (.t 21), none, [15, 16, 0, 1, 2, 3, 4, 5, 6, 7, 8, 9, 10, 11, 12, 13, 14, 15, 16]⟩]
abbrev r38_2 : List AOper := [
  ⟨some 22, .load none (.t 1), none, []⟩,
  ⟨some 23, .mv (.t 4), none, []⟩,
  ⟨some 24, .callV (.t 22) [(.t 23)], none, [0, 1]⟩,
  ⟨some 25, .callF 39 [(.t 24)], none, [2, 2]⟩,
  ⟨none, .store 5 (.t 3) (.t 25), none, [3, 3, 0, 1, 2, 3]⟩]
def m38_1 : List Nat := [0, 1, 3, 7, 15, 31, 0, 64, 192, 448, 960, 1984, 4095, 8191, 16383, 16383, 32767, 131071]
theorem d38_1 : okDraw r38_1 m38_1 = true := by kernel_rfl
def k38 : List (List Nat) := [[0, 1, 3], [1, 3, 4], [3]]
def f38 : AFunc := { ntmps := 26, results := [.cell 3 (some 5)], body := (
  .seq (
  .region false r38_0 [0, 1, 3]) (
  .seq (
  .region true r38_1 [1, 3, 4]) (
  .seq (
  .region false r38_2 [3]) (
  .ret)))) }
theorem c38 : cfunc Tryz.prog (kof k38) Tryz.f38 = some f38 := by kernel_rfl

/-- exitwave/term.Cmp -/
abbrev r10_0 : List AOper := [
  ⟨some 2, .box 25 (.t 0), none, []⟩,
  ⟨some 3, .box 25 (.t 1), none, []⟩,
  ⟨some 4, .mv (.c (.int .i64 0)), none, []⟩,
  ⟨some 5, .mv (.c (.int .i64 0)), none, [2]⟩]
abbrev r10_1 : List AOper := [
  ⟨some 7, .load (some 5) (.t 2), none, []⟩,
  ⟨some 8, .load (some 5) (.t 3), none, []⟩,
  ⟨some 9, .callF 22 [(.t 7), (.t 8)], none, [0, 1]⟩,
  ⟨some 6, .mv (.t 9), none, [2, 2, 0, 1, 2]⟩]
abbrev r10_2 : List AOper := [
  ⟨some 10, .mv (.t 6), none, []⟩,
  ⟨some 11, .bin .neq (.t 10) (.c (.int .i64 0)), none, [0]⟩]
abbrev r10_3 : List AOper := [
  ⟨some 12, .mv (.t 6), none, []⟩,
  ⟨some 4, .mv (.c (.int .i64 0)), none, []⟩,
  ⟨some 5, .mv (.t 12), none, [0, 1, 0, 1]⟩]
abbrev r10_4 : List AOper := [
  ⟨some 13, .load (some 5) (.t 2), none, []⟩,
  ⟨some 14, .load (some 5) (.t 3), none, []⟩,
  ⟨some 15, .callF 23 [(.t 13), (.t 14)], none, [0, 1]⟩,
  ⟨some 4, .mv (.t 15), none, [2, 2, 0, 1, 2]⟩,
  ⟨some 5, .mv (.c (.int .i64 0)), none, [3, 0, 1, 2, 3]⟩]
def k10 : List (List Nat) := [[2, 3], [2, 3, 6], [2, 3, 6, 11], [4, 5], [4, 5]]
def f10 : AFunc := { ntmps := 16, results := [.tmp 4, .tmp 5], body := (
  .seq (
  .region false r10_0 [2, 3]) (
  .seq (
  .seq (
  .region false r10_1 [2, 3, 6]) (
  .seq (
  .region false r10_2 [2, 3, 6, 11]) (
  .cond (.t 11) (
    .seq (
    .region false r10_3 [4, 5]) (
    .ret)) (
    .skip)))) (
  .seq (
  .region false r10_4 [4, 5]) (
  .ret)))) }
theorem c10 : cfunc Tryz.prog (kof k10) Tryz.f10 = some f10 := by kernel_rfl

/-- exitwave/bif.truth -/
abbrev r39_0 : List AOper := [
  ⟨some 2, .alloc 25 (.agg [.int .i64 0, .int .i64 0, .flt .f64 0, .str ⟨#[]⟩, .nils]), none, []⟩]
abbrev r39_1 : List AOper := [
  ⟨some 3, .mv (.t 0), none, []⟩]
abbrev r39_2 : List AOper := [
  ⟨some 4, .callF 69 [(.c (.str ⟨#[116, 114, 117, 101]⟩))], none, []⟩,
  ⟨none, .store 5 (.t 2) (.t 4), none, [0, 0, 0]⟩]
abbrev r39_3 : List AOper := [
  ⟨some 5, .callF 69 [(.c (.str ⟨#[102, 97, 108, 115, 101]⟩))], none, []⟩,
  ⟨none, .store 5 (.t 2) (.t 5), none, [0, 0, 0]⟩]
def k39 : List (List Nat) := [[0, 2], [2, 3], [2], [2]]
def f39 : AFunc := { ntmps := 6, results := [.cell 2 (some 5)], body := (
  .seq (
  .region false r39_0 [0, 2]) (
  .seq (
  .seq (
  .region false r39_1 [2, 3]) (
  .cond (.t 3) (
    .seq (
    .region false r39_2 [2]) (
    .ret)) (
    .skip))) (
  .seq (
  .region false r39_3 [2]) (
  .ret)))) }
theorem c39 : cfunc Tryz.prog (kof k39) Tryz.f39 = some f39 := by kernel_rfl

/-- exitwave/bif.two$2 -/
abbrev r40_0 : List AOper := [
  ⟨some 1, .box 4 (.t 0), none, []⟩,
  ⟨some 2, .mv (.c (.nilf)), none, []⟩]
abbrev r40_1 : List AOper := [
  ⟨some 3, .mkfn (.func 41) [] [(.t 1)], none, []⟩,
  ⟨some 2, .mv (.t 3), none, [0, 0]⟩]
def k40 : List (List Nat) := [[1], [2]]
def f40 : AFunc := { ntmps := 4, results := [.tmp 2], body := (
  .seq (
  .region false r40_0 [1]) (
  .seq (
  .region false r40_1 [2]) (
  .ret))) }
theorem c40 : cfunc Tryz.prog (kof k40) Tryz.f40 = some f40 := by kernel_rfl

/-- exitwave/bif.two$2$1 -/
abbrev r41_0 : List AOper := [
  ⟨some 3, .alloc 25 (.agg [.int .i64 0, .int .i64 0, .flt .f64 0, .str ⟨#[]⟩, .nils]), none, []⟩]
abbrev r41_1 : List AOper := [
  ⟨some 7, .mv (.t 0), none, []⟩,
  ⟨some 8, .nilchk (.t 7), none, [0]⟩,
  ⟨some 9, .faddr 0 (.t 8), none, [1]⟩,
  ⟨some 10, .load none (.t 9), none, [2]⟩,
  ⟨some 11, .iaddr 5 (.t 10) (.c (.int .i64 0)), none, [3]⟩,
  ⟨some 12, .load (some 5) (.t 11), none, [4]⟩,
  ⟨some 13, .mv (.t 0), none, []⟩,
  ⟨some 14, .nilchk (.t 13), none, [6]⟩,
  ⟨some 15, .faddr 0 (.t 14), none, [7]⟩,
  ⟨some 16, .load none (.t 15), none, [8]⟩,
  ⟨some 17, .iaddr 5 (.t 16) (.c (.int .i64 1)), none, [9]⟩,
  ⟨some 18, .load (some 5) (.t 17), none, [10]⟩,
  ⟨some 19, .callF 42 [(.t 12), (.t 18)], none, [5, 11]⟩,
  ⟨some 6, .mv (.t 19), none, [12]⟩,
  ⟨some 20, .extract (.t 6) 0, none, [13]⟩,
  ⟨some 21, .extract (.t 6) 1, none, [13]⟩,
  ⟨some 4, .mv (.t 20), none, [14, 12, 0, 1, 2, 3, 4, 5, 6, 7, 8, 9, 10, 11, 12, 13, 14]⟩,
  ⟨some 5, .mv (.t 21), none, [15, 16, 0, 1, 2, 3, 4, 5, 6, 7, 8, 9, 10, 11, 12, 13, 14, 15, 16]⟩]
abbrev r41_2 : List AOper := [
  ⟨some 22, .mv (.t 4), none, []⟩,
  ⟨some 23, .load none (.t 1), none, []⟩,
  ⟨some 24, .eqB false (.t 22) (.t 23), none, [0, 1]⟩,
  ⟨some 25, .callF 39 [(.t 24)], none, [2]⟩,
  ⟨none, .store 5 (.t 3) (.t 25), none, [3, 3, 0, 1, 2, 3]⟩]
def m41_1 : List Nat := [0, 1, 3, 7, 15, 31, 0, 64, 192, 448, 960, 1984, 4095, 8191, 16383, 16383, 32767, 131071]
theorem d41_1 : okDraw r41_1 m41_1 = true := by kernel_rfl
def k41 : List (List Nat) := [[0, 1, 3], [1, 3, 4], [3]]
def f41 : AFunc := { ntmps := 26, results := [.cell 3 (some 5)], body := (
  .seq (
  .region false r41_0 [0, 1, 3]) (
  .seq (
  .region true r41_1 [1, 3, 4]) (
  .seq (
  .region false r41_2 [3]) (
  .ret)))) }
theorem c41 : cfunc Tryz.prog (kof k41) Tryz.f41 = some f41 := by kernel_rfl

/-- exitwave/term.Same -/
abbrev r42_0 : List AOper := [
  ⟨some 2, .box 25 (.t 0), none, []⟩,
  ⟨some 3, .box 25 (.t 1), none, []⟩,
  ⟨some 4, .mv (.c (.bool false)), none, []⟩,
  ⟨some 5, .mv (.c (.int .i64 0)), none, [2]⟩]
abbrev r42_1 : List AOper := [
  ⟨some 7, .load (some 5) (.t 2), none, []⟩,
  ⟨some 8, .load (some 5) (.t 3), none, []⟩,
  ⟨some 9, .callF 22 [(.t 7), (.t 8)], none, [0, 1]⟩,
  ⟨some 6, .mv (.t 9), none, [2, 2, 0, 1, 2]⟩]
abbrev r42_2 : List AOper := [
  ⟨some 10, .mv (.t 6), none, []⟩,
  ⟨some 11, .bin .neq (.t 10) (.c (.int .i64 0)), none, [0]⟩]
abbrev r42_3 : List AOper := [
  ⟨some 12, .mv (.t 6), none, []⟩,
  ⟨some 4, .mv (.c (.bool false)), none, []⟩,
  ⟨some 5, .mv (.t 12), none, [0, 1, 0, 1]⟩]
abbrev r42_4 : List AOper := [
  ⟨some 13, .load (some 5) (.t 2), none, []⟩,
  ⟨some 14, .load (some 5) (.t 3), none, []⟩,
  ⟨some 15, .callF 70 [(.t 13), (.t 14)], none, [0, 1]⟩,
  ⟨some 4, .mv (.t 15), none, [2, 2, 0, 1, 2]⟩,
  ⟨some 5, .mv (.c (.int .i64 0)), none, [3, 0, 1, 2, 3]⟩]
def k42 : List (List Nat) := [[2, 3], [2, 3, 6], [2, 3, 6, 11], [4, 5], [4, 5]]
def f42 : AFunc := { ntmps := 16, results := [.tmp 4, .tmp 5], body := (
  .seq (
  .region false r42_0 [2, 3]) (
  .seq (
  .seq (
  .region false r42_1 [2, 3, 6]) (
  .seq (
  .region false r42_2 [2, 3, 6, 11]) (
  .cond (.t 11) (
    .seq (
    .region false r42_3 [4, 5]) (
    .ret)) (
    .skip)))) (
  .seq (
  .region false r42_4 [4, 5]) (
  .ret)))) }
theorem c42 : cfunc Tryz.prog (kof k42) Tryz.f42 = some f42 := by kernel_rfl

/-- exitwave/bif.two$4 -/
abbrev r46_0 : List AOper := [
  ⟨some 2, .mv (.c (.bool false)), none, []⟩]
abbrev r46_1 : List AOper := [
  ⟨some 3, .mv (.t 0), none, []⟩,
  ⟨some 4, .bin .eql (.t 3) (.c (.int .i64 0)), none, [0]⟩,
  ⟨some 2, .mv (.t 4), none, [1, 0, 1]⟩]
def k46 : List (List Nat) := [[0], [2]]
def f46 : AFunc := { ntmps := 5, results := [.tmp 2], body := (
  .seq (
  .region false r46_0 [0]) (
  .seq (
  .region false r46_1 [2]) (
  .ret))) }
theorem c46 : cfunc Tryz.prog (kof k46) Tryz.f46 = some f46 := by kernel_rfl

/-- (*exitwave/bif.call).of -/
abbrev r56_0 : List AOper := [
  ⟨some 6, .alloc 25 (.agg [.int .i64 0, .int .i64 0, .flt .f64 0, .str ⟨#[]⟩, .nils]), none, []⟩]
abbrev r56_1 : List AOper := [
  ⟨some 7, .mv (.t 0), none, []⟩,
  ⟨some 8, .nilchk (.t 7), none, [0]⟩,
  ⟨some 9, .faddr 0 (.t 8), none, [1]⟩,
  ⟨some 10, .load none (.t 9), none, [2]⟩,
  ⟨some 11, .mv (.t 1), none, []⟩,
  ⟨some 12, .iaddr 5 (.t 10) (.t 11), none, [3, 4]⟩,
  ⟨some 13, .faddr 0 (.t 12), none, [5]⟩,
  ⟨some 14, .load none (.t 13), none, [6]⟩,
  ⟨some 15, .mv (.t 2), none, []⟩,
  ⟨some 16, .bin .neq (.t 14) (.t 15), none, [7, 8]⟩]
abbrev r56_2 : List AOper := [
  ⟨some 17, .callF 57 [], none, []⟩,
  ⟨none, .store 5 (.t 6) (.t 17), none, [0, 0, 0]⟩]
abbrev r56_3 : List AOper := [
  ⟨some 18, .mv (.t 0), none, []⟩,
  ⟨some 19, .nilchk (.t 18), none, [0]⟩,
  ⟨some 20, .faddr 0 (.t 19), none, [1]⟩,
  ⟨some 21, .load none (.t 20), none, [2]⟩,
  ⟨some 22, .mv (.t 1), none, []⟩,
  ⟨some 23, .iaddr 5 (.t 21) (.t 22), none, [3, 4]⟩,
  ⟨some 24, .load (some 5) (.t 23), none, [5]⟩,
  ⟨none, .store 5 (.t 6) (.t 24), none, [6, 0, 1, 2, 3, 4, 5, 6]⟩]
def k56 : List (List Nat) := [[0, 1, 2, 6], [0, 1, 6, 16], [6], [6]]
def f56 : AFunc := { ntmps := 25, results := [.cell 6 (some 5)], body := (
  .seq (
  .region false r56_0 [0, 1, 2, 6]) (
  .seq (
  .seq (
  .region false r56_1 [0, 1, 6, 16]) (
  .cond (.t 16) (
    .seq (
    .region false r56_2 [6]) (
    .ret)) (
    .skip))) (
  .seq (
  .region false r56_3 [6]) (
  .ret)))) }
theorem c56 : cfunc Tryz.prog (kof k56) Tryz.f56 = some f56 := by kernel_rfl

/-- exitwave/bif.bad -/
abbrev r57_0 : List AOper := [
  ⟨some 0, .alloc 25 (.agg [.int .i64 0, .int .i64 0, .flt .f64 0, .str ⟨#[]⟩, .nils]), none, []⟩]
abbrev r57_1 : List AOper := [
  ⟨some 1, .mkifc 31 (.c (.int .i64 13)), none, []⟩,
  ⟨none, .pan (.t 1), none, [0]⟩]
def k57 : List (List Nat) := [[0], [0]]
def f57 : AFunc := { ntmps := 2, results := [.cell 0 (some 5)], body := (
  .seq (
  .region false r57_0 [0]) (
  .region false r57_1 [0])) }
theorem c57 : cfunc Tryz.prog (kof k57) Tryz.f57 = some f57 := by kernel_rfl

/-- exitwave/bif.told$1 -/
abbrev r58_0 : List AOper := [
  ⟨some 5, .recov, none, []⟩]
abbrev r58_3 : List AOper := [
  ⟨some 7, .eqN 4 false (.t 5) (.c (.nili)), none, []⟩]
abbrev r58_4 : List AOper := [
  ⟨some 2, .mv (.t 5), none, []⟩]
abbrev r58_5 : List AOper := [
  ⟨some 8, .tassert 31 (.int .i64 0) true (.t 5), none, []⟩,
  ⟨some 9, .extract (.t 8) 1, none, [0]⟩,
  ⟨some 10, .extract (.t 8) 0, none, [0]⟩]
abbrev r58_6 : List AOper := [
  ⟨some 3, .mv (.t 10), none, []⟩]
abbrev r58_7 : List AOper := [
  ⟨some 11, .build [.int .i64 0, .int .i64 0, .flt .f64 0, .str ⟨#[]⟩, .nils] [], none, []⟩,
  ⟨some 12, .mv (.t 3), none, []⟩,
  ⟨none, .store 5 (.t 0) (.t 11), none, [0, 0]⟩,
  ⟨none, .store 1 (.t 1) (.t 12), none, [1, 2, 0, 1, 2]⟩]
abbrev r58_1 : List AOper := [
  ⟨some 4, .mv (.t 5), none, []⟩]
abbrev r58_2 : List AOper := [
  ⟨some 6, .mv (.t 4), none, []⟩,
  ⟨none, .pan (.t 6), none, [0]⟩]
def k58 : List (List Nat) := [[0, 1, 5], [4], [], [0, 1, 5, 7], [], [0, 1, 5, 9, 10], [0, 1, 3], []]
def f58 : AFunc := { ntmps := 13, results := [], body := (
  .seq (
  .region false r58_0 [0, 1, 5]) (
  .block 0 (
    .seq (
    .region false r58_3 [0, 1, 5, 7]) (
    .cond (.t 7) (
      .region false r58_4 []) (
      .seq (
      .region false r58_5 [0, 1, 5, 9, 10]) (
      .cond (.t 9) (
        .seq (
        .region false r58_6 [0, 1, 3]) (
        .region false r58_7 [])) (
        .seq (
        .region false r58_1 [4]) (
        .region false r58_2 [])))))))) }
theorem c58 : cfunc Tryz.prog (kof k58) Tryz.f58 = some f58 := by kernel_rfl

/-- exitwave/term.Copy -/
abbrev r59_0 : List AOper := [
  ⟨some 1, .box 25 (.t 0), none, []⟩,
  ⟨some 2, .alloc 25 (.agg [.int .i64 0, .int .i64 0, .flt .f64 0, .str ⟨#[]⟩, .nils]), none, []⟩]
abbrev r59_1 : List AOper := [
  ⟨some 3, .faddr 4 (.t 1), none, []⟩,
  ⟨some 4, .load none (.t 3), none, [0]⟩,
  ⟨some 5, .callF 81 [(.t 4)], none, [1]⟩,
  ⟨some 6, .faddr 4 (.t 1), none, [0, 1, 2]⟩,
  ⟨none, .store 1 (.t 6) (.t 5), none, [3, 2, 2, 0, 1, 2]⟩]
abbrev r59_2 : List AOper := [
  ⟨some 7, .load (some 5) (.t 1), none, []⟩,
  ⟨none, .store 5 (.t 2) (.t 7), none, [0, 0]⟩]
def k59 : List (List Nat) := [[1, 2], [1, 2], [2]]
def f59 : AFunc := { ntmps := 8, results := [.cell 2 (some 5)], body := (
  .seq (
  .region false r59_0 [1, 2]) (
  .seq (
  .region false r59_1 [1, 2]) (
  .seq (
  .region false r59_2 [2]) (
  .ret)))) }
theorem c59 : cfunc Tryz.prog (kof k59) Tryz.f59 = some f59 := by kernel_rfl

/-- exitwave/bif.table -/
abbrev r60_0 : List AOper := [
  ⟨some 1, .box 9 (.t 0), none, []⟩,
  ⟨some 2, .mv (.c (.nils)), none, []⟩]
abbrev r60_1 : List AOper := [
  ⟨some 4, .load none (.t 1), none, []⟩]
abbrev r60_2 : List AOper := [
  ⟨some 6, .bin .eql (.t 4) (.c (.str ⟨#[97, 98, 115]⟩)), none, []⟩,
  ⟨some 5, .mv (.t 6), none, [0]⟩]
abbrev r60_3 : List AOper := [
  ⟨some 7, .build [.int .i64 0, .bool false, .nilf] [(0, 1, (.c (.int .i64 1))), (1, 1, (.c (.bool true))), (2, 1, (.c (.fn (.func 82) [] [])))], none, []⟩,
  ⟨some 8, .bslice 59 1 [.int .i64 0, .bool false, .nilf] [(0, 3, (.t 7))], none, [0]⟩,
  ⟨some 2, .mv (.t 8), none, [1, 0, 1]⟩]
abbrev r60_4 : List AOper := [
  ⟨some 10, .bin .eql (.t 4) (.c (.str ⟨#[102, 108, 111, 97, 116]⟩)), none, []⟩,
  ⟨some 9, .mv (.t 10), none, [0]⟩]
abbrev r60_5 : List AOper := [
  ⟨some 11, .build [.int .i64 0, .bool false, .nilf] [(0, 1, (.c (.int .i64 1))), (1, 1, (.c (.bool true))), (2, 1, (.c (.fn (.func 83) [] [])))], none, []⟩,
  ⟨some 12, .bslice 59 1 [.int .i64 0, .bool false, .nilf] [(0, 3, (.t 11))], none, [0]⟩,
  ⟨some 2, .mv (.t 12), none, [1, 0, 1]⟩]
abbrev r60_6 : List AOper := [
  ⟨some 14, .bin .eql (.t 4) (.c (.str ⟨#[116, 114, 117, 110, 99]⟩)), none, []⟩,
  ⟨some 13, .mv (.t 14), none, [0]⟩]
abbrev r60_7 : List AOper := [
  ⟨some 15, .bin .eql (.t 4) (.c (.str ⟨#[114, 111, 117, 110, 100]⟩)), none, []⟩,
  ⟨some 13, .mv (.t 15), none, [0]⟩]
abbrev r60_8 : List AOper := [
  ⟨some 16, .bin .eql (.t 4) (.c (.str ⟨#[102, 108, 111, 111, 114]⟩)), none, []⟩,
  ⟨some 13, .mv (.t 16), none, [0]⟩]
abbrev r60_9 : List AOper := [
  ⟨some 17, .bin .eql (.t 4) (.c (.str ⟨#[99, 101, 105, 108]⟩)), none, []⟩,
  ⟨some 13, .mv (.t 17), none, [0]⟩]
abbrev r60_10 : List AOper := [
  ⟨some 18, .mkfn (.func 84) [] [(.t 1)], none, []⟩,
  ⟨some 19, .build [.int .i64 0, .bool false, .nilf] [(0, 1, (.c (.int .i64 1))), (1, 1, (.c (.bool true))), (2, 1, (.t 18))], none, [0]⟩,
  ⟨some 20, .bslice 59 1 [.int .i64 0, .bool false, .nilf] [(0, 3, (.t 19))], none, [1]⟩,
  ⟨some 2, .mv (.t 20), none, [2, 0, 1, 2]⟩]
abbrev r60_11 : List AOper := [
  ⟨some 22, .bin .eql (.t 4) (.c (.str ⟨#[104, 100]⟩)), none, []⟩,
  ⟨some 21, .mv (.t 22), none, [0]⟩]
abbrev r60_12 : List AOper := [
  ⟨some 23, .build [.int .i64 0, .bool false, .nilf] [(0, 1, (.c (.int .i64 1))), (1, 1, (.c (.bool true))), (2, 1, (.c (.fn (.func 86) [] [])))], none, []⟩,
  ⟨some 24, .bslice 59 1 [.int .i64 0, .bool false, .nilf] [(0, 3, (.t 23))], none, [0]⟩,
  ⟨some 2, .mv (.t 24), none, [1, 0, 1]⟩]
abbrev r60_13 : List AOper := [
  ⟨some 26, .bin .eql (.t 4) (.c (.str ⟨#[116, 108]⟩)), none, []⟩,
  ⟨some 25, .mv (.t 26), none, [0]⟩]
abbrev r60_14 : List AOper := [
  ⟨some 27, .build [.int .i64 0, .bool false, .nilf] [(0, 1, (.c (.int .i64 1))), (1, 1, (.c (.bool true))), (2, 1, (.c (.fn (.func 87) [] [])))], none, []⟩,
  ⟨some 28, .bslice 59 1 [.int .i64 0, .bool false, .nilf] [(0, 3, (.t 27))], none, [0]⟩,
  ⟨some 2, .mv (.t 28), none, [1, 0, 1]⟩]
abbrev r60_15 : List AOper := [
  ⟨some 30, .bin .eql (.t 4) (.c (.str ⟨#[108, 101, 110, 103, 116, 104]⟩)), none, []⟩,
  ⟨some 29, .mv (.t 30), none, [0]⟩]
abbrev r60_16 : List AOper := [
  ⟨some 31, .build [.int .i64 0, .bool false, .nilf] [(0, 1, (.c (.int .i64 1))), (1, 1, (.c (.bool true))), (2, 1, (.c (.fn (.func 88) [] [])))], none, []⟩,
  ⟨some 32, .bslice 59 1 [.int .i64 0, .bool false, .nilf] [(0, 3, (.t 31))], none, [0]⟩,
  ⟨some 2, .mv (.t 32), none, [1, 0, 1]⟩]
abbrev r60_17 : List AOper := [
  ⟨some 34, .bin .eql (.t 4) (.c (.str ⟨#[116, 117, 112, 108, 101, 95, 115, 105, 122, 101]⟩)), none, []⟩,
  ⟨some 33, .mv (.t 34), none, [0]⟩]
abbrev r60_18 : List AOper := [
  ⟨some 35, .build [.int .i64 0, .bool false, .nilf] [(0, 1, (.c (.int .i64 1))), (1, 1, (.c (.bool true))), (2, 1, (.c (.fn (.func 89) [] [])))], none, []⟩,
  ⟨some 36, .bslice 59 1 [.int .i64 0, .bool false, .nilf] [(0, 3, (.t 35))], none, [0]⟩,
  ⟨some 2, .mv (.t 36), none, [1, 0, 1]⟩]
abbrev r60_19 : List AOper := [
  ⟨some 38, .bin .eql (.t 4) (.c (.str ⟨#[101, 108, 101, 109, 101, 110, 116]⟩)), none, []⟩,
  ⟨some 37, .mv (.t 38), none, [0]⟩]
abbrev r60_20 : List AOper := [
  ⟨some 39, .build [.int .i64 0, .bool false, .nilf] [(0, 1, (.c (.int .i64 2))), (1, 1, (.c (.bool true))), (2, 1, (.c (.fn (.func 90) [] [])))], none, []⟩,
  ⟨some 40, .bslice 59 1 [.int .i64 0, .bool false, .nilf] [(0, 3, (.t 39))], none, [0]⟩,
  ⟨some 2, .mv (.t 40), none, [1, 0, 1]⟩]
abbrev r60_21 : List AOper := [
  ⟨some 42, .bin .eql (.t 4) (.c (.str ⟨#[105, 115, 95, 102, 117, 110, 99, 116, 105, 111, 110]⟩)), none, []⟩,
  ⟨some 41, .mv (.t 42), none, [0]⟩]
abbrev r60_22 : List AOper := [
  ⟨some 43, .build [.int .i64 0, .bool false, .nilf] [(0, 1, (.c (.int .i64 1))), (1, 1, (.c (.bool true))), (2, 1, (.c (.fn (.func 91) [] [])))], none, []⟩,
  ⟨some 44, .build [.int .i64 0, .bool false, .nilf] [(0, 1, (.c (.int .i64 2))), (1, 1, (.c (.bool true))), (2, 1, (.c (.fn (.func 92) [] [])))], none, []⟩,
  ⟨some 45, .bslice 59 2 [.int .i64 0, .bool false, .nilf, .int .i64 0, .bool false, .nilf] [(0, 3, (.t 43)), (3, 3, (.t 44))], none, [0, 1]⟩,
  ⟨some 2, .mv (.t 45), none, [2, 0, 1, 2]⟩]
abbrev r60_23 : List AOper := [
  ⟨some 47, .bin .eql (.t 4) (.c (.str ⟨#[109, 105, 110]⟩)), none, []⟩,
  ⟨some 46, .mv (.t 47), none, [0]⟩]
abbrev r60_24 : List AOper := [
  ⟨some 48, .build [.int .i64 0, .bool false, .nilf] [(0, 1, (.c (.int .i64 2))), (1, 1, (.c (.bool true))), (2, 1, (.c (.fn (.func 93) [] [])))], none, []⟩,
  ⟨some 49, .bslice 59 1 [.int .i64 0, .bool false, .nilf] [(0, 3, (.t 48))], none, [0]⟩,
  ⟨some 2, .mv (.t 49), none, [1, 0, 1]⟩]
abbrev r60_25 : List AOper := [
  ⟨some 51, .bin .eql (.t 4) (.c (.str ⟨#[109, 97, 120]⟩)), none, []⟩,
  ⟨some 50, .mv (.t 51), none, [0]⟩]
abbrev r60_26 : List AOper := [
  ⟨some 52, .build [.int .i64 0, .bool false, .nilf] [(0, 1, (.c (.int .i64 2))), (1, 1, (.c (.bool true))), (2, 1, (.c (.fn (.func 94) [] [])))], none, []⟩,
  ⟨some 53, .bslice 59 1 [.int .i64 0, .bool false, .nilf] [(0, 3, (.t 52))], none, [0]⟩,
  ⟨some 2, .mv (.t 53), none, [1, 0, 1]⟩]
abbrev r60_27 : List AOper := [
  ⟨some 54, .load none (.t 1), none, []⟩,
  ⟨some 55, .callF 95 [(.t 54)], none, [0]⟩,
  ⟨some 3, .alloc 36 (.nilf), none, []⟩,
  ⟨none, .store 1 (.t 3) (.t 55), none, [2, 1, 1, 0, 1, 2]⟩]
abbrev r60_28 : List AOper := [
  ⟨some 56, .load none (.t 3), none, []⟩,
  ⟨some 57, .eqN 3 true (.t 56) (.c (.nilf)), none, [0]⟩]
abbrev r60_29 : List AOper := [
  ⟨some 58, .mkfn (.func 96) [] [(.t 3)], none, []⟩,
  ⟨some 59, .build [.int .i64 0, .bool false, .nilf] [(0, 1, (.c (.int .i64 1))), (1, 1, (.c (.bool true))), (2, 1, (.t 58))], none, [0]⟩,
  ⟨some 60, .bslice 59 1 [.int .i64 0, .bool false, .nilf] [(0, 3, (.t 59))], none, [1]⟩,
  ⟨some 2, .mv (.t 60), none, [2, 0, 1, 2]⟩]
abbrev r60_30 : List AOper := [
  ⟨some 61, .load none (.t 1), none, []⟩,
  ⟨some 62, .callF 97 [(.t 61)], none, [0]⟩,
  ⟨some 2, .mv (.t 62), none, [1, 1, 0, 1]⟩]
def k60 : List (List Nat) := [[1], [1, 4], [1, 4, 5], [2], [1, 4, 9], [2], [1, 4, 13], [1, 4, 13], [1, 4, 13], [1, 4, 13], [2], [1, 4, 21], [2], [1, 4, 25], [2], [1, 4, 29], [2], [1, 4, 33], [2], [1, 4, 37], [2], [1, 4, 41], [2], [1, 4, 46], [2], [1, 50], [2], [1, 3], [1, 3, 57], [2], [2]]
def f60 : AFunc := { ntmps := 63, results := [.tmp 2], body := (
  .seq (
  .region false r60_0 [1]) (
  .seq (
  .seq (
  .region false r60_1 [1, 4]) (
  .block 0 (
    .seq (
    .region false r60_2 [1, 4, 5]) (
    .cond (.t 5) (
      .seq (
      .region false r60_3 [2]) (
      .ret)) (
      .seq (
      .region false r60_4 [1, 4, 9]) (
      .cond (.t 9) (
        .seq (
        .region false r60_5 [2]) (
        .ret)) (
        .seq (
        .seq (
        .region false r60_6 [1, 4, 13]) (
        .cond (.t 13) (
          .skip) (
          .seq (
          .region false r60_7 [1, 4, 13]) (
          .cond (.t 13) (
            .skip) (
            .seq (
            .region false r60_8 [1, 4, 13]) (
            .cond (.t 13) (
              .skip) (
              .region false r60_9 [1, 4, 13]))))))) (
        .cond (.t 13) (
          .seq (
          .region false r60_10 [2]) (
          .ret)) (
          .seq (
          .region false r60_11 [1, 4, 21]) (
          .cond (.t 21) (
            .seq (
            .region false r60_12 [2]) (
            .ret)) (
            .seq (
            .region false r60_13 [1, 4, 25]) (
            .cond (.t 25) (
              .seq (
              .region false r60_14 [2]) (
              .ret)) (
              .seq (
              .region false r60_15 [1, 4, 29]) (
              .cond (.t 29) (
                .seq (
                .region false r60_16 [2]) (
                .ret)) (
                .seq (
                .region false r60_17 [1, 4, 33]) (
                .cond (.t 33) (
                  .seq (
                  .region false r60_18 [2]) (
                  .ret)) (
                  .seq (
                  .region false r60_19 [1, 4, 37]) (
                  .cond (.t 37) (
                    .seq (
                    .region false r60_20 [2]) (
                    .ret)) (
                    .seq (
                    .region false r60_21 [1, 4, 41]) (
                    .cond (.t 41) (
                      .seq (
                      .region false r60_22 [2]) (
                      .ret)) (
                      .seq (
                      .region false r60_23 [1, 4, 46]) (
                      .cond (.t 46) (
                        .seq (
                        .region false r60_24 [2]) (
                        .ret)) (
                        .seq (
                        .region false r60_25 [1, 50]) (
                        .cond (.t 50) (
                          .seq (
                          .region false r60_26 [2]) (
                          .ret)) (
                          .skip))))))))))))))))))))))))) (
  .seq (
  .seq (
  .region false r60_27 [1, 3]) (
  .seq (
  .region false r60_28 [1, 3, 57]) (
  .cond (.t 57) (
    .seq (
    .region false r60_29 [2]) (
    .ret)) (
    .skip)))) (
  .seq (
  .region false r60_30 [2]) (
  .ret))))) }
theorem c60 : cfunc Tryz.prog (kof k60) Tryz.f60 = some f60 := by kernel_rfl

/-- exitwave/term.both -/
abbrev r22_0 : List AOper := [
  ⟨some 2, .box 25 (.t 0), none, []⟩,
  ⟨some 3, .box 25 (.t 1), none, []⟩,
  ⟨some 4, .mv (.c (.int .i64 0)), none, []⟩]
abbrev r22_1 : List AOper := [
  ⟨some 6, .load (some 5) (.t 2), none, []⟩,
  ⟨some 7, .callF 17 [(.t 6)], none, [0]⟩,
  ⟨some 5, .mv (.t 7), none, [1, 1, 0, 1]⟩]
abbrev r22_2 : List AOper := [
  ⟨some 8, .mv (.t 5), none, []⟩,
  ⟨some 9, .bin .neq (.t 8) (.c (.int .i64 0)), none, [0]⟩]
abbrev r22_3 : List AOper := [
  ⟨some 10, .mv (.t 5), none, []⟩,
  ⟨some 4, .mv (.t 10), none, [0, 0]⟩]
abbrev r22_4 : List AOper := [
  ⟨some 11, .load (some 5) (.t 3), none, []⟩,
  ⟨some 12, .callF 17 [(.t 11)], none, [0]⟩,
  ⟨some 4, .mv (.t 12), none, [1, 1, 0, 1]⟩]
def k22 : List (List Nat) := [[2, 3], [3, 5], [3, 5, 9], [4], [4]]
def f22 : AFunc := { ntmps := 13, results := [.tmp 4], body := (
  .seq (
  .region false r22_0 [2, 3]) (
  .seq (
  .seq (
  .region false r22_1 [3, 5]) (
  .seq (
  .region false r22_2 [3, 5, 9]) (
  .cond (.t 9) (
    .seq (
    .region false r22_3 [4]) (
    .ret)) (
    .skip)))) (
  .seq (
  .region false r22_4 [4]) (
  .ret)))) }
theorem c22 : cfunc Tryz.prog (kof k22) Tryz.f22 = some f22 := by kernel_rfl

/-- exitwave/term.order -/
abbrev r23_0 : List AOper := [
  ⟨some 2, .box 25 (.t 0), none, []⟩,
  ⟨some 3, .box 25 (.t 1), none, []⟩,
  ⟨some 4, .mv (.c (.int .i64 0)), none, []⟩]
abbrev r23_1 : List AOper := [
  ⟨some 8, .faddr 0 (.t 2), none, []⟩,
  ⟨some 9, .load none (.t 8), none, [0]⟩,
  ⟨some 10, .callF 32 [(.t 9)], none, [1]⟩,
  ⟨some 11, .faddr 0 (.t 3), none, []⟩,
  ⟨some 12, .load none (.t 11), none, [3]⟩,
  ⟨some 13, .callF 32 [(.t 12)], none, [4, 2]⟩,
  ⟨some 14, .bin .sub (.t 10) (.t 13), none, [2, 5]⟩,
  ⟨some 5, .mv (.t 14), none, [6, 5, 0, 1, 2, 3, 4, 5, 6]⟩]
abbrev r23_2 : List AOper := [
  ⟨some 15, .mv (.t 5), none, []⟩,
  ⟨some 16, .bin .neq (.t 15) (.c (.int .i64 0)), none, [0]⟩]
abbrev r23_3 : List AOper := [
  ⟨some 17, .mv (.t 5), none, []⟩,
  ⟨some 18, .callF 33 [(.t 17), (.c (.int .i64 0))], none, [0]⟩,
  ⟨some 4, .mv (.t 18), none, [1, 1, 0, 1]⟩]
abbrev r23_4 : List AOper := [
  ⟨some 19, .faddr 0 (.t 2), none, []⟩,
  ⟨some 20, .load none (.t 19), none, [0]⟩]
abbrev r23_5 : List AOper := [
  ⟨some 22, .bin .eql (.t 20) (.c (.int .i64 1)), none, []⟩,
  ⟨some 21, .mv (.t 22), none, [0]⟩]
abbrev r23_6 : List AOper := [
  ⟨some 23, .bin .eql (.t 20) (.c (.int .i64 2)), none, []⟩,
  ⟨some 21, .mv (.t 23), none, [0]⟩]
abbrev r23_7 : List AOper := [
  ⟨some 24, .load (some 5) (.t 2), none, []⟩,
  ⟨some 25, .load (some 5) (.t 3), none, []⟩,
  ⟨some 26, .callF 34 [(.t 24), (.t 25)], none, [0, 1]⟩,
  ⟨some 4, .mv (.t 26), none, [2, 2, 0, 1, 2]⟩]
abbrev r23_8 : List AOper := [
  ⟨some 28, .bin .eql (.t 20) (.c (.int .i64 3)), none, []⟩,
  ⟨some 27, .mv (.t 28), none, [0]⟩]
abbrev r23_9 : List AOper := [
  ⟨some 29, .faddr 3 (.t 2), none, []⟩,
  ⟨some 30, .load none (.t 29), none, [0]⟩,
  ⟨some 31, .faddr 3 (.t 3), none, []⟩,
  ⟨some 32, .load none (.t 31), none, [2]⟩,
  ⟨some 33, .callF 35 [(.t 30), (.t 32)], none, [1, 3]⟩,
  ⟨some 4, .mv (.t 33), none, [4, 4, 0, 1, 2, 3, 4]⟩]
abbrev r23_10 : List AOper := [
  ⟨some 35, .bin .eql (.t 20) (.c (.int .i64 4)), none, []⟩,
  ⟨some 34, .mv (.t 35), none, [0]⟩]
abbrev r23_11 : List AOper := [
  ⟨some 36, .bin .eql (.t 20) (.c (.int .i64 6)), none, []⟩,
  ⟨some 34, .mv (.t 36), none, [0]⟩]
abbrev r23_12 : List AOper := [
  ⟨some 37, .faddr 1 (.t 2), none, []⟩,
  ⟨some 38, .load none (.t 37), none, [0]⟩,
  ⟨some 39, .faddr 1 (.t 3), none, []⟩,
  ⟨some 40, .load none (.t 39), none, [2]⟩,
  ⟨some 41, .callF 33 [(.t 38), (.t 40)], none, [1, 3]⟩,
  ⟨some 4, .mv (.t 41), none, [4, 4, 0, 1, 2, 3, 4]⟩]
abbrev r23_13 : List AOper := [
  ⟨some 43, .bin .eql (.t 20) (.c (.int .i64 5)), none, []⟩,
  ⟨some 42, .mv (.t 43), none, [0]⟩]
abbrev r23_14 : List AOper := [
  ⟨some 44, .faddr 1 (.t 2), none, []⟩,
  ⟨some 45, .load none (.t 44), none, [0]⟩,
  ⟨some 46, .faddr 1 (.t 3), none, []⟩,
  ⟨some 47, .load none (.t 46), none, [2]⟩,
  ⟨some 48, .callF 33 [(.t 45), (.t 47)], none, [1, 3]⟩,
  ⟨some 6, .mv (.t 48), none, [4, 4, 0, 1, 2, 3, 4]⟩]
abbrev r23_15 : List AOper := [
  ⟨some 49, .mv (.t 6), none, []⟩,
  ⟨some 50, .bin .neq (.t 49) (.c (.int .i64 0)), none, [0]⟩]
abbrev r23_16 : List AOper := [
  ⟨some 51, .mv (.t 6), none, []⟩,
  ⟨some 4, .mv (.t 51), none, [0, 0]⟩]
abbrev r23_17 : List AOper := [
  ⟨some 53, .bin .eql (.t 20) (.c (.int .i64 7)), none, []⟩,
  ⟨some 52, .mv (.t 53), none, [0]⟩]
abbrev r23_18 : List AOper := [
  ⟨some 54, .faddr 4 (.t 2), none, []⟩,
  ⟨some 55, .load none (.t 54), none, [0]⟩,
  ⟨some 56, .len 1 (.t 55), none, [1]⟩,
  ⟨some 57, .faddr 4 (.t 3), none, []⟩,
  ⟨some 58, .load none (.t 57), none, [3]⟩,
  ⟨some 59, .len 1 (.t 58), none, [4]⟩,
  ⟨some 60, .callF 33 [(.t 56), (.t 59)], none, [2, 5]⟩,
  ⟨some 7, .mv (.t 60), none, [6, 6, 0, 1, 2, 3, 4, 5, 6]⟩]
abbrev r23_19 : List AOper := [
  ⟨some 61, .mv (.t 7), none, []⟩,
  ⟨some 62, .bin .neq (.t 61) (.c (.int .i64 0)), none, [0]⟩]
abbrev r23_20 : List AOper := [
  ⟨some 63, .mv (.t 7), none, []⟩,
  ⟨some 4, .mv (.t 63), none, [0, 0]⟩]
abbrev r23_21 : List AOper := [
  ⟨some 64, .faddr 4 (.t 2), none, []⟩,
  ⟨some 65, .load none (.t 64), none, [0]⟩,
  ⟨some 66, .faddr 4 (.t 3), none, []⟩,
  ⟨some 67, .load none (.t 66), none, [2]⟩,
  ⟨some 68, .callF 36 [(.t 65), (.t 67)], none, [1, 3]⟩,
  ⟨some 4, .mv (.t 68), none, [4, 4, 0, 1, 2, 3, 4]⟩]
def m23_1 : List Nat := [0, 1, 3, 0, 8, 31, 63, 127]
theorem d23_1 : okDraw r23_1 m23_1 = true := by kernel_rfl
def k23 : List (List Nat) := [[2, 3], [2, 3, 5], [2, 3, 5, 16], [4], [2, 3, 20], [2, 3, 20, 21], [2, 3, 20, 21], [4], [2, 3, 20, 27], [4], [2, 3, 20, 34], [2, 3, 20, 34], [4], [2, 3, 20, 42], [2, 3, 6], [2, 3, 6, 50], [4], [2, 3, 52], [2, 3, 7], [2, 3, 7, 62], [4], [4]]
def f23 : AFunc := { ntmps := 69, results := [.tmp 4], body := (
  .seq (
  .region false r23_0 [2, 3]) (
  .seq (
  .seq (
  .region true r23_1 [2, 3, 5]) (
  .seq (
  .region false r23_2 [2, 3, 5, 16]) (
  .cond (.t 16) (
    .seq (
    .region false r23_3 [4]) (
    .ret)) (
    .skip)))) (
  .seq (
  .seq (
  .region false r23_4 [2, 3, 20]) (
  .block 0 (
    .seq (
    .seq (
    .region false r23_5 [2, 3, 20, 21]) (
    .cond (.t 21) (
      .skip) (
      .region false r23_6 [2, 3, 20, 21]))) (
    .cond (.t 21) (
      .seq (
      .region false r23_7 [4]) (
      .ret)) (
      .seq (
      .region false r23_8 [2, 3, 20, 27]) (
      .cond (.t 27) (
        .seq (
        .region false r23_9 [4]) (
        .ret)) (
        .seq (
        .seq (
        .region false r23_10 [2, 3, 20, 34]) (
        .cond (.t 34) (
          .skip) (
          .region false r23_11 [2, 3, 20, 34]))) (
        .cond (.t 34) (
          .seq (
          .region false r23_12 [4]) (
          .ret)) (
          .seq (
          .region false r23_13 [2, 3, 20, 42]) (
          .cond (.t 42) (
            .seq (
            .region false r23_14 [2, 3, 6]) (
            .seq (
            .region false r23_15 [2, 3, 6, 50]) (
            .cond (.t 50) (
              .seq (
              .region false r23_16 [4]) (
              .ret)) (
              .skip)))) (
            .seq (
            .region false r23_17 [2, 3, 52]) (
            .cond (.t 52) (
              .seq (
              .region false r23_18 [2, 3, 7]) (
              .seq (
              .region false r23_19 [2, 3, 7, 62]) (
              .cond (.t 62) (
                .seq (
                .region false r23_20 [4]) (
                .ret)) (
                .skip)))) (
              .skip))))))))))))) (
  .seq (
  .region false r23_21 [4]) (
  .ret))))) }
theorem c23 : cfunc Tryz.prog (kof k23) Tryz.f23 = some f23 := by kernel_rfl

/-- exitwave/term.Atom -/
abbrev r69_0 : List AOper := [
  ⟨some 2, .alloc 25 (.agg [.int .i64 0, .int .i64 0, .flt .f64 0, .str ⟨#[]⟩, .nils]), none, []⟩]
abbrev r69_1 : List AOper := [
  ⟨some 3, .mv (.t 0), none, []⟩,
  ⟨some 4, .build [.int .i64 0, .int .i64 0, .flt .f64 0, .str ⟨#[]⟩, .nils] [(0, 1, (.c (.int .i64 3))), (3, 1, (.t 3))], none, [0]⟩,
  ⟨none, .store 5 (.t 2) (.t 4), none, [1, 0, 1]⟩]
def k69 : List (List Nat) := [[0, 2], [2]]
def f69 : AFunc := { ntmps := 5, results := [.cell 2 (some 5)], body := (
  .seq (
  .region false r69_0 [0, 2]) (
  .seq (
  .region false r69_1 [2]) (
  .ret))) }
theorem c69 : cfunc Tryz.prog (kof k69) Tryz.f69 = some f69 := by kernel_rfl

/-- exitwave/term.same -/
abbrev r70_0 : List AOper := [
  ⟨some 2, .box 25 (.t 0), none, []⟩,
  ⟨some 3, .box 25 (.t 1), none, []⟩,
  ⟨some 4, .mv (.c (.bool false)), none, []⟩]
abbrev r70_1 : List AOper := [
  ⟨some 5, .faddr 0 (.t 2), none, []⟩,
  ⟨some 6, .load none (.t 5), none, [0]⟩,
  ⟨some 7, .faddr 0 (.t 3), none, []⟩,
  ⟨some 8, .load none (.t 7), none, [2]⟩,
  ⟨some 9, .bin .neq (.t 6) (.t 8), none, [1, 3]⟩]
abbrev r70_2 : List AOper := [
  ⟨some 4, .mv (.c (.bool false)), none, []⟩]
abbrev r70_3 : List AOper := [
  ⟨some 10, .faddr 0 (.t 2), none, []⟩,
  ⟨some 11, .load none (.t 10), none, [0]⟩]
abbrev r70_4 : List AOper := [
  ⟨some 13, .bin .eql (.t 11) (.c (.int .i64 1)), none, []⟩,
  ⟨some 12, .mv (.t 13), none, [0]⟩]
abbrev r70_5 : List AOper := [
  ⟨some 14, .bin .eql (.t 11) (.c (.int .i64 2)), none, []⟩,
  ⟨some 12, .mv (.t 14), none, [0]⟩]
abbrev r70_6 : List AOper := [
  ⟨some 15, .load (some 5) (.t 2), none, []⟩,
  ⟨some 16, .load (some 5) (.t 3), none, []⟩,
  ⟨some 17, .callF 105 [(.t 15), (.t 16)], none, [0, 1]⟩,
  ⟨some 4, .mv (.t 17), none, [2, 2, 0, 1, 2]⟩]
abbrev r70_7 : List AOper := [
  ⟨some 18, .faddr 1 (.t 2), none, []⟩,
  ⟨some 19, .load none (.t 18), none, [0]⟩,
  ⟨some 20, .faddr 1 (.t 3), none, []⟩,
  ⟨some 21, .load none (.t 20), none, [2]⟩,
  ⟨some 22, .bin .eql (.t 19) (.t 21), none, [1, 3]⟩,
  ⟨some 23, .mv (.t 22), none, [4]⟩,
  ⟨some 24, .faddr 3 (.t 2), some (23, true), [5]⟩,
  ⟨some 25, .load none (.t 24), some (23, true), [6, 5]⟩,
  ⟨some 26, .faddr 3 (.t 3), some (23, true), [5]⟩,
  ⟨some 27, .load none (.t 26), some (23, true), [8, 5]⟩,
  ⟨some 28, .bin .eql (.t 25) (.t 27), some (23, true), [7, 9, 5]⟩,
  ⟨some 29, .pick (.t 23) (.t 28) (.c (.bool false)), none, [5, 10]⟩,
  ⟨some 30, .mv (.t 29), none, [11, 5]⟩,
  ⟨some 31, .faddr 4 (.t 2), some (30, true), [12]⟩,
  ⟨some 32, .load none (.t 31), some (30, true), [13, 12]⟩,
  ⟨some 33, .faddr 4 (.t 3), some (30, true), [12]⟩,
  ⟨some 34, .load none (.t 33), some (30, true), [15, 12]⟩,
  ⟨some 35, .callF 106 [(.t 32), (.t 34), (.c (.fn (.func 70) [] []))], some (30, true), [14, 16, 12, 12]⟩,
  ⟨some 36, .pick (.t 30) (.t 35) (.c (.bool false)), none, [12, 17]⟩,
  ⟨some 4, .mv (.t 36), none, [18, 17, 0, 1, 2, 3, 4, 5, 6, 7, 8, 9, 10, 11, 12, 13, 14, 15, 16, 17, 18]⟩]
def k70 : List (List Nat) := [[2, 3], [2, 3, 9], [4], [2, 3, 11], [2, 3, 11, 12], [2, 3, 12], [4], [4]]
def f70 : AFunc := { ntmps := 37, results := [.tmp 4], body := (
  .seq (
  .region false r70_0 [2, 3]) (
  .seq (
  .seq (
  .region false r70_1 [2, 3, 9]) (
  .cond (.t 9) (
    .seq (
    .region false r70_2 [4]) (
    .ret)) (
    .skip))) (
  .seq (
  .seq (
  .region false r70_3 [2, 3, 11]) (
  .block 0 (
    .seq (
    .seq (
    .region false r70_4 [2, 3, 11, 12]) (
    .cond (.t 12) (
      .skip) (
      .region false r70_5 [2, 3, 12]))) (
    .cond (.t 12) (
      .seq (
      .region false r70_6 [4]) (
      .ret)) (
      .skip))))) (
  .seq (
  .region false r70_7 [4]) (
  .ret))))) }
theorem c70 : cfunc Tryz.prog (kof k70) Tryz.f70 = some f70 := by kernel_rfl

/-- exitwave/num.of -/
abbrev r71_0 : List AOper := [
  ⟨some 1, .box 25 (.t 0), none, []⟩,
  ⟨some 2, .alloc 88 (.agg [.int .i64 0, .int .i64 0, .int .u64 0]), none, []⟩,
  ⟨some 3, .mv (.c (.bool false)), none, []⟩]
abbrev r71_1 : List AOper := [
  ⟨some 5, .faddr 0 (.t 1), none, []⟩,
  ⟨some 6, .load none (.t 5), none, [0]⟩,
  ⟨some 7, .faddr 1 (.t 1), none, []⟩,
  ⟨some 8, .load none (.t 7), none, [2]⟩,
  ⟨some 9, .faddr 2 (.t 1), none, []⟩,
  ⟨some 10, .load none (.t 9), none, [4]⟩,
  ⟨some 11, .ext 0 [(.t 10)], none, [5]⟩,
  ⟨some 12, .build [.int .i64 0, .int .i64 0, .int .u64 0] [(0, 1, (.t 6)), (1, 1, (.t 8)), (2, 1, (.t 11))], none, [1, 3, 6]⟩,
  ⟨some 4, .alloc 88 (.agg [.int .i64 0, .int .i64 0, .int .u64 0]), none, []⟩,
  ⟨none, .store 3 (.t 4) (.t 12), none, [8, 7, 6, 0, 1, 2, 3, 4, 5, 6, 7, 8]⟩]
abbrev r71_2 : List AOper := [
  ⟨some 13, .faddr 3 (.t 1), none, []⟩,
  ⟨some 14, .load none (.t 13), none, [0]⟩,
  ⟨some 15, .bin .neq (.t 14) (.c (.str ⟨#[]⟩)), none, [1]⟩,
  ⟨some 16, .mv (.t 15), none, [2]⟩,
  ⟨some 17, .faddr 4 (.t 1), some (16, false), [3]⟩,
  ⟨some 18, .load none (.t 17), some (16, false), [4, 3]⟩,
  ⟨some 19, .len 1 (.t 18), some (16, false), [5, 3]⟩,
  ⟨some 20, .bin .gtr (.t 19) (.c (.int .i64 0)), some (16, false), [6, 3]⟩,
  ⟨some 21, .pick (.t 16) (.c (.bool true)) (.t 20), none, [3, 7]⟩]
abbrev r71_3 : List AOper := [
  ⟨some 22, .build [.int .i64 0, .int .i64 0, .int .u64 0] [], none, []⟩,
  ⟨none, .store 3 (.t 2) (.t 22), none, [0, 0]⟩,
  ⟨some 3, .mv (.c (.bool false)), none, [1, 0, 1]⟩]
abbrev r71_4 : List AOper := [
  ⟨some 23, .faddr 0 (.t 1), none, []⟩,
  ⟨some 24, .load none (.t 23), none, [0]⟩]
abbrev r71_5 : List AOper := [
  ⟨some 26, .bin .eql (.t 24) (.c (.int .i64 1)), none, []⟩,
  ⟨some 25, .mv (.t 26), none, [0]⟩]
abbrev r71_6 : List AOper := [
  ⟨some 27, .load (some 3) (.t 4), none, []⟩,
  ⟨some 28, .faddr 2 (.t 4), none, []⟩,
  ⟨some 29, .load none (.t 28), none, [1]⟩,
  ⟨some 30, .bin .eql (.t 29) (.c (.int .u64 0)), none, [2]⟩,
  ⟨some 31, .mv (.t 30), none, [3]⟩,
  ⟨some 32, .faddr 1 (.t 1), some (31, true), [4]⟩,
  ⟨some 33, .load none (.t 32), some (31, true), [5, 4]⟩,
  ⟨some 34, .bin .geq (.t 33) (.c (.int .i64 (-576460752303423488))), some (31, true), [6, 4]⟩,
  ⟨some 35, .pick (.t 31) (.t 34) (.c (.bool false)), none, [4, 7]⟩,
  ⟨some 36, .mv (.t 35), none, [8, 4]⟩,
  ⟨some 37, .faddr 1 (.t 1), some (36, true), [9]⟩,
  ⟨some 38, .load none (.t 37), some (36, true), [10, 9]⟩,
  ⟨some 39, .bin .leq (.t 38) (.c (.int .i64 576460752303423487)), some (36, true), [11, 9]⟩,
  ⟨some 40, .pick (.t 36) (.t 39) (.c (.bool false)), none, [9, 12]⟩,
  ⟨none, .store 3 (.t 2) (.t 27), none, [0, 9, 0]⟩,
  ⟨some 3, .mv (.t 40), none, [13, 14, 0, 1, 2, 3, 4, 5, 6, 7, 8, 9, 10, 11, 12, 13, 14]⟩]
abbrev r71_7 : List AOper := [
  ⟨some 42, .bin .eql (.t 24) (.c (.int .i64 2)), none, []⟩,
  ⟨some 41, .mv (.t 42), none, [0]⟩]
abbrev r71_8 : List AOper := [
  ⟨some 43, .load (some 3) (.t 4), none, []⟩,
  ⟨some 44, .faddr 1 (.t 1), none, []⟩,
  ⟨some 45, .load none (.t 44), none, [1]⟩,
  ⟨some 46, .bin .eql (.t 45) (.c (.int .i64 0)), none, [2]⟩,
  ⟨some 47, .mv (.t 46), none, [3]⟩,
  ⟨some 48, .faddr 2 (.t 1), some (47, true), [4]⟩,
  ⟨some 49, .load none (.t 48), some (47, true), [5, 4]⟩,
  ⟨some 50, .callF 102 [(.t 49)], some (47, true), [6, 4, 4]⟩,
  ⟨some 51, .un .not (.t 50), some (47, true), [7, 4]⟩,
  ⟨some 52, .pick (.t 47) (.t 51) (.c (.bool false)), none, [4, 8]⟩,
  ⟨some 53, .mv (.t 52), none, [9, 7]⟩,
  ⟨some 54, .faddr 2 (.t 1), some (53, true), [10]⟩,
  ⟨some 55, .load none (.t 54), some (53, true), [11, 10]⟩,
  ⟨some 56, .callF 107 [(.t 55), (.c (.int .i64 0))], some (53, true), [12, 10, 10]⟩,
  ⟨some 57, .un .not (.t 56), some (53, true), [13, 10]⟩,
  ⟨some 58, .pick (.t 53) (.t 57) (.c (.bool false)), none, [10, 14]⟩,
  ⟨none, .store 3 (.t 2) (.t 43), none, [0, 13, 0]⟩,
  ⟨some 3, .mv (.t 58), none, [15, 16, 0, 1, 2, 3, 4, 5, 6, 7, 8, 9, 10, 11, 12, 13, 14, 15, 16]⟩]
abbrev r71_9 : List AOper := [
  ⟨some 59, .build [.int .i64 0, .int .i64 0, .int .u64 0] [], none, []⟩,
  ⟨none, .store 3 (.t 2) (.t 59), none, [0, 0]⟩,
  ⟨some 3, .mv (.c (.bool false)), none, [1, 0, 1]⟩]
def m71_1 : List Nat := [0, 1, 0, 4, 0, 16, 48, 127, 0, 511]
theorem d71_1 : okDraw r71_1 m71_1 = true := by kernel_rfl
def m71_6 : List Nat := [0, 0, 2, 6, 14, 30, 62, 126, 254, 510, 1022, 2046, 4094, 8190, 1023, 32767]
theorem d71_6 : okDraw r71_6 m71_6 = true := by kernel_rfl
def m71_8 : List Nat := [0, 0, 2, 6, 14, 30, 62, 126, 254, 510, 1022, 2046, 4094, 8190, 16382, 32766, 16383, 131071]
theorem d71_8 : okDraw r71_8 m71_8 = true := by kernel_rfl
def k71 : List (List Nat) := [[1, 2], [1, 2, 4], [1, 2, 4, 21], [2, 3], [1, 2, 4, 24], [1, 2, 4, 24, 25], [2, 3], [1, 2, 4, 41], [2, 3], [2, 3]]
def f71 : AFunc := { ntmps := 60, results := [.cell 2 (some 3), .tmp 3], body := (
  .seq (
  .region false r71_0 [1, 2]) (
  .seq (
  .region true r71_1 [1, 2, 4]) (
  .seq (
  .seq (
  .region false r71_2 [1, 2, 4, 21]) (
  .cond (.t 21) (
    .seq (
    .region false r71_3 [2, 3]) (
    .ret)) (
    .skip))) (
  .seq (
  .seq (
  .region false r71_4 [1, 2, 4, 24]) (
  .block 0 (
    .seq (
    .region false r71_5 [1, 2, 4, 24, 25]) (
    .cond (.t 25) (
      .seq (
      .region true r71_6 [2, 3]) (
      .ret)) (
      .seq (
      .region false r71_7 [1, 2, 4, 41]) (
      .cond (.t 41) (
        .seq (
        .region true r71_8 [2, 3]) (
        .ret)) (
        .skip))))))) (
  .seq (
  .region false r71_9 [2, 3]) (
  .ret)))))) }
theorem c71 : cfunc Tryz.prog (kof k71) Tryz.f71 = some f71 := by kernel_rfl

/-- (exitwave/num.number).real -/
abbrev r76_0 : List AOper := [
  ⟨some 1, .box 88 (.t 0), none, []⟩,
  ⟨some 2, .mv (.c (.flt .f64 0)), none, []⟩]
abbrev r76_1 : List AOper := [
  ⟨some 3, .load (some 3) (.t 1), none, []⟩,
  ⟨some 4, .callF 72 [(.t 3)], none, [0]⟩]
abbrev r76_2 : List AOper := [
  ⟨some 5, .faddr 1 (.t 1), none, []⟩,
  ⟨some 6, .load none (.t 5), none, [0]⟩,
  ⟨some 7, .callF 109 [(.t 6)], none, [1]⟩,
  ⟨some 2, .mv (.t 7), none, [2, 2, 0, 1, 2]⟩]
abbrev r76_3 : List AOper := [
  ⟨some 8, .faddr 2 (.t 1), none, []⟩,
  ⟨some 9, .load none (.t 8), none, [0]⟩,
  ⟨some 10, .ext 1 [(.t 9)], none, [1]⟩,
  ⟨some 2, .mv (.t 10), none, [2, 2, 0, 1, 2]⟩]
def k76 : List (List Nat) := [[1], [1, 4], [2], [2]]
def f76 : AFunc := { ntmps := 11, results := [.tmp 2], body := (
  .seq (
  .region false r76_0 [1]) (
  .seq (
  .seq (
  .region false r76_1 [1, 4]) (
  .cond (.t 4) (
    .seq (
    .region false r76_2 [2]) (
    .ret)) (
    .skip))) (
  .seq (
  .region false r76_3 [2]) (
  .ret)))) }
theorem c76 : cfunc Tryz.prog (kof k76) Tryz.f76 = some f76 := by kernel_rfl

/-- exitwave/num.Int -/
abbrev r79_0 : List AOper := [
  ⟨some 2, .alloc 25 (.agg [.int .i64 0, .int .i64 0, .flt .f64 0, .str ⟨#[]⟩, .nils]), none, []⟩,
  ⟨some 3, .mv (.c (.int .i64 0)), none, []⟩]
abbrev r79_1 : List AOper := [
  ⟨some 4, .mv (.t 0), none, []⟩,
  ⟨some 5, .bin .lss (.t 4) (.c (.int .i64 (-576460752303423488))), none, [0]⟩,
  ⟨some 6, .mv (.t 5), none, [1]⟩,
  ⟨some 7, .mv (.t 0), some (6, false), [2]⟩,
  ⟨some 8, .bin .gtr (.t 7) (.c (.int .i64 576460752303423487)), some (6, false), [3, 2]⟩,
  ⟨some 9, .pick (.t 6) (.c (.bool true)) (.t 8), none, [2, 4]⟩]
abbrev r79_2 : List AOper := [
  ⟨some 10, .build [.int .i64 0, .int .i64 0, .flt .f64 0, .str ⟨#[]⟩, .nils] [], none, []⟩,
  ⟨none, .store 5 (.t 2) (.t 10), none, [0, 0]⟩,
  ⟨some 3, .mv (.c (.int .i64 12)), none, [1, 0, 1]⟩]
abbrev r79_3 : List AOper := [
  ⟨some 11, .mv (.t 0), none, []⟩,
  ⟨some 12, .build [.int .i64 0, .int .i64 0, .flt .f64 0, .str ⟨#[]⟩, .nils] [(0, 1, (.c (.int .i64 1))), (1, 1, (.t 11))], none, [0]⟩,
  ⟨none, .store 5 (.t 2) (.t 12), none, [1, 0, 1]⟩,
  ⟨some 3, .mv (.c (.int .i64 0)), none, [2, 0, 1, 2]⟩]
def k79 : List (List Nat) := [[0, 2], [0, 2, 9], [2, 3], [2, 3]]
def f79 : AFunc := { ntmps := 13, results := [.cell 2 (some 5), .tmp 3], body := (
  .seq (
  .region false r79_0 [0, 2]) (
  .seq (
  .seq (
  .region false r79_1 [0, 2, 9]) (
  .cond (.t 9) (
    .seq (
    .region false r79_2 [2, 3]) (
    .ret)) (
    .skip))) (
  .seq (
  .region false r79_3 [2, 3]) (
  .ret)))) }
theorem c79 : cfunc Tryz.prog (kof k79) Tryz.f79 = some f79 := by kernel_rfl

/-- exitwave/num.Float -/
abbrev r80_0 : List AOper := [
  ⟨some 2, .alloc 25 (.agg [.int .i64 0, .int .i64 0, .flt .f64 0, .str ⟨#[]⟩, .nils]), none, []⟩,
  ⟨some 3, .mv (.c (.int .i64 0)), none, []⟩]
abbrev r80_1 : List AOper := [
  ⟨some 4, .mv (.t 0), none, []⟩,
  ⟨some 5, .callF 102 [(.t 4)], none, [0]⟩,
  ⟨some 6, .mv (.t 5), none, [1, 1]⟩,
  ⟨some 7, .mv (.t 0), some (6, false), [2]⟩,
  ⟨some 8, .callF 107 [(.t 7), (.c (.int .i64 0))], some (6, false), [3, 2, 2]⟩,
  ⟨some 9, .pick (.t 6) (.c (.bool true)) (.t 8), none, [2, 4]⟩]
abbrev r80_2 : List AOper := [
  ⟨some 10, .build [.int .i64 0, .int .i64 0, .flt .f64 0, .str ⟨#[]⟩, .nils] [], none, []⟩,
  ⟨none, .store 5 (.t 2) (.t 10), none, [0, 0]⟩,
  ⟨some 3, .mv (.c (.int .i64 11)), none, [1, 0, 1]⟩]
abbrev r80_3 : List AOper := [
  ⟨some 11, .mv (.t 0), none, []⟩,
  ⟨some 12, .build [.int .i64 0, .int .i64 0, .flt .f64 0, .str ⟨#[]⟩, .nils] [(0, 1, (.c (.int .i64 2))), (2, 1, (.t 11))], none, [0]⟩,
  ⟨none, .store 5 (.t 2) (.t 12), none, [1, 0, 1]⟩,
  ⟨some 3, .mv (.c (.int .i64 0)), none, [2, 0, 1, 2]⟩]
def k80 : List (List Nat) := [[0, 2], [0, 2, 9], [2, 3], [2, 3]]
def f80 : AFunc := { ntmps := 13, results := [.cell 2 (some 5), .tmp 3], body := (
  .seq (
  .region false r80_0 [0, 2]) (
  .seq (
  .seq (
  .region false r80_1 [0, 2, 9]) (
  .cond (.t 9) (
    .seq (
    .region false r80_2 [2, 3]) (
    .ret)) (
    .skip))) (
  .seq (
  .region false r80_3 [2, 3]) (
  .ret)))) }
theorem c80 : cfunc Tryz.prog (kof k80) Tryz.f80 = some f80 := by kernel_rfl

/-- exitwave/term.copied -/
abbrev r81_0 : List AOper := [
  ⟨some 2, .mv (.c (.nils)), none, []⟩]
abbrev r81_1 : List AOper := [
  ⟨some 3, .mv (.c (.nils)), none, []⟩]
abbrev r81_2 : List AOper := [
  ⟨some 6, .mv (.t 0), none, []⟩,
  ⟨some 7, .len 1 (.t 6), none, [0]⟩,
  ⟨some 8, .mv (.c (.int .i64 0)), none, []⟩]
abbrev r81_3 : List AOper := [
  ⟨some 9, .bin .lss (.t 8) (.t 7), none, []⟩]
abbrev r81_4 : List AOper := [
  ⟨some 10, .iaddr 5 (.t 6) (.t 8), none, []⟩,
  ⟨some 11, .load (some 5) (.t 10), none, [0]⟩,
  ⟨some 5, .alloc 25 (.agg [.int .i64 0, .int .i64 0, .flt .f64 0, .str ⟨#[]⟩, .nils]), none, []⟩,
  ⟨none, .store 5 (.t 5) (.t 11), none, [2, 1, 0, 1, 2]⟩]
abbrev r81_5 : List AOper := [
  ⟨some 12, .mv (.t 3), none, []⟩,
  ⟨some 13, .load (some 5) (.t 5), none, []⟩,
  ⟨some 14, .callF 59 [(.t 13)], none, [1]⟩,
  ⟨some 15, .bslice 25 1 [.int .i64 0, .int .i64 0, .flt .f64 0, .str ⟨#[]⟩, .nils] [(0, 5, (.t 14))], none, [2]⟩,
  ⟨some 16, .app 25 5 64 (.t 12) (.t 15), none, [0, 3, 2]⟩,
  ⟨some 3, .mv (.t 16), none, [4, 4, 0, 1, 2, 3, 4]⟩]
abbrev r81_6 : List AOper := [
  ⟨some 17, .bin .add (.t 8) (.c (.int .i64 1)), none, []⟩,
  ⟨some 8, .mv (.t 17), none, [0]⟩]
def l81_0 : ACode :=
  .seq (
  .region false r81_3 [3, 6, 7, 8, 9]) (
  .seq (
  .cond (.t 9) (
    .skip) (
    .exit 0)) (
  .seq (
  .block 1 (
    .seq (
    .region false r81_4 [3, 5, 6, 7, 8]) (
    .region false r81_5 [3, 6, 7, 8]))) (
  .region false r81_6 [3, 6, 7, 8])))
abbrev r81_7 : List AOper := [
  ⟨some 18, .mv (.t 3), none, []⟩,
  ⟨some 2, .mv (.t 18), none, [0, 0]⟩]
def k81 : List (List Nat) := [[0], [0, 3], [3, 6, 7, 8], [3, 6, 7, 8, 9], [3, 5, 6, 7, 8], [3, 6, 7, 8], [3, 6, 7, 8], [2]]
def f81 : AFunc := { ntmps := 19, results := [.tmp 2], body := (
  .seq (
  .region false r81_0 [0]) (
  .seq (
  .region false r81_1 [0, 3]) (
  .seq (
  .seq (
  .region false r81_2 [3, 6, 7, 8]) (
  .block 0 (
    .loop l81_0))) (
  .seq (
  .region false r81_7 [2]) (
  .ret))))) }
theorem c81 : cfunc Tryz.prog (kof k81) Tryz.f81 = some f81 := by kernel_rfl

/-- (*exitwave/bif.call).element -/
abbrev r90_0 : List AOper := [
  ⟨some 2, .alloc 25 (.agg [.int .i64 0, .int .i64 0, .flt .f64 0, .str ⟨#[]⟩, .nils]), none, []⟩]
abbrev r90_1 : List AOper := [
  ⟨some 4, .mv (.t 0), none, []⟩,
  ⟨some 5, .callF 56 [(.t 4), (.c (.int .i64 1)), (.c (.int .i64 7))], none, [0]⟩,
  ⟨some 6, .fld 4 none (.t 5), none, [1]⟩,
  ⟨some 3, .mv (.t 6), none, [2, 1, 0, 1, 2]⟩]
abbrev r90_2 : List AOper := [
  ⟨some 7, .mv (.t 3), none, []⟩,
  ⟨some 8, .mv (.t 0), none, []⟩,
  ⟨some 9, .mv (.t 3), none, []⟩,
  ⟨some 10, .len 1 (.t 9), none, [2]⟩,
  ⟨some 11, .callF 120 [(.t 8), (.t 10)], none, [1, 3]⟩,
  ⟨some 12, .iaddr 5 (.t 7) (.t 11), none, [0, 4]⟩,
  ⟨some 13, .load (some 5) (.t 12), none, [5]⟩,
  ⟨none, .store 5 (.t 2) (.t 13), none, [6, 4, 0, 1, 2, 3, 4, 5, 6]⟩]
def k90 : List (List Nat) := [[0, 2], [0, 2, 3], [2]]
def f90 : AFunc := { ntmps := 14, results := [.cell 2 (some 5)], body := (
  .seq (
  .region false r90_0 [0, 2]) (
  .seq (
  .region false r90_1 [0, 2, 3]) (
  .seq (
  .region false r90_2 [2]) (
  .ret)))) }
theorem c90 : cfunc Tryz.prog (kof k90) Tryz.f90 = some f90 := by kernel_rfl

/-- exitwave/bif.kinds -/
abbrev r95_0 : List AOper := [
  ⟨some 2, .mv (.c (.nilf)), none, []⟩]
abbrev r95_1 : List AOper := [
  ⟨some 3, .mv (.c (.fn (.func 122) [] [])), none, []⟩]
abbrev r95_2 : List AOper := [
  ⟨some 4, .mv (.t 0), none, []⟩]
abbrev r95_3 : List AOper := [
  ⟨some 6, .bin .eql (.t 4) (.c (.str ⟨#[105, 115, 95, 97, 116, 111, 109]⟩)), none, []⟩,
  ⟨some 5, .mv (.t 6), none, [0]⟩]
abbrev r95_4 : List AOper := [
  ⟨some 7, .mv (.t 3), none, []⟩,
  ⟨some 8, .bslice 3 1 [.int .i64 0] [(0, 1, (.c (.int .i64 3)))], none, []⟩,
  ⟨some 9, .callV (.t 7) [(.t 8)], none, [0, 1]⟩,
  ⟨some 2, .mv (.t 9), none, [2, 2, 0, 1, 2]⟩]
abbrev r95_5 : List AOper := [
  ⟨some 11, .bin .eql (.t 4) (.c (.str ⟨#[105, 115, 95, 105, 110, 116, 101, 103, 101, 114]⟩)), none, []⟩,
  ⟨some 10, .mv (.t 11), none, [0]⟩]
abbrev r95_6 : List AOper := [
  ⟨some 12, .mv (.t 3), none, []⟩,
  ⟨some 13, .bslice 3 1 [.int .i64 0] [(0, 1, (.c (.int .i64 1)))], none, []⟩,
  ⟨some 14, .callV (.t 12) [(.t 13)], none, [0, 1]⟩,
  ⟨some 2, .mv (.t 14), none, [2, 2, 0, 1, 2]⟩]
abbrev r95_7 : List AOper := [
  ⟨some 16, .bin .eql (.t 4) (.c (.str ⟨#[105, 115, 95, 102, 108, 111, 97, 116]⟩)), none, []⟩,
  ⟨some 15, .mv (.t 16), none, [0]⟩]
abbrev r95_8 : List AOper := [
  ⟨some 17, .mv (.t 3), none, []⟩,
  ⟨some 18, .bslice 3 1 [.int .i64 0] [(0, 1, (.c (.int .i64 2)))], none, []⟩,
  ⟨some 19, .callV (.t 17) [(.t 18)], none, [0, 1]⟩,
  ⟨some 2, .mv (.t 19), none, [2, 2, 0, 1, 2]⟩]
abbrev r95_9 : List AOper := [
  ⟨some 21, .bin .eql (.t 4) (.c (.str ⟨#[105, 115, 95, 110, 117, 109, 98, 101, 114]⟩)), none, []⟩,
  ⟨some 20, .mv (.t 21), none, [0]⟩]
abbrev r95_10 : List AOper := [
  ⟨some 22, .mv (.t 3), none, []⟩,
  ⟨some 23, .bslice 3 2 [.int .i64 0, .int .i64 0] [(0, 1, (.c (.int .i64 1))), (1, 1, (.c (.int .i64 2)))], none, []⟩,
  ⟨some 24, .callV (.t 22) [(.t 23)], none, [0, 1]⟩,
  ⟨some 2, .mv (.t 24), none, [2, 2, 0, 1, 2]⟩]
abbrev r95_11 : List AOper := [
  ⟨some 26, .bin .eql (.t 4) (.c (.str ⟨#[105, 115, 95, 108, 105, 115, 116]⟩)), none, []⟩,
  ⟨some 25, .mv (.t 26), none, [0]⟩]
abbrev r95_12 : List AOper := [
  ⟨some 27, .mv (.t 3), none, []⟩,
  ⟨some 28, .bslice 3 1 [.int .i64 0] [(0, 1, (.c (.int .i64 8)))], none, []⟩,
  ⟨some 29, .callV (.t 27) [(.t 28)], none, [0, 1]⟩,
  ⟨some 2, .mv (.t 29), none, [2, 2, 0, 1, 2]⟩]
abbrev r95_13 : List AOper := [
  ⟨some 31, .bin .eql (.t 4) (.c (.str ⟨#[105, 115, 95, 116, 117, 112, 108, 101]⟩)), none, []⟩,
  ⟨some 30, .mv (.t 31), none, [0]⟩]
abbrev r95_14 : List AOper := [
  ⟨some 32, .mv (.t 3), none, []⟩,
  ⟨some 33, .bslice 3 1 [.int .i64 0] [(0, 1, (.c (.int .i64 7)))], none, []⟩,
  ⟨some 34, .callV (.t 32) [(.t 33)], none, [0, 1]⟩,
  ⟨some 2, .mv (.t 34), none, [2, 2, 0, 1, 2]⟩]
abbrev r95_15 : List AOper := [
  ⟨some 36, .bin .eql (.t 4) (.c (.str ⟨#[105, 115, 95, 112, 105, 100]⟩)), none, []⟩,
  ⟨some 35, .mv (.t 36), none, [0]⟩]
abbrev r95_16 : List AOper := [
  ⟨some 37, .mv (.t 3), none, []⟩,
  ⟨some 38, .bslice 3 1 [.int .i64 0] [(0, 1, (.c (.int .i64 6)))], none, []⟩,
  ⟨some 39, .callV (.t 37) [(.t 38)], none, [0, 1]⟩,
  ⟨some 2, .mv (.t 39), none, [2, 2, 0, 1, 2]⟩]
abbrev r95_17 : List AOper := [
  ⟨some 41, .bin .eql (.t 4) (.c (.str ⟨#[105, 115, 95, 114, 101, 102, 101, 114, 101, 110, 99, 101]⟩)), none, []⟩,
  ⟨some 40, .mv (.t 41), none, [0]⟩]
abbrev r95_18 : List AOper := [
  ⟨some 42, .mv (.t 3), none, []⟩,
  ⟨some 43, .bslice 3 1 [.int .i64 0] [(0, 1, (.c (.int .i64 4)))], none, []⟩,
  ⟨some 44, .callV (.t 42) [(.t 43)], none, [0, 1]⟩,
  ⟨some 2, .mv (.t 44), none, [2, 2, 0, 1, 2]⟩]
abbrev r95_19 : List AOper := [
  ⟨some 46, .bin .eql (.t 4) (.c (.str ⟨#[105, 115, 95, 98, 111, 111, 108, 101, 97, 110]⟩)), none, []⟩,
  ⟨some 45, .mv (.t 46), none, [0]⟩]
abbrev r95_20 : List AOper := [
  ⟨some 2, .mv (.c (.fn (.func 125) [] [])), none, []⟩]
abbrev r95_21 : List AOper := [
  ⟨some 2, .mv (.c (.nilf)), none, []⟩]
def k95 : List (List Nat) := [[0], [0, 3], [3, 4], [3, 4, 5], [2], [3, 4, 10], [2], [3, 4, 15], [2], [3, 4, 20], [2], [3, 4, 25], [2], [3, 4, 30], [2], [3, 4, 35], [2], [3, 4, 40], [2], [45], [2], [2]]
def f95 : AFunc := { ntmps := 47, results := [.tmp 2], body := (
  .seq (
  .region false r95_0 [0]) (
  .seq (
  .region false r95_1 [0, 3]) (
  .seq (
  .seq (
  .region false r95_2 [3, 4]) (
  .block 0 (
    .seq (
    .region false r95_3 [3, 4, 5]) (
    .cond (.t 5) (
      .seq (
      .region false r95_4 [2]) (
      .ret)) (
      .seq (
      .region false r95_5 [3, 4, 10]) (
      .cond (.t 10) (
        .seq (
        .region false r95_6 [2]) (
        .ret)) (
        .seq (
        .region false r95_7 [3, 4, 15]) (
        .cond (.t 15) (
          .seq (
          .region false r95_8 [2]) (
          .ret)) (
          .seq (
          .region false r95_9 [3, 4, 20]) (
          .cond (.t 20) (
            .seq (
            .region false r95_10 [2]) (
            .ret)) (
            .seq (
            .region false r95_11 [3, 4, 25]) (
            .cond (.t 25) (
              .seq (
              .region false r95_12 [2]) (
              .ret)) (
              .seq (
              .region false r95_13 [3, 4, 30]) (
              .cond (.t 30) (
                .seq (
                .region false r95_14 [2]) (
                .ret)) (
                .seq (
                .region false r95_15 [3, 4, 35]) (
                .cond (.t 35) (
                  .seq (
                  .region false r95_16 [2]) (
                  .ret)) (
                  .seq (
                  .region false r95_17 [3, 4, 40]) (
                  .cond (.t 40) (
                    .seq (
                    .region false r95_18 [2]) (
                    .ret)) (
                    .seq (
                    .region false r95_19 [45]) (
                    .cond (.t 45) (
                      .seq (
                      .region false r95_20 [2]) (
                      .ret)) (
                      .skip))))))))))))))))))))) (
  .seq (
  .region false r95_21 [2]) (
  .ret))))) }
theorem c95 : cfunc Tryz.prog (kof k95) Tryz.f95 = some f95 := by kernel_rfl

/-- exitwave/bif.others -/
abbrev r97_0 : List AOper := [
  ⟨some 2, .mv (.c (.nils)), none, []⟩]
abbrev r97_1 : List AOper := [
  ⟨some 3, .mv (.t 0), none, []⟩]
abbrev r97_2 : List AOper := [
  ⟨some 5, .bin .eql (.t 3) (.c (.str ⟨#[115, 101, 116, 101, 108, 101, 109, 101, 110, 116]⟩)), none, []⟩,
  ⟨some 4, .mv (.t 5), none, [0]⟩]
abbrev r97_3 : List AOper := [
  ⟨some 6, .build [.int .i64 0, .bool false, .nilf] [(0, 1, (.c (.int .i64 3))), (1, 1, (.c (.bool false))), (2, 1, (.c (.fn (.func 126) [] [])))], none, []⟩,
  ⟨some 7, .bslice 59 1 [.int .i64 0, .bool false, .nilf] [(0, 3, (.t 6))], none, [0]⟩,
  ⟨some 2, .mv (.t 7), none, [1, 0, 1]⟩]
abbrev r97_4 : List AOper := [
  ⟨some 9, .bin .eql (.t 3) (.c (.str ⟨#[116, 117, 112, 108, 101, 95, 116, 111, 95, 108, 105, 115, 116]⟩)), none, []⟩,
  ⟨some 8, .mv (.t 9), none, [0]⟩]
abbrev r97_5 : List AOper := [
  ⟨some 10, .build [.int .i64 0, .bool false, .nilf] [(0, 1, (.c (.int .i64 1))), (1, 1, (.c (.bool false))), (2, 1, (.c (.fn (.func 127) [] [])))], none, []⟩,
  ⟨some 11, .bslice 59 1 [.int .i64 0, .bool false, .nilf] [(0, 3, (.t 10))], none, [0]⟩,
  ⟨some 2, .mv (.t 11), none, [1, 0, 1]⟩]
abbrev r97_6 : List AOper := [
  ⟨some 13, .bin .eql (.t 3) (.c (.str ⟨#[108, 105, 115, 116, 95, 116, 111, 95, 116, 117, 112, 108, 101]⟩)), none, []⟩,
  ⟨some 12, .mv (.t 13), none, [0]⟩]
abbrev r97_7 : List AOper := [
  ⟨some 14, .build [.int .i64 0, .bool false, .nilf] [(0, 1, (.c (.int .i64 1))), (1, 1, (.c (.bool false))), (2, 1, (.c (.fn (.func 128) [] [])))], none, []⟩,
  ⟨some 15, .bslice 59 1 [.int .i64 0, .bool false, .nilf] [(0, 3, (.t 14))], none, [0]⟩,
  ⟨some 2, .mv (.t 15), none, [1, 0, 1]⟩]
abbrev r97_8 : List AOper := [
  ⟨some 17, .bin .eql (.t 3) (.c (.str ⟨#[97, 116, 111, 109, 95, 116, 111, 95, 108, 105, 115, 116]⟩)), none, []⟩,
  ⟨some 16, .mv (.t 17), none, [0]⟩]
abbrev r97_9 : List AOper := [
  ⟨some 18, .build [.int .i64 0, .bool false, .nilf] [(0, 1, (.c (.int .i64 1))), (1, 1, (.c (.bool false))), (2, 1, (.c (.fn (.func 130) [] [])))], none, []⟩,
  ⟨some 19, .bslice 59 1 [.int .i64 0, .bool false, .nilf] [(0, 3, (.t 18))], none, [0]⟩,
  ⟨some 2, .mv (.t 19), none, [1, 0, 1]⟩]
abbrev r97_10 : List AOper := [
  ⟨some 21, .bin .eql (.t 3) (.c (.str ⟨#[108, 105, 115, 116, 95, 116, 111, 95, 97, 116, 111, 109]⟩)), none, []⟩,
  ⟨some 20, .mv (.t 21), none, [0]⟩]
abbrev r97_11 : List AOper := [
  ⟨some 22, .build [.int .i64 0, .bool false, .nilf] [(0, 1, (.c (.int .i64 1))), (1, 1, (.c (.bool false))), (2, 1, (.c (.fn (.func 132) [] [])))], none, []⟩,
  ⟨some 23, .bslice 59 1 [.int .i64 0, .bool false, .nilf] [(0, 3, (.t 22))], none, [0]⟩,
  ⟨some 2, .mv (.t 23), none, [1, 0, 1]⟩]
abbrev r97_12 : List AOper := [
  ⟨some 25, .bin .eql (.t 3) (.c (.str ⟨#[105, 110, 116, 101, 103, 101, 114, 95, 116, 111, 95, 108, 105, 115, 116]⟩)), none, []⟩,
  ⟨some 24, .mv (.t 25), none, [0]⟩]
abbrev r97_13 : List AOper := [
  ⟨some 26, .build [.int .i64 0, .bool false, .nilf] [(0, 1, (.c (.int .i64 1))), (1, 1, (.c (.bool false))), (2, 1, (.c (.fn (.func 133) [] [])))], none, []⟩,
  ⟨some 27, .bslice 59 1 [.int .i64 0, .bool false, .nilf] [(0, 3, (.t 26))], none, [0]⟩,
  ⟨some 2, .mv (.t 27), none, [1, 0, 1]⟩]
abbrev r97_14 : List AOper := [
  ⟨some 29, .bin .eql (.t 3) (.c (.str ⟨#[108, 105, 115, 116, 95, 116, 111, 95, 105, 110, 116, 101, 103, 101, 114]⟩)), none, []⟩,
  ⟨some 28, .mv (.t 29), none, [0]⟩]
abbrev r97_15 : List AOper := [
  ⟨some 30, .build [.int .i64 0, .bool false, .nilf] [(0, 1, (.c (.int .i64 1))), (1, 1, (.c (.bool false))), (2, 1, (.c (.fn (.func 135) [] [])))], none, []⟩,
  ⟨some 31, .bslice 59 1 [.int .i64 0, .bool false, .nilf] [(0, 3, (.t 30))], none, [0]⟩,
  ⟨some 2, .mv (.t 31), none, [1, 0, 1]⟩]
abbrev r97_16 : List AOper := [
  ⟨some 33, .bin .eql (.t 3) (.c (.str ⟨#[102, 108, 111, 97, 116, 95, 116, 111, 95, 108, 105, 115, 116]⟩)), none, []⟩,
  ⟨some 32, .mv (.t 33), none, [0]⟩]
abbrev r97_17 : List AOper := [
  ⟨some 34, .build [.int .i64 0, .bool false, .nilf] [(0, 1, (.c (.int .i64 1))), (1, 1, (.c (.bool false))), (2, 1, (.c (.fn (.func 136) [] [])))], none, []⟩,
  ⟨some 35, .bslice 59 1 [.int .i64 0, .bool false, .nilf] [(0, 3, (.t 34))], none, [0]⟩,
  ⟨some 2, .mv (.t 35), none, [1, 0, 1]⟩]
abbrev r97_18 : List AOper := [
  ⟨some 37, .bin .eql (.t 3) (.c (.str ⟨#[98, 105, 116, 115]⟩)), none, []⟩,
  ⟨some 36, .mv (.t 37), none, [0]⟩]
abbrev r97_19 : List AOper := [
  ⟨some 38, .build [.int .i64 0, .bool false, .nilf] [(0, 1, (.c (.int .i64 1))), (1, 1, (.c (.bool false))), (2, 1, (.c (.fn (.func 137) [] [])))], none, []⟩,
  ⟨some 39, .bslice 59 1 [.int .i64 0, .bool false, .nilf] [(0, 3, (.t 38))], none, [0]⟩,
  ⟨some 2, .mv (.t 39), none, [1, 0, 1]⟩]
abbrev r97_20 : List AOper := [
  ⟨some 41, .bin .eql (.t 3) (.c (.str ⟨#[114, 101, 118, 101, 114, 115, 101]⟩)), none, []⟩,
  ⟨some 40, .mv (.t 41), none, [0]⟩]
abbrev r97_21 : List AOper := [
  ⟨some 42, .build [.int .i64 0, .bool false, .nilf] [(0, 1, (.c (.int .i64 1))), (1, 1, (.c (.bool false))), (2, 1, (.c (.fn (.func 138) [] [])))], none, []⟩,
  ⟨some 43, .bslice 59 1 [.int .i64 0, .bool false, .nilf] [(0, 3, (.t 42))], none, [0]⟩,
  ⟨some 2, .mv (.t 43), none, [1, 0, 1]⟩]
abbrev r97_22 : List AOper := [
  ⟨some 45, .bin .eql (.t 3) (.c (.str ⟨#[115, 111, 114, 116]⟩)), none, []⟩,
  ⟨some 44, .mv (.t 45), none, [0]⟩]
abbrev r97_23 : List AOper := [
  ⟨some 46, .build [.int .i64 0, .bool false, .nilf] [(0, 1, (.c (.int .i64 1))), (1, 1, (.c (.bool false))), (2, 1, (.c (.fn (.func 139) [] [])))], none, []⟩,
  ⟨some 47, .bslice 59 1 [.int .i64 0, .bool false, .nilf] [(0, 3, (.t 46))], none, [0]⟩,
  ⟨some 2, .mv (.t 47), none, [1, 0, 1]⟩]
abbrev r97_24 : List AOper := [
  ⟨some 49, .bin .eql (.t 3) (.c (.str ⟨#[109, 101, 109, 98, 101, 114]⟩)), none, []⟩,
  ⟨some 48, .mv (.t 49), none, [0]⟩]
abbrev r97_25 : List AOper := [
  ⟨some 50, .build [.int .i64 0, .bool false, .nilf] [(0, 1, (.c (.int .i64 2))), (1, 1, (.c (.bool false))), (2, 1, (.c (.fn (.func 140) [] [])))], none, []⟩,
  ⟨some 51, .bslice 59 1 [.int .i64 0, .bool false, .nilf] [(0, 3, (.t 50))], none, [0]⟩,
  ⟨some 2, .mv (.t 51), none, [1, 0, 1]⟩]
abbrev r97_26 : List AOper := [
  ⟨some 53, .bin .eql (.t 3) (.c (.str ⟨#[110, 116, 104]⟩)), none, []⟩,
  ⟨some 52, .mv (.t 53), none, [0]⟩]
abbrev r97_27 : List AOper := [
  ⟨some 54, .build [.int .i64 0, .bool false, .nilf] [(0, 1, (.c (.int .i64 2))), (1, 1, (.c (.bool false))), (2, 1, (.c (.fn (.func 141) [] [])))], none, []⟩,
  ⟨some 55, .bslice 59 1 [.int .i64 0, .bool false, .nilf] [(0, 3, (.t 54))], none, [0]⟩,
  ⟨some 2, .mv (.t 55), none, [1, 0, 1]⟩]
abbrev r97_28 : List AOper := [
  ⟨some 57, .bin .eql (.t 3) (.c (.str ⟨#[115, 105, 122, 101]⟩)), none, []⟩,
  ⟨some 56, .mv (.t 57), none, [0]⟩]
abbrev r97_29 : List AOper := [
  ⟨some 58, .build [.int .i64 0, .bool false, .nilf] [(0, 1, (.c (.int .i64 1))), (1, 1, (.c (.bool false))), (2, 1, (.c (.fn (.func 142) [] [])))], none, []⟩,
  ⟨some 59, .bslice 59 1 [.int .i64 0, .bool false, .nilf] [(0, 3, (.t 58))], none, [0]⟩,
  ⟨some 2, .mv (.t 59), none, [1, 0, 1]⟩]
abbrev r97_30 : List AOper := [
  ⟨some 2, .mv (.c (.nils)), none, []⟩]
def k97 : List (List Nat) := [[0], [3], [3, 4], [2], [3, 8], [2], [3, 12], [2], [3, 16], [2], [3, 20], [2], [3, 24], [2], [3, 28], [2], [3, 32], [2], [3, 36], [2], [3, 40], [2], [3, 44], [2], [3, 48], [2], [3, 52], [2], [56], [2], [2]]
def f97 : AFunc := { ntmps := 60, results := [.tmp 2], body := (
  .seq (
  .region false r97_0 [0]) (
  .seq (
  .seq (
  .region false r97_1 [3]) (
  .block 0 (
    .seq (
    .region false r97_2 [3, 4]) (
    .cond (.t 4) (
      .seq (
      .region false r97_3 [2]) (
      .ret)) (
      .seq (
      .region false r97_4 [3, 8]) (
      .cond (.t 8) (
        .seq (
        .region false r97_5 [2]) (
        .ret)) (
        .seq (
        .region false r97_6 [3, 12]) (
        .cond (.t 12) (
          .seq (
          .region false r97_7 [2]) (
          .ret)) (
          .seq (
          .region false r97_8 [3, 16]) (
          .cond (.t 16) (
            .seq (
            .region false r97_9 [2]) (
            .ret)) (
            .seq (
            .region false r97_10 [3, 20]) (
            .cond (.t 20) (
              .seq (
              .region false r97_11 [2]) (
              .ret)) (
              .seq (
              .region false r97_12 [3, 24]) (
              .cond (.t 24) (
                .seq (
                .region false r97_13 [2]) (
                .ret)) (
                .seq (
                .region false r97_14 [3, 28]) (
                .cond (.t 28) (
                  .seq (
                  .region false r97_15 [2]) (
                  .ret)) (
                  .seq (
                  .region false r97_16 [3, 32]) (
                  .cond (.t 32) (
                    .seq (
                    .region false r97_17 [2]) (
                    .ret)) (
                    .seq (
                    .region false r97_18 [3, 36]) (
                    .cond (.t 36) (
                      .seq (
                      .region false r97_19 [2]) (
                      .ret)) (
                      .seq (
                      .region false r97_20 [3, 40]) (
                      .cond (.t 40) (
                        .seq (
                        .region false r97_21 [2]) (
                        .ret)) (
                        .seq (
                        .region false r97_22 [3, 44]) (
                        .cond (.t 44) (
                          .seq (
                          .region false r97_23 [2]) (
                          .ret)) (
                          .seq (
                          .region false r97_24 [3, 48]) (
                          .cond (.t 48) (
                            .seq (
                            .region false r97_25 [2]) (
                            .ret)) (
                            .seq (
                            .region false r97_26 [3, 52]) (
                            .cond (.t 52) (
                              .seq (
                              .region false r97_27 [2]) (
                              .ret)) (
                              .seq (
                              .region false r97_28 [56]) (
                              .cond (.t 56) (
                                .seq (
                                .region false r97_29 [2]) (
                                .ret)) (
                                .skip))))))))))))))))))))))))))))))) (
  .seq (
  .region false r97_30 [2]) (
  .ret)))) }
theorem c97 : cfunc Tryz.prog (kof k97) Tryz.f97 = some f97 := by kernel_rfl

/-- exitwave/term.Check -/
abbrev r17_0 : List AOper := [
  ⟨some 1, .box 25 (.t 0), none, []⟩,
  ⟨some 2, .mv (.c (.int .i64 0)), none, []⟩]
abbrev r17_1 : List AOper := [
  ⟨some 6, .load (some 5) (.t 1), none, []⟩,
  ⟨some 7, .callF 30 [(.t 6)], none, [0]⟩,
  ⟨some 5, .mv (.t 7), none, [1]⟩,
  ⟨some 8, .extract (.t 5) 0, none, [2]⟩,
  ⟨some 9, .extract (.t 5) 1, none, [2]⟩,
  ⟨some 3, .alloc 63 (.agg [.int .i64 0, .int .i64 0, .bool false, .bool false]), none, []⟩,
  ⟨none, .store 4 (.t 3) (.t 8), none, [5, 3, 1, 0, 1, 2, 3, 5]⟩,
  ⟨some 4, .mv (.t 9), none, [4, 6, 0, 1, 2, 3, 4, 5, 6]⟩]
abbrev r17_2 : List AOper := [
  ⟨some 10, .mv (.t 4), none, []⟩,
  ⟨some 2, .mv (.t 10), none, [0, 0]⟩]
def k17 : List (List Nat) := [[1], [4], [2]]
def f17 : AFunc := { ntmps := 11, results := [.tmp 2], body := (
  .seq (
  .region false r17_0 [1]) (
  .seq (
  .region false r17_1 [4]) (
  .seq (
  .region false r17_2 [2]) (
  .ret)))) }
theorem c17 : cfunc Tryz.prog (kof k17) Tryz.f17 = some f17 := by kernel_rfl

/-- exitwave/term.rank -/
abbrev r32_0 : List AOper := [
  ⟨some 2, .mv (.c (.int .i64 0)), none, []⟩]
abbrev r32_1 : List AOper := [
  ⟨some 3, .mv (.t 0), none, []⟩]
abbrev r32_2 : List AOper := [
  ⟨some 5, .bin .eql (.t 3) (.c (.int .i64 1)), none, []⟩,
  ⟨some 4, .mv (.t 5), none, [0]⟩]
abbrev r32_3 : List AOper := [
  ⟨some 6, .bin .eql (.t 3) (.c (.int .i64 2)), none, []⟩,
  ⟨some 4, .mv (.t 6), none, [0]⟩]
abbrev r32_4 : List AOper := [
  ⟨some 2, .mv (.c (.int .i64 0)), none, []⟩]
abbrev r32_5 : List AOper := [
  ⟨some 7, .mv (.t 0), none, []⟩,
  ⟨some 2, .mv (.t 7), none, [0, 0]⟩]
def k32 : List (List Nat) := [[0], [0, 3], [0, 3, 4], [0, 4], [2], [2]]
def f32 : AFunc := { ntmps := 8, results := [.tmp 2], body := (
  .seq (
  .region false r32_0 [0]) (
  .seq (
  .seq (
  .region false r32_1 [0, 3]) (
  .block 0 (
    .seq (
    .seq (
    .region false r32_2 [0, 3, 4]) (
    .cond (.t 4) (
      .skip) (
      .region false r32_3 [0, 4]))) (
    .cond (.t 4) (
      .seq (
      .region false r32_4 [2]) (
      .ret)) (
      .skip))))) (
  .seq (
  .region false r32_5 [2]) (
  .ret)))) }
theorem c32 : cfunc Tryz.prog (kof k32) Tryz.f32 = some f32 := by kernel_rfl

/-- exitwave/term.whole -/
abbrev r33_0 : List AOper := [
  ⟨some 4, .mv (.c (.int .i64 0)), none, []⟩]
abbrev r33_1 : List AOper := [
  ⟨some 6, .mv (.t 0), none, []⟩,
  ⟨some 7, .mv (.t 1), none, []⟩,
  ⟨some 8, .bin .lss (.t 6) (.t 7), none, [0, 1]⟩,
  ⟨some 5, .mv (.t 8), none, [2]⟩]
abbrev r33_2 : List AOper := [
  ⟨some 4, .mv (.c (.int .i64 (-1))), none, []⟩]
abbrev r33_3 : List AOper := [
  ⟨some 10, .mv (.t 0), none, []⟩,
  ⟨some 11, .mv (.t 1), none, []⟩,
  ⟨some 12, .bin .gtr (.t 10) (.t 11), none, [0, 1]⟩,
  ⟨some 9, .mv (.t 12), none, [2]⟩]
abbrev r33_4 : List AOper := [
  ⟨some 4, .mv (.c (.int .i64 1)), none, []⟩]
abbrev r33_5 : List AOper := [
  ⟨some 4, .mv (.c (.int .i64 0)), none, []⟩]
def k33 : List (List Nat) := [[0, 1], [0, 1, 5], [4], [9], [4], [4]]
def f33 : AFunc := { ntmps := 13, results := [.tmp 4], body := (
  .seq (
  .region false r33_0 [0, 1]) (
  .seq (
  .block 0 (
    .seq (
    .region false r33_1 [0, 1, 5]) (
    .cond (.t 5) (
      .seq (
      .region false r33_2 [4]) (
      .ret)) (
      .seq (
      .region false r33_3 [9]) (
      .cond (.t 9) (
        .seq (
        .region false r33_4 [4]) (
        .ret)) (
        .skip)))))) (
  .seq (
  .region false r33_5 [4]) (
  .ret)))) }
theorem c33 : cfunc Tryz.prog (kof k33) Tryz.f33 = some f33 := by kernel_rfl

/-- exitwave/num.Cmp -/
abbrev r34_0 : List AOper := [
  ⟨some 2, .box 25 (.t 0), none, []⟩,
  ⟨some 3, .box 25 (.t 1), none, []⟩,
  ⟨some 4, .mv (.c (.int .i64 0)), none, []⟩]
abbrev r34_1 : List AOper := [
  ⟨some 7, .load (some 5) (.t 2), none, []⟩,
  ⟨some 8, .load (some 5) (.t 3), none, []⟩,
  ⟨some 5, .alloc 25 (.agg [.int .i64 0, .int .i64 0, .flt .f64 0, .str ⟨#[]⟩, .nils]), none, []⟩,
  ⟨some 6, .alloc 25 (.agg [.int .i64 0, .int .i64 0, .flt .f64 0, .str ⟨#[]⟩, .nils]), none, []⟩,
  ⟨none, .store 5 (.t 5) (.t 7), none, [2, 0, 0, 2, 3]⟩,
  ⟨none, .store 5 (.t 6) (.t 8), none, [3, 1, 4, 0, 1, 2, 3, 4]⟩]
abbrev r34_2 : List AOper := [
  ⟨some 10, .faddr 0 (.t 5), none, []⟩,
  ⟨some 11, .load none (.t 10), none, [0]⟩,
  ⟨some 12, .bin .eql (.t 11) (.c (.int .i64 1)), none, [1]⟩,
  ⟨some 13, .mv (.t 12), none, [2]⟩,
  ⟨some 14, .faddr 0 (.t 6), some (13, true), [3]⟩,
  ⟨some 15, .load none (.t 14), some (13, true), [4, 3]⟩,
  ⟨some 16, .bin .eql (.t 15) (.c (.int .i64 1)), some (13, true), [5, 3]⟩,
  ⟨some 17, .pick (.t 13) (.t 16) (.c (.bool false)), none, [3, 6]⟩,
  ⟨some 9, .mv (.t 17), none, [7, 3]⟩]
abbrev r34_3 : List AOper := [
  ⟨some 18, .faddr 1 (.t 5), none, []⟩,
  ⟨some 19, .load none (.t 18), none, [0]⟩,
  ⟨some 20, .faddr 1 (.t 6), none, []⟩,
  ⟨some 21, .load none (.t 20), none, [2]⟩,
  ⟨some 22, .callF 64 [(.t 19), (.t 21)], none, [1, 3]⟩,
  ⟨some 4, .mv (.t 22), none, [4, 4, 0, 1, 2, 3, 4]⟩]
abbrev r34_4 : List AOper := [
  ⟨some 24, .faddr 0 (.t 5), none, []⟩,
  ⟨some 25, .load none (.t 24), none, [0]⟩,
  ⟨some 26, .bin .eql (.t 25) (.c (.int .i64 1)), none, [1]⟩,
  ⟨some 23, .mv (.t 26), none, [2]⟩]
abbrev r34_5 : List AOper := [
  ⟨some 27, .faddr 2 (.t 6), none, []⟩,
  ⟨some 28, .load none (.t 27), none, [0]⟩,
  ⟨some 29, .faddr 1 (.t 5), none, []⟩,
  ⟨some 30, .load none (.t 29), none, [2]⟩,
  ⟨some 31, .callF 65 [(.t 28), (.t 30)], none, [1, 3]⟩,
  ⟨some 32, .un .neg (.t 31), none, [4]⟩,
  ⟨some 4, .mv (.t 32), none, [5, 4, 0, 1, 2, 3, 4, 5]⟩]
abbrev r34_6 : List AOper := [
  ⟨some 34, .faddr 0 (.t 6), none, []⟩,
  ⟨some 35, .load none (.t 34), none, [0]⟩,
  ⟨some 36, .bin .eql (.t 35) (.c (.int .i64 1)), none, [1]⟩,
  ⟨some 33, .mv (.t 36), none, [2]⟩]
abbrev r34_7 : List AOper := [
  ⟨some 37, .faddr 2 (.t 5), none, []⟩,
  ⟨some 38, .load none (.t 37), none, [0]⟩,
  ⟨some 39, .faddr 1 (.t 6), none, []⟩,
  ⟨some 40, .load none (.t 39), none, [2]⟩,
  ⟨some 41, .callF 65 [(.t 38), (.t 40)], none, [1, 3]⟩,
  ⟨some 4, .mv (.t 41), none, [4, 4, 0, 1, 2, 3, 4]⟩]
abbrev r34_8 : List AOper := [
  ⟨some 42, .faddr 2 (.t 5), none, []⟩,
  ⟨some 43, .load none (.t 42), none, [0]⟩,
  ⟨some 44, .faddr 2 (.t 6), none, []⟩,
  ⟨some 45, .load none (.t 44), none, [2]⟩,
  ⟨some 46, .callF 66 [(.t 43), (.t 45)], none, [1, 3]⟩,
  ⟨some 4, .mv (.t 46), none, [4, 4, 0, 1, 2, 3, 4]⟩]
def m34_1 : List Nat := [0, 0, 0, 0, 13, 31]
def k34 : List (List Nat) := [[2, 3], [5, 6], [5, 6, 9], [4], [5, 6, 23], [4], [5, 6, 33], [4], [4]]
def f34 : AFunc := { ntmps := 47, results := [.tmp 4], body := (
  .seq (
  .region false r34_0 [2, 3]) (
  .seq (
  .region true r34_1 [5, 6]) (
  .seq (
  .block 0 (
    .seq (
    .region false r34_2 [5, 6, 9]) (
    .cond (.t 9) (
      .seq (
      .region false r34_3 [4]) (
      .ret)) (
      .seq (
      .region false r34_4 [5, 6, 23]) (
      .cond (.t 23) (
        .seq (
        .region false r34_5 [4]) (
        .ret)) (
        .seq (
        .region false r34_6 [5, 6, 33]) (
        .cond (.t 33) (
          .seq (
          .region false r34_7 [4]) (
          .ret)) (
          .skip)))))))) (
  .seq (
  .region false r34_8 [4]) (
  .ret))))) }
theorem c34 : cfunc Tryz.prog (kof k34) Tryz.f34 = some f34 := by kernel_rfl

/-- exitwave/num.Same -/
abbrev r105_0 : List AOper := [
  ⟨some 2, .box 25 (.t 0), none, []⟩,
  ⟨some 3, .box 25 (.t 1), none, []⟩,
  ⟨some 4, .mv (.c (.bool false)), none, []⟩]
abbrev r105_1 : List AOper := [
  ⟨some 10, .load (some 5) (.t 2), none, []⟩,
  ⟨some 11, .callF 71 [(.t 10)], none, [0]⟩,
  ⟨some 9, .mv (.t 11), none, [1]⟩,
  ⟨some 12, .extract (.t 9) 0, none, [2]⟩,
  ⟨some 13, .extract (.t 9) 1, none, [2]⟩,
  ⟨some 5, .alloc 88 (.agg [.int .i64 0, .int .i64 0, .int .u64 0]), none, []⟩,
  ⟨none, .store 3 (.t 5) (.t 12), none, [5, 3, 1, 0, 1, 2, 3, 5]⟩,
  ⟨some 6, .mv (.t 13), none, [4, 6, 0, 1, 2, 3, 4, 5, 6]⟩]
abbrev r105_2 : List AOper := [
  ⟨some 15, .load (some 5) (.t 3), none, []⟩,
  ⟨some 16, .callF 71 [(.t 15)], none, [0]⟩,
  ⟨some 14, .mv (.t 16), none, [1]⟩,
  ⟨some 17, .extract (.t 14) 0, none, [2]⟩,
  ⟨some 18, .extract (.t 14) 1, none, [2]⟩,
  ⟨some 7, .alloc 88 (.agg [.int .i64 0, .int .i64 0, .int .u64 0]), none, []⟩,
  ⟨none, .store 3 (.t 7) (.t 17), none, [5, 3, 1, 0, 1, 2, 3, 5]⟩,
  ⟨some 8, .mv (.t 18), none, [4, 6, 0, 1, 2, 3, 4, 5, 6]⟩]
abbrev r105_3 : List AOper := [
  ⟨some 19, .load (some 3) (.t 5), none, []⟩,
  ⟨some 20, .load (some 3) (.t 7), none, []⟩,
  ⟨some 21, .eqAgg [1, 1, 1] false (.t 19) (.t 20), none, [0, 1]⟩,
  ⟨some 4, .mv (.t 21), none, [2, 0, 1, 2]⟩]
def k105 : List (List Nat) := [[2, 3], [3, 5], [5, 7], [4]]
def f105 : AFunc := { ntmps := 22, results := [.tmp 4], body := (
  .seq (
  .region false r105_0 [2, 3]) (
  .seq (
  .region false r105_1 [3, 5]) (
  .seq (
  .region false r105_2 [5, 7]) (
  .seq (
  .region false r105_3 [4]) (
  .ret))))) }
theorem c105 : cfunc Tryz.prog (kof k105) Tryz.f105 = some f105 := by kernel_rfl

/-- math.IsNaN -/
abbrev r102_0 : List AOper := [
  ⟨some 2, .mv (.c (.bool false)), none, []⟩]
abbrev r102_1 : List AOper := [
  ⟨some 3, .mv (.t 0), none, []⟩,
  ⟨some 4, .mv (.t 0), none, []⟩,
  ⟨some 5, .bin .neq (.t 3) (.t 4), none, [0, 1]⟩,
  ⟨some 2, .mv (.t 5), none, [2, 0, 1, 2]⟩]
def k102 : List (List Nat) := [[0], [2]]
def f102 : AFunc := { ntmps := 6, results := [.tmp 2], body := (
  .seq (
  .region false r102_0 [0]) (
  .seq (
  .region false r102_1 [2]) (
  .ret))) }
theorem c102 : cfunc Tryz.prog (kof k102) Tryz.f102 = some f102 := by kernel_rfl

/-- math.IsInf -/
abbrev r107_0 : List AOper := [
  ⟨some 4, .mv (.c (.bool false)), none, []⟩]
abbrev r107_1 : List AOper := [
  ⟨some 5, .mv (.t 1), none, []⟩,
  ⟨some 6, .bin .eql (.t 5) (.c (.int .i64 0)), none, [0]⟩]
abbrev r107_2 : List AOper := [
  ⟨some 7, .mv (.t 0), none, []⟩,
  ⟨some 8, .callF 147 [(.t 7)], none, [0]⟩,
  ⟨some 0, .mv (.t 8), none, [1, 1, 0, 1]⟩]
abbrev r107_3 : List AOper := [
  ⟨some 9, .mv (.t 1), none, []⟩,
  ⟨some 10, .bin .lss (.t 9) (.c (.int .i64 0)), none, [0]⟩]
abbrev r107_4 : List AOper := [
  ⟨some 11, .mv (.t 0), none, []⟩,
  ⟨some 12, .un .neg (.t 11), none, [0]⟩,
  ⟨some 0, .mv (.t 12), none, [1, 0, 1]⟩]
abbrev r107_5 : List AOper := [
  ⟨some 13, .mv (.t 0), none, []⟩,
  ⟨some 14, .bin .gtr (.t 13) (.c (.flt .f64 9218868437227405311)), none, [0]⟩,
  ⟨some 4, .mv (.t 14), none, [1, 0, 1]⟩]
def k107 : List (List Nat) := [[0, 1], [0, 1, 6], [0], [0, 10], [0], [4]]
def f107 : AFunc := { ntmps := 15, results := [.tmp 4], body := (
  .seq (
  .region false r107_0 [0, 1]) (
  .seq (
  .seq (
  .region false r107_1 [0, 1, 6]) (
  .cond (.t 6) (
    .region false r107_2 [0]) (
    .seq (
    .region false r107_3 [0, 10]) (
    .cond (.t 10) (
      .region false r107_4 [0]) (
      .skip))))) (
  .seq (
  .region false r107_5 [4]) (
  .ret)))) }
theorem c107 : cfunc Tryz.prog (kof k107) Tryz.f107 = some f107 := by kernel_rfl

/-- exitwave/num.Near -/
abbrev r109_0 : List AOper := [
  ⟨some 2, .mv (.c (.flt .f64 0)), none, []⟩]
abbrev r109_1 : List AOper := [
  ⟨some 3, .mv (.t 0), none, []⟩,
  ⟨some 4, .conv (.toFlt .f64) (.t 3), none, [0]⟩,
  ⟨some 2, .mv (.t 4), none, [1, 0, 1]⟩]
def k109 : List (List Nat) := [[0], [2]]
def f109 : AFunc := { ntmps := 5, results := [.tmp 2], body := (
  .seq (
  .region false r109_0 [0]) (
  .seq (
  .region false r109_1 [2]) (
  .ret))) }
theorem c109 : cfunc Tryz.prog (kof k109) Tryz.f109 = some f109 := by kernel_rfl

/-- math.Trunc -/
abbrev r103_0 : List AOper := [
  ⟨some 2, .mv (.c (.flt .f64 0)), none, []⟩]
abbrev r103_1 : List AOper := [
  ⟨some 3, .mv (.t 0), none, []⟩,
  ⟨some 4, .ext 3 [(.t 3)], none, [0]⟩,
  ⟨some 2, .mv (.t 4), none, [1, 1, 0, 1]⟩]
abbrev r103_2 : List AOper := [
  ⟨some 5, .mv (.t 0), none, []⟩,
  ⟨some 6, .callF 146 [(.t 5)], none, [0]⟩,
  ⟨some 2, .mv (.t 6), none, [1, 1, 0, 1]⟩]
def k103 : List (List Nat) := [[0], [2], [2]]
def f103 : AFunc := { ntmps := 7, results := [.tmp 2], body := (
  .seq (
  .region false r103_0 [0]) (
  .seq (
  .cond (.c (.bool true)) (
    .seq (
    .region false r103_1 [2]) (
    .ret)) (
    .skip)) (
  .seq (
  .region false r103_2 [2]) (
  .ret)))) }
theorem c103 : cfunc Tryz.prog (kof k103) Tryz.f103 = some f103 := by kernel_rfl

/-- math.Floor -/
abbrev r116_0 : List AOper := [
  ⟨some 2, .mv (.c (.flt .f64 0)), none, []⟩]
abbrev r116_1 : List AOper := [
  ⟨some 3, .mv (.t 0), none, []⟩,
  ⟨some 4, .ext 4 [(.t 3)], none, [0]⟩,
  ⟨some 2, .mv (.t 4), none, [1, 1, 0, 1]⟩]
abbrev r116_2 : List AOper := [
  ⟨some 5, .mv (.t 0), none, []⟩,
  ⟨some 6, .callF 151 [(.t 5)], none, [0]⟩,
  ⟨some 2, .mv (.t 6), none, [1, 1, 0, 1]⟩]
def k116 : List (List Nat) := [[0], [2], [2]]
def f116 : AFunc := { ntmps := 7, results := [.tmp 2], body := (
  .seq (
  .region false r116_0 [0]) (
  .seq (
  .cond (.c (.bool true)) (
    .seq (
    .region false r116_1 [2]) (
    .ret)) (
    .skip)) (
  .seq (
  .region false r116_2 [2]) (
  .ret)))) }
theorem c116 : cfunc Tryz.prog (kof k116) Tryz.f116 = some f116 := by kernel_rfl

/-- math.Ceil -/
abbrev r117_0 : List AOper := [
  ⟨some 2, .mv (.c (.flt .f64 0)), none, []⟩]
abbrev r117_1 : List AOper := [
  ⟨some 3, .mv (.t 0), none, []⟩,
  ⟨some 4, .ext 5 [(.t 3)], none, [0]⟩,
  ⟨some 2, .mv (.t 4), none, [1, 1, 0, 1]⟩]
abbrev r117_2 : List AOper := [
  ⟨some 5, .mv (.t 0), none, []⟩,
  ⟨some 6, .callF 153 [(.t 5)], none, [0]⟩,
  ⟨some 2, .mv (.t 6), none, [1, 1, 0, 1]⟩]
def k117 : List (List Nat) := [[0], [2], [2]]
def f117 : AFunc := { ntmps := 7, results := [.tmp 2], body := (
  .seq (
  .region false r117_0 [0]) (
  .seq (
  .cond (.c (.bool true)) (
    .seq (
    .region false r117_1 [2]) (
    .ret)) (
    .skip)) (
  .seq (
  .region false r117_2 [2]) (
  .ret)))) }
theorem c117 : cfunc Tryz.prog (kof k117) Tryz.f117 = some f117 := by kernel_rfl

/-- (*exitwave/bif.call).place -/
abbrev r120_0 : List AOper := [
  ⟨some 4, .mv (.c (.int .i64 0)), none, []⟩]
abbrev r120_1 : List AOper := [
  ⟨some 6, .mv (.t 0), none, []⟩,
  ⟨some 7, .callF 56 [(.t 6), (.c (.int .i64 0)), (.c (.int .i64 1))], none, [0]⟩,
  ⟨some 8, .fld 1 none (.t 7), none, [1]⟩,
  ⟨some 5, .mv (.t 8), none, [2, 1, 0, 1, 2]⟩]
abbrev r120_2 : List AOper := [
  ⟨some 9, .mv (.t 5), none, []⟩,
  ⟨some 10, .bin .lss (.t 9) (.c (.int .i64 1)), none, [0]⟩,
  ⟨some 11, .mv (.t 10), none, [1]⟩,
  ⟨some 12, .mv (.t 5), some (11, false), [2]⟩,
  ⟨some 13, .mv (.t 1), some (11, false), [2]⟩,
  ⟨some 14, .bin .gtr (.t 12) (.t 13), some (11, false), [3, 4, 2]⟩,
  ⟨some 15, .pick (.t 11) (.c (.bool true)) (.t 14), none, [2, 5]⟩]
abbrev r120_3 : List AOper := [
  ⟨some 16, .callF 57 [], none, []⟩]
abbrev r120_4 : List AOper := [
  ⟨some 17, .mv (.t 5), none, []⟩,
  ⟨some 18, .bin .sub (.t 17) (.c (.int .i64 1)), none, [0]⟩,
  ⟨some 4, .mv (.t 18), none, [1, 0, 1]⟩]
def k120 : List (List Nat) := [[0, 1], [1, 5], [5, 15], [5], [4]]
def f120 : AFunc := { ntmps := 19, results := [.tmp 4], body := (
  .seq (
  .region false r120_0 [0, 1]) (
  .seq (
  .region false r120_1 [1, 5]) (
  .seq (
  .seq (
  .region false r120_2 [5, 15]) (
  .cond (.t 15) (
    .region false r120_3 [5]) (
    .skip))) (
  .seq (
  .region false r120_4 [4]) (
  .ret))))) }
theorem c120 : cfunc Tryz.prog (kof k120) Tryz.f120 = some f120 := by kernel_rfl

/-- exitwave/bif.kinds$1 -/
abbrev r122_0 : List AOper := [
  ⟨some 1, .box 114 (.t 0), none, []⟩,
  ⟨some 2, .mv (.c (.nilf)), none, []⟩]
abbrev r122_1 : List AOper := [
  ⟨some 3, .mkfn (.func 123) [] [(.t 1)], none, []⟩,
  ⟨some 2, .mv (.t 3), none, [0, 0]⟩]
def k122 : List (List Nat) := [[1], [2]]
def f122 : AFunc := { ntmps := 4, results := [.tmp 2], body := (
  .seq (
  .region false r122_0 [1]) (
  .seq (
  .region false r122_1 [2]) (
  .ret))) }
theorem c122 : cfunc Tryz.prog (kof k122) Tryz.f122 = some f122 := by kernel_rfl

/-- exitwave/term.looked -/
abbrev r30_0 : List AOper := [
  ⟨some 1, .box 25 (.t 0), none, []⟩,
  ⟨some 2, .alloc 63 (.agg [.int .i64 0, .int .i64 0, .bool false, .bool false]), none, []⟩,
  ⟨some 3, .mv (.c (.int .i64 0)), none, []⟩]
abbrev r30_1 : List AOper := [
  ⟨some 4, .alloc 63 (.agg [.int .i64 0, .int .i64 0, .bool false, .bool false]), none, []⟩]
abbrev r30_2 : List AOper := [
  ⟨some 5, .load (some 5) (.t 1), none, []⟩,
  ⟨some 6, .callF 61 [(.t 4), (.t 5), (.c (.int .i64 1))], none, [0]⟩]
abbrev r30_3 : List AOper := [
  ⟨some 8, .faddr 3 (.t 4), none, []⟩,
  ⟨some 9, .load none (.t 8), none, [0]⟩,
  ⟨some 7, .mv (.t 9), none, [1]⟩]
abbrev r30_4 : List AOper := [
  ⟨some 10, .build [.int .i64 0, .int .i64 0, .bool false, .bool false] [], none, []⟩,
  ⟨none, .store 4 (.t 2) (.t 10), none, [0, 0]⟩,
  ⟨some 3, .mv (.c (.int .i64 12)), none, [1, 0, 1]⟩]
abbrev r30_5 : List AOper := [
  ⟨some 12, .faddr 2 (.t 4), none, []⟩,
  ⟨some 13, .load none (.t 12), none, [0]⟩,
  ⟨some 11, .mv (.t 13), none, [1]⟩]
abbrev r30_6 : List AOper := [
  ⟨some 14, .build [.int .i64 0, .int .i64 0, .bool false, .bool false] [], none, []⟩,
  ⟨none, .store 4 (.t 2) (.t 14), none, [0, 0]⟩,
  ⟨some 3, .mv (.c (.int .i64 4)), none, [1, 0, 1]⟩]
abbrev r30_7 : List AOper := [
  ⟨some 15, .load (some 4) (.t 4), none, []⟩,
  ⟨none, .store 4 (.t 2) (.t 15), none, [0, 0]⟩,
  ⟨some 3, .mv (.c (.int .i64 0)), none, [1, 0, 1]⟩]
def k30 : List (List Nat) := [[1, 2], [1, 2, 4], [2, 4], [2, 4, 7], [2, 3], [2, 4, 11], [2, 3], [2, 3]]
def f30 : AFunc := { ntmps := 16, results := [.cell 2 (some 4), .tmp 3], body := (
  .seq (
  .region false r30_0 [1, 2]) (
  .seq (
  .region false r30_1 [1, 2, 4]) (
  .seq (
  .region false r30_2 [2, 4]) (
  .seq (
  .block 0 (
    .seq (
    .region false r30_3 [2, 4, 7]) (
    .cond (.t 7) (
      .seq (
      .region false r30_4 [2, 3]) (
      .ret)) (
      .seq (
      .region false r30_5 [2, 4, 11]) (
      .cond (.t 11) (
        .seq (
        .region false r30_6 [2, 3]) (
        .ret)) (
        .skip)))))) (
  .seq (
  .region false r30_7 [2, 3]) (
  .ret)))))) }
theorem c30 : cfunc Tryz.prog (kof k30) Tryz.f30 = some f30 := by kernel_rfl

/-- exitwave/num.order[int64] -/
abbrev r64_0 : List AOper := [
  ⟨some 4, .mv (.c (.int .i64 0)), none, []⟩]
abbrev r64_1 : List AOper := [
  ⟨some 6, .mv (.t 0), none, []⟩,
  ⟨some 7, .mv (.t 1), none, []⟩,
  ⟨some 8, .bin .lss (.t 6) (.t 7), none, [0, 1]⟩,
  ⟨some 5, .mv (.t 8), none, [2]⟩]
abbrev r64_2 : List AOper := [
  ⟨some 4, .mv (.c (.int .i64 (-1))), none, []⟩]
abbrev r64_3 : List AOper := [
  ⟨some 10, .mv (.t 0), none, []⟩,
  ⟨some 11, .mv (.t 1), none, []⟩,
  ⟨some 12, .bin .gtr (.t 10) (.t 11), none, [0, 1]⟩,
  ⟨some 9, .mv (.t 12), none, [2]⟩]
abbrev r64_4 : List AOper := [
  ⟨some 4, .mv (.c (.int .i64 1)), none, []⟩]
abbrev r64_5 : List AOper := [
  ⟨some 4, .mv (.c (.int .i64 0)), none, []⟩]
def k64 : List (List Nat) := [[0, 1], [0, 1, 5], [4], [9], [4], [4]]
def f64 : AFunc := { ntmps := 13, results := [.tmp 4], body := (
  .seq (
  .region false r64_0 [0, 1]) (
  .seq (
  .block 0 (
    .seq (
    .region false r64_1 [0, 1, 5]) (
    .cond (.t 5) (
      .seq (
      .region false r64_2 [4]) (
      .ret)) (
      .seq (
      .region false r64_3 [9]) (
      .cond (.t 9) (
        .seq (
        .region false r64_4 [4]) (
        .ret)) (
        .skip)))))) (
  .seq (
  .region false r64_5 [4]) (
  .ret)))) }
theorem c64 : cfunc Tryz.prog (kof k64) Tryz.f64 = some f64 := by kernel_rfl

/-- exitwave/num.Exact -/
abbrev r65_0 : List AOper := [
  ⟨some 4, .mv (.c (.int .i64 0)), none, []⟩]
abbrev r65_1 : List AOper := [
  ⟨some 8, .mv (.t 0), none, []⟩,
  ⟨some 9, .callF 102 [(.t 8)], none, [0]⟩,
  ⟨some 7, .mv (.t 9), none, [1, 1]⟩]
abbrev r65_2 : List AOper := [
  ⟨some 4, .mv (.c (.int .i64 2)), none, []⟩]
abbrev r65_3 : List AOper := [
  ⟨some 11, .mv (.t 0), none, []⟩,
  ⟨some 12, .bin .geq (.t 11) (.c (.flt .f64 4890909195324358656)), none, [0]⟩,
  ⟨some 10, .mv (.t 12), none, [1]⟩]
abbrev r65_4 : List AOper := [
  ⟨some 4, .mv (.c (.int .i64 1)), none, []⟩]
abbrev r65_5 : List AOper := [
  ⟨some 14, .mv (.t 0), none, []⟩,
  ⟨some 15, .bin .lss (.t 14) (.c (.flt .f64 14114281232179134464)), none, [0]⟩,
  ⟨some 13, .mv (.t 15), none, [1]⟩]
abbrev r65_6 : List AOper := [
  ⟨some 4, .mv (.c (.int .i64 (-1))), none, []⟩]
abbrev r65_7 : List AOper := [
  ⟨some 16, .mv (.t 0), none, []⟩,
  ⟨some 17, .callF 103 [(.t 16)], none, [0]⟩,
  ⟨some 5, .mv (.t 17), none, [1, 1, 0, 1]⟩]
abbrev r65_8 : List AOper := [
  ⟨some 18, .mv (.t 5), none, []⟩,
  ⟨some 19, .conv (.fltInt .f64 .i64) (.t 18), none, [0]⟩,
  ⟨some 6, .mv (.t 19), none, [1, 0, 1]⟩]
abbrev r65_9 : List AOper := [
  ⟨some 21, .mv (.t 6), none, []⟩,
  ⟨some 22, .mv (.t 1), none, []⟩,
  ⟨some 23, .bin .lss (.t 21) (.t 22), none, [0, 1]⟩,
  ⟨some 20, .mv (.t 23), none, [2]⟩]
abbrev r65_10 : List AOper := [
  ⟨some 4, .mv (.c (.int .i64 (-1))), none, []⟩]
abbrev r65_11 : List AOper := [
  ⟨some 25, .mv (.t 6), none, []⟩,
  ⟨some 26, .mv (.t 1), none, []⟩,
  ⟨some 27, .bin .gtr (.t 25) (.t 26), none, [0, 1]⟩,
  ⟨some 24, .mv (.t 27), none, [2]⟩]
abbrev r65_12 : List AOper := [
  ⟨some 4, .mv (.c (.int .i64 1)), none, []⟩]
abbrev r65_13 : List AOper := [
  ⟨some 29, .mv (.t 0), none, []⟩,
  ⟨some 30, .mv (.t 5), none, []⟩,
  ⟨some 31, .bin .lss (.t 29) (.t 30), none, [0, 1]⟩,
  ⟨some 28, .mv (.t 31), none, [2]⟩]
abbrev r65_14 : List AOper := [
  ⟨some 4, .mv (.c (.int .i64 (-1))), none, []⟩]
abbrev r65_15 : List AOper := [
  ⟨some 33, .mv (.t 0), none, []⟩,
  ⟨some 34, .mv (.t 5), none, []⟩,
  ⟨some 35, .bin .gtr (.t 33) (.t 34), none, [0, 1]⟩,
  ⟨some 32, .mv (.t 35), none, [2]⟩]
abbrev r65_16 : List AOper := [
  ⟨some 4, .mv (.c (.int .i64 1)), none, []⟩]
abbrev r65_17 : List AOper := [
  ⟨some 4, .mv (.c (.int .i64 0)), none, []⟩]
def k65 : List (List Nat) := [[0, 1], [0, 1, 7], [4], [0, 1, 10], [4], [0, 1, 13], [4], [0, 1, 5], [0, 1, 5, 6], [0, 1, 5, 6, 20], [4], [0, 5, 24], [4], [0, 5, 28], [4], [32], [4], [4]]
def f65 : AFunc := { ntmps := 36, results := [.tmp 4], body := (
  .seq (
  .region false r65_0 [0, 1]) (
  .seq (
  .block 0 (
    .seq (
    .region false r65_1 [0, 1, 7]) (
    .cond (.t 7) (
      .seq (
      .region false r65_2 [4]) (
      .ret)) (
      .seq (
      .region false r65_3 [0, 1, 10]) (
      .cond (.t 10) (
        .seq (
        .region false r65_4 [4]) (
        .ret)) (
        .seq (
        .region false r65_5 [0, 1, 13]) (
        .cond (.t 13) (
          .seq (
          .region false r65_6 [4]) (
          .ret)) (
          .skip)))))))) (
  .seq (
  .region false r65_7 [0, 1, 5]) (
  .seq (
  .seq (
  .region false r65_8 [0, 1, 5, 6]) (
  .block 1 (
    .seq (
    .region false r65_9 [0, 1, 5, 6, 20]) (
    .cond (.t 20) (
      .seq (
      .region false r65_10 [4]) (
      .ret)) (
      .seq (
      .region false r65_11 [0, 5, 24]) (
      .cond (.t 24) (
        .seq (
        .region false r65_12 [4]) (
        .ret)) (
        .seq (
        .region false r65_13 [0, 5, 28]) (
        .cond (.t 28) (
          .seq (
          .region false r65_14 [4]) (
          .ret)) (
          .seq (
          .region false r65_15 [32]) (
          .cond (.t 32) (
            .seq (
            .region false r65_16 [4]) (
            .ret)) (
            .skip))))))))))) (
  .seq (
  .region false r65_17 [4]) (
  .ret)))))) }
theorem c65 : cfunc Tryz.prog (kof k65) Tryz.f65 = some f65 := by kernel_rfl

/-- exitwave/num.order[float64] -/
abbrev r66_0 : List AOper := [
  ⟨some 4, .mv (.c (.int .i64 0)), none, []⟩]
abbrev r66_1 : List AOper := [
  ⟨some 6, .mv (.t 0), none, []⟩,
  ⟨some 7, .mv (.t 1), none, []⟩,
  ⟨some 8, .bin .lss (.t 6) (.t 7), none, [0, 1]⟩,
  ⟨some 5, .mv (.t 8), none, [2]⟩]
abbrev r66_2 : List AOper := [
  ⟨some 4, .mv (.c (.int .i64 (-1))), none, []⟩]
abbrev r66_3 : List AOper := [
  ⟨some 10, .mv (.t 0), none, []⟩,
  ⟨some 11, .mv (.t 1), none, []⟩,
  ⟨some 12, .bin .gtr (.t 10) (.t 11), none, [0, 1]⟩,
  ⟨some 9, .mv (.t 12), none, [2]⟩]
abbrev r66_4 : List AOper := [
  ⟨some 4, .mv (.c (.int .i64 1)), none, []⟩]
abbrev r66_5 : List AOper := [
  ⟨some 4, .mv (.c (.int .i64 0)), none, []⟩]
def k66 : List (List Nat) := [[0, 1], [0, 1, 5], [4], [9], [4], [4]]
def f66 : AFunc := { ntmps := 13, results := [.tmp 4], body := (
  .seq (
  .region false r66_0 [0, 1]) (
  .seq (
  .block 0 (
    .seq (
    .region false r66_1 [0, 1, 5]) (
    .cond (.t 5) (
      .seq (
      .region false r66_2 [4]) (
      .ret)) (
      .seq (
      .region false r66_3 [9]) (
      .cond (.t 9) (
        .seq (
        .region false r66_4 [4]) (
        .ret)) (
        .skip)))))) (
  .seq (
  .region false r66_5 [4]) (
  .ret)))) }
theorem c66 : cfunc Tryz.prog (kof k66) Tryz.f66 = some f66 := by kernel_rfl

/-- math.Abs -/
abbrev r147_0 : List AOper := [
  ⟨some 2, .mv (.c (.flt .f64 0)), none, []⟩]
abbrev r147_1 : List AOper := [
  ⟨some 3, .mv (.t 0), none, []⟩,
  ⟨some 4, .ext 0 [(.t 3)], none, [0]⟩,
  ⟨some 5, .bin .andNot (.t 4) (.c (.int .u64 9223372036854775808)), none, [1]⟩,
  ⟨some 6, .ext 1 [(.t 5)], none, [2, 1]⟩,
  ⟨some 2, .mv (.t 6), none, [3, 3, 0, 1, 2, 3]⟩]
def k147 : List (List Nat) := [[0], [2]]
def f147 : AFunc := { ntmps := 7, results := [.tmp 2], body := (
  .seq (
  .region false r147_0 [0]) (
  .seq (
  .region false r147_1 [2]) (
  .ret))) }
theorem c147 : cfunc Tryz.prog (kof k147) Tryz.f147 = some f147 := by kernel_rfl

/-- (*exitwave/term.look).walk -/
abbrev r61_0 : List AOper := [
  ⟨some 4, .box 25 (.t 1), none, []⟩]
abbrev r61_1 : List AOper := [
  ⟨some 8, .mv (.t 0), none, []⟩,
  ⟨some 9, .mv (.t 0), none, []⟩,
  ⟨some 10, .nilchk (.t 9), none, [1]⟩,
  ⟨some 11, .faddr 1 (.t 10), none, [2]⟩,
  ⟨some 12, .load none (.t 11), none, [3]⟩,
  ⟨some 13, .mv (.t 2), none, []⟩,
  ⟨some 14, .ext 6 [(.t 12), (.t 13)], none, [4, 5]⟩,
  ⟨some 15, .nilchk (.t 8), none, [0, 0, 1, 2, 3, 4, 5, 6]⟩,
  ⟨some 16, .faddr 1 (.t 15), none, [7, 0, 1, 2, 3, 4, 5, 6]⟩,
  ⟨none, .store 1 (.t 16) (.t 14), none, [8, 6, 0, 1, 2, 3, 4, 5, 6]⟩]
abbrev r61_2 : List AOper := [
  ⟨some 17, .mv (.t 2), none, []⟩,
  ⟨some 18, .bin .gtr (.t 17) (.c (.int .i64 200)), none, [0]⟩]
abbrev r61_3 : List AOper := [
  ⟨some 19, .mv (.t 0), none, []⟩,
  ⟨some 20, .nilchk (.t 19), none, [0, 0]⟩,
  ⟨some 21, .faddr 3 (.t 20), none, [1, 0]⟩,
  ⟨none, .store 1 (.t 21) (.c (.bool true)), none, [2, 0]⟩]
abbrev r61_4 : List AOper := [
  ⟨some 22, .mv (.t 0), none, []⟩,
  ⟨some 23, .nilchk (.t 22), none, [0]⟩,
  ⟨some 24, .faddr 0 (.t 23), none, [1]⟩,
  ⟨some 25, .load none (.t 24), none, [2]⟩,
  ⟨some 26, .load (some 5) (.t 4), none, []⟩,
  ⟨some 27, .callF 98 [(.t 26)], none, [4]⟩,
  ⟨some 28, .bin .add (.t 25) (.t 27), none, [3, 5]⟩,
  ⟨some 29, .nilchk (.t 22), none, [0, 0, 1, 2, 3, 4, 5, 6]⟩,
  ⟨some 30, .faddr 0 (.t 29), none, [7, 0, 1, 2, 3, 4, 5, 6]⟩,
  ⟨none, .store 1 (.t 30) (.t 28), none, [8, 6, 5, 0, 1, 2, 3, 4, 5, 6]⟩]
abbrev r61_5 : List AOper := [
  ⟨some 31, .mv (.t 0), none, []⟩,
  ⟨some 32, .nilchk (.t 31), none, [0]⟩,
  ⟨some 33, .faddr 0 (.t 32), none, [1]⟩,
  ⟨some 34, .load none (.t 33), none, [2]⟩,
  ⟨some 35, .bin .gtr (.t 34) (.c (.int .i64 65536)), none, [3]⟩]
abbrev r61_6 : List AOper := [
  ⟨some 36, .mv (.t 0), none, []⟩,
  ⟨some 37, .nilchk (.t 36), none, [0, 0]⟩,
  ⟨some 38, .faddr 3 (.t 37), none, [1, 0]⟩,
  ⟨none, .store 1 (.t 38) (.c (.bool true)), none, [2, 0]⟩]
abbrev r61_7 : List AOper := [
  ⟨some 39, .mv (.t 0), none, []⟩,
  ⟨some 40, .mv (.t 0), none, []⟩,
  ⟨some 41, .nilchk (.t 40), none, [1]⟩,
  ⟨some 42, .faddr 2 (.t 41), none, [2]⟩,
  ⟨some 43, .load none (.t 42), none, [3]⟩,
  ⟨some 44, .mv (.t 43), none, [4]⟩,
  ⟨some 45, .load (some 5) (.t 4), some (44, false), [5]⟩,
  ⟨some 46, .callF 99 [(.t 45)], some (44, false), [6, 5, 5]⟩,
  ⟨some 47, .un .not (.t 46), some (44, false), [7, 5]⟩,
  ⟨some 48, .pick (.t 44) (.c (.bool true)) (.t 47), none, [5, 8]⟩,
  ⟨some 49, .nilchk (.t 39), none, [0, 0, 1, 2, 3, 4, 5, 6, 7, 8, 9]⟩,
  ⟨some 50, .faddr 2 (.t 49), none, [10, 0, 1, 2, 3, 4, 5, 6, 7, 8, 9]⟩,
  ⟨none, .store 1 (.t 50) (.t 48), none, [11, 9, 7, 0, 1, 2, 3, 4, 5, 6, 7, 8, 9]⟩]
abbrev r61_8 : List AOper := [
  ⟨some 51, .faddr 4 (.t 4), none, []⟩,
  ⟨some 52, .load none (.t 51), none, [0]⟩,
  ⟨some 53, .len 1 (.t 52), none, [1]⟩,
  ⟨some 54, .mv (.c (.int .i64 0)), none, []⟩]
abbrev r61_9 : List AOper := [
  ⟨some 55, .bin .lss (.t 54) (.t 53), none, []⟩]
abbrev r61_10 : List AOper := [
  ⟨some 56, .iaddr 5 (.t 52) (.t 54), none, []⟩,
  ⟨some 57, .load (some 5) (.t 56), none, [0]⟩,
  ⟨some 7, .alloc 25 (.agg [.int .i64 0, .int .i64 0, .flt .f64 0, .str ⟨#[]⟩, .nils]), none, []⟩,
  ⟨none, .store 5 (.t 7) (.t 57), none, [2, 1, 0, 1, 2]⟩]
abbrev r61_11 : List AOper := [
  ⟨some 58, .mv (.t 0), none, []⟩,
  ⟨some 59, .load (some 5) (.t 7), none, []⟩,
  ⟨some 60, .mv (.t 2), none, []⟩,
  ⟨some 61, .bin .add (.t 60) (.c (.int .i64 1)), none, [2]⟩,
  ⟨some 62, .callF 61 [(.t 58), (.t 59), (.t 61)], none, [0, 1, 3]⟩]
abbrev r61_12 : List AOper := [
  ⟨some 63, .mv (.t 0), none, []⟩,
  ⟨some 64, .nilchk (.t 63), none, [0]⟩,
  ⟨some 65, .faddr 3 (.t 64), none, [1]⟩,
  ⟨some 66, .load none (.t 65), none, [2]⟩]
abbrev r61_13 : List AOper := [
  ⟨some 67, .bin .add (.t 54) (.c (.int .i64 1)), none, []⟩,
  ⟨some 54, .mv (.t 67), none, [0]⟩]
def l61_0 : ACode :=
  .seq (
  .region false r61_9 [0, 2, 52, 53, 54, 55]) (
  .seq (
  .cond (.t 55) (
    .skip) (
    .exit 0)) (
  .seq (
  .block 1 (
    .seq (
    .region false r61_10 [0, 2, 7, 52, 53, 54]) (
    .seq (
    .region false r61_11 [0, 2, 52, 53, 54]) (
    .seq (
    .region false r61_12 [0, 2, 52, 53, 54, 66]) (
    .cond (.t 66) (
      .ret) (
      .skip)))))) (
  .region false r61_13 [0, 2, 52, 53, 54])))
def m61_4 : List Nat := [0, 1, 3, 7, 0, 16, 63, 127, 255, 511]
theorem d61_4 : okDraw r61_4 m61_4 = true := by kernel_rfl
def k61 : List (List Nat) := [[0, 2, 4], [0, 2, 4], [0, 2, 4, 18], [], [0, 2, 4], [0, 2, 4, 35], [], [0, 2, 4], [0, 2, 52, 53, 54], [0, 2, 52, 53, 54, 55], [0, 2, 7, 52, 53, 54], [0, 2, 52, 53, 54], [0, 2, 52, 53, 54, 66], [0, 2, 52, 53, 54]]
def f61 : AFunc := { ntmps := 68, results := [], body := (
  .seq (
  .region false r61_0 [0, 2, 4]) (
  .seq (
  .region false r61_1 [0, 2, 4]) (
  .seq (
  .seq (
  .region false r61_2 [0, 2, 4, 18]) (
  .cond (.t 18) (
    .seq (
    .region false r61_3 []) (
    .ret)) (
    .skip))) (
  .seq (
  .region true r61_4 [0, 2, 4]) (
  .seq (
  .seq (
  .region false r61_5 [0, 2, 4, 35]) (
  .cond (.t 35) (
    .seq (
    .region false r61_6 []) (
    .ret)) (
    .skip))) (
  .seq (
  .region false r61_7 [0, 2, 4]) (
  .seq (
  .region false r61_8 [0, 2, 52, 53, 54]) (
  .block 0 (
    .loop l61_0))))))))) }
theorem c61 : cfunc Tryz.prog (kof k61) Tryz.f61 = some f61 := by kernel_rfl

/-- exitwave/term.own -/
abbrev r98_0 : List AOper := [
  ⟨some 1, .box 25 (.t 0), none, []⟩,
  ⟨some 2, .mv (.c (.int .i64 0)), none, []⟩]
abbrev r98_1 : List AOper := [
  ⟨some 4, .faddr 4 (.t 1), none, []⟩,
  ⟨some 5, .load none (.t 4), none, [0]⟩,
  ⟨some 6, .len 1 (.t 5), none, [1]⟩,
  ⟨some 3, .mv (.t 6), none, [2, 0, 1, 2]⟩]
abbrev r98_2 : List AOper := [
  ⟨some 7, .faddr 0 (.t 1), none, []⟩,
  ⟨some 8, .load none (.t 7), none, [0]⟩]
abbrev r98_3 : List AOper := [
  ⟨some 10, .bin .eql (.t 8) (.c (.int .i64 1)), none, []⟩,
  ⟨some 9, .mv (.t 10), none, [0]⟩]
abbrev r98_4 : List AOper := [
  ⟨some 11, .bin .eql (.t 8) (.c (.int .i64 3)), none, []⟩,
  ⟨some 9, .mv (.t 11), none, [0]⟩]
abbrev r98_5 : List AOper := [
  ⟨some 12, .bin .eql (.t 8) (.c (.int .i64 6)), none, []⟩,
  ⟨some 9, .mv (.t 12), none, [0]⟩]
abbrev r98_6 : List AOper := [
  ⟨some 2, .mv (.c (.int .i64 0)), none, []⟩]
abbrev r98_7 : List AOper := [
  ⟨some 14, .bin .eql (.t 8) (.c (.int .i64 2)), none, []⟩,
  ⟨some 13, .mv (.t 14), none, [0]⟩]
abbrev r98_8 : List AOper := [
  ⟨some 15, .bin .eql (.t 8) (.c (.int .i64 4)), none, []⟩,
  ⟨some 13, .mv (.t 15), none, [0]⟩]
abbrev r98_9 : List AOper := [
  ⟨some 2, .mv (.c (.int .i64 2)), none, []⟩]
abbrev r98_10 : List AOper := [
  ⟨some 17, .bin .eql (.t 8) (.c (.int .i64 8)), none, []⟩,
  ⟨some 16, .mv (.t 17), none, [0]⟩]
abbrev r98_11 : List AOper := [
  ⟨some 18, .mv (.t 3), none, []⟩,
  ⟨some 19, .bin .mul (.c (.int .i64 2)) (.t 18), none, [0]⟩,
  ⟨some 2, .mv (.t 19), none, [1, 0, 1]⟩]
abbrev r98_12 : List AOper := [
  ⟨some 21, .bin .eql (.t 8) (.c (.int .i64 5)), none, []⟩,
  ⟨some 20, .mv (.t 21), none, [0]⟩]
abbrev r98_13 : List AOper := [
  ⟨some 22, .mv (.t 3), none, []⟩,
  ⟨some 23, .bin .add (.c (.int .i64 2)) (.t 22), none, [0]⟩,
  ⟨some 2, .mv (.t 23), none, [1, 0, 1]⟩]
abbrev r98_14 : List AOper := [
  ⟨some 24, .mv (.t 3), none, []⟩,
  ⟨some 25, .bin .add (.c (.int .i64 1)) (.t 24), none, [0]⟩,
  ⟨some 2, .mv (.t 25), none, [1, 0, 1]⟩]
def k98 : List (List Nat) := [[1], [1, 3], [3, 8], [3, 8, 9], [3, 8, 9], [3, 8, 9], [2], [3, 8, 13], [3, 8, 13], [2], [3, 8, 16], [2], [3, 20], [2], [2]]
def f98 : AFunc := { ntmps := 26, results := [.tmp 2], body := (
  .seq (
  .region false r98_0 [1]) (
  .seq (
  .region false r98_1 [1, 3]) (
  .seq (
  .seq (
  .region false r98_2 [3, 8]) (
  .block 0 (
    .seq (
    .seq (
    .region false r98_3 [3, 8, 9]) (
    .cond (.t 9) (
      .skip) (
      .seq (
      .region false r98_4 [3, 8, 9]) (
      .cond (.t 9) (
        .skip) (
        .region false r98_5 [3, 8, 9]))))) (
    .cond (.t 9) (
      .seq (
      .region false r98_6 [2]) (
      .ret)) (
      .seq (
      .seq (
      .region false r98_7 [3, 8, 13]) (
      .cond (.t 13) (
        .skip) (
        .region false r98_8 [3, 8, 13]))) (
      .cond (.t 13) (
        .seq (
        .region false r98_9 [2]) (
        .ret)) (
        .seq (
        .region false r98_10 [3, 8, 16]) (
        .cond (.t 16) (
          .seq (
          .region false r98_11 [2]) (
          .ret)) (
          .seq (
          .region false r98_12 [3, 20]) (
          .cond (.t 20) (
            .seq (
            .region false r98_13 [2]) (
            .ret)) (
            .skip))))))))))) (
  .seq (
  .region false r98_14 [2]) (
  .ret))))) }
theorem c98 : cfunc Tryz.prog (kof k98) Tryz.f98 = some f98 := by kernel_rfl

/-- exitwave/term.plain -/
abbrev r99_0 : List AOper := [
  ⟨some 1, .box 25 (.t 0), none, []⟩,
  ⟨some 2, .mv (.c (.bool false)), none, []⟩]
abbrev r99_1 : List AOper := [
  ⟨some 8, .faddr 1 (.t 1), none, []⟩,
  ⟨some 9, .load none (.t 8), none, [0]⟩,
  ⟨some 10, .bin .eql (.t 9) (.c (.int .i64 0)), none, [1]⟩,
  ⟨some 11, .faddr 2 (.t 1), none, []⟩,
  ⟨some 12, .load none (.t 11), none, [3]⟩,
  ⟨some 13, .ext 0 [(.t 12)], none, [4]⟩,
  ⟨some 14, .bin .eql (.t 13) (.c (.int .u64 0)), none, [5]⟩,
  ⟨some 15, .faddr 3 (.t 1), none, []⟩,
  ⟨some 16, .load none (.t 15), none, [7]⟩,
  ⟨some 17, .bin .eql (.t 16) (.c (.str ⟨#[]⟩)), none, [8]⟩,
  ⟨some 18, .faddr 4 (.t 1), none, []⟩,
  ⟨some 19, .load none (.t 18), none, [10]⟩,
  ⟨some 20, .len 1 (.t 19), none, [11]⟩,
  ⟨some 21, .bin .eql (.t 20) (.c (.int .i64 0)), none, [12]⟩,
  ⟨some 3, .mv (.t 10), none, [2, 5, 0, 1, 2]⟩,
  ⟨some 4, .mv (.t 14), none, [6, 14, 0, 1, 2, 3, 4, 5, 6, 14]⟩,
  ⟨some 5, .mv (.t 17), none, [9, 15, 0, 1, 2, 3, 4, 5, 6, 7, 8, 9, 14, 15]⟩,
  ⟨some 6, .mv (.t 21), none, [13, 16, 0, 1, 2, 3, 4, 5, 6, 7, 8, 9, 10, 11, 12, 13, 14, 15, 16]⟩]
abbrev r99_2 : List AOper := [
  ⟨some 22, .faddr 1 (.t 1), none, []⟩,
  ⟨some 23, .load none (.t 22), none, [0]⟩,
  ⟨some 24, .bin .geq (.t 23) (.c (.int .i64 0)), none, [1]⟩,
  ⟨some 25, .mv (.t 24), none, [2]⟩,
  ⟨some 26, .faddr 1 (.t 1), some (25, true), [3]⟩,
  ⟨some 27, .load none (.t 26), some (25, true), [4, 3]⟩,
  ⟨some 28, .bin .leq (.t 27) (.c (.int .i64 1099511627776)), some (25, true), [5, 3]⟩,
  ⟨some 29, .pick (.t 25) (.t 28) (.c (.bool false)), none, [3, 6]⟩,
  ⟨some 7, .mv (.t 29), none, [7, 3, 0, 1, 2, 3, 4, 5, 6, 7]⟩]
abbrev r99_3 : List AOper := [
  ⟨some 30, .faddr 0 (.t 1), none, []⟩,
  ⟨some 31, .load none (.t 30), none, [0]⟩]
abbrev r99_4 : List AOper := [
  ⟨some 33, .bin .eql (.t 31) (.c (.int .i64 1)), none, []⟩,
  ⟨some 32, .mv (.t 33), none, [0]⟩]
abbrev r99_5 : List AOper := [
  ⟨some 34, .mv (.t 4), none, []⟩,
  ⟨some 35, .mv (.t 34), none, [0]⟩,
  ⟨some 36, .mv (.t 5), some (35, true), [1]⟩,
  ⟨some 37, .pick (.t 35) (.t 36) (.c (.bool false)), none, [1, 2]⟩,
  ⟨some 38, .mv (.t 37), none, [3, 1]⟩,
  ⟨some 39, .mv (.t 6), some (38, true), [4]⟩,
  ⟨some 40, .pick (.t 38) (.t 39) (.c (.bool false)), none, [4, 5]⟩,
  ⟨some 41, .mv (.t 40), none, [6, 4]⟩,
  ⟨some 42, .faddr 1 (.t 1), some (41, true), [7]⟩,
  ⟨some 43, .load none (.t 42), some (41, true), [8, 7]⟩,
  ⟨some 44, .bin .geq (.t 43) (.c (.int .i64 (-576460752303423488))), some (41, true), [9, 7]⟩,
  ⟨some 45, .pick (.t 41) (.t 44) (.c (.bool false)), none, [7, 10]⟩,
  ⟨some 46, .mv (.t 45), none, [11, 7]⟩,
  ⟨some 47, .faddr 1 (.t 1), some (46, true), [12]⟩,
  ⟨some 48, .load none (.t 47), some (46, true), [13, 12]⟩,
  ⟨some 49, .bin .leq (.t 48) (.c (.int .i64 576460752303423487)), some (46, true), [14, 12]⟩,
  ⟨some 50, .pick (.t 46) (.t 49) (.c (.bool false)), none, [12, 15]⟩,
  ⟨some 2, .mv (.t 50), none, [16, 12, 0, 1, 2, 3, 4, 5, 6, 7, 8, 9, 10, 11, 12, 13, 14, 15, 16]⟩]
abbrev r99_6 : List AOper := [
  ⟨some 52, .bin .eql (.t 31) (.c (.int .i64 2)), none, []⟩,
  ⟨some 51, .mv (.t 52), none, [0]⟩]
abbrev r99_7 : List AOper := [
  ⟨some 53, .mv (.t 3), none, []⟩,
  ⟨some 54, .mv (.t 53), none, [0]⟩,
  ⟨some 55, .mv (.t 5), some (54, true), [1]⟩,
  ⟨some 56, .pick (.t 54) (.t 55) (.c (.bool false)), none, [1, 2]⟩,
  ⟨some 57, .mv (.t 56), none, [3, 1]⟩,
  ⟨some 58, .mv (.t 6), some (57, true), [4]⟩,
  ⟨some 59, .pick (.t 57) (.t 58) (.c (.bool false)), none, [4, 5]⟩,
  ⟨some 60, .mv (.t 59), none, [6, 4]⟩,
  ⟨some 61, .faddr 2 (.t 1), some (60, true), [7]⟩,
  ⟨some 62, .load none (.t 61), some (60, true), [8, 7]⟩,
  ⟨some 63, .callF 102 [(.t 62)], some (60, true), [9, 7, 7]⟩,
  ⟨some 64, .un .not (.t 63), some (60, true), [10, 7]⟩,
  ⟨some 65, .pick (.t 60) (.t 64) (.c (.bool false)), none, [7, 11]⟩,
  ⟨some 66, .mv (.t 65), none, [12, 10]⟩,
  ⟨some 67, .faddr 2 (.t 1), some (66, true), [13]⟩,
  ⟨some 68, .load none (.t 67), some (66, true), [14, 13]⟩,
  ⟨some 69, .callF 107 [(.t 68), (.c (.int .i64 0))], some (66, true), [15, 13, 13]⟩,
  ⟨some 70, .un .not (.t 69), some (66, true), [16, 13]⟩,
  ⟨some 71, .pick (.t 66) (.t 70) (.c (.bool false)), none, [13, 17]⟩,
  ⟨some 2, .mv (.t 71), none, [18, 16, 0, 1, 2, 3, 4, 5, 6, 7, 8, 9, 10, 11, 12, 13, 14, 15, 16, 17, 18]⟩]
abbrev r99_8 : List AOper := [
  ⟨some 73, .bin .eql (.t 31) (.c (.int .i64 3)), none, []⟩,
  ⟨some 72, .mv (.t 73), none, [0]⟩]
abbrev r99_9 : List AOper := [
  ⟨some 74, .mv (.t 3), none, []⟩,
  ⟨some 75, .mv (.t 74), none, [0]⟩,
  ⟨some 76, .mv (.t 4), some (75, true), [1]⟩,
  ⟨some 77, .pick (.t 75) (.t 76) (.c (.bool false)), none, [1, 2]⟩,
  ⟨some 78, .mv (.t 77), none, [3, 1]⟩,
  ⟨some 79, .mv (.t 6), some (78, true), [4]⟩,
  ⟨some 80, .pick (.t 78) (.t 79) (.c (.bool false)), none, [4, 5]⟩,
  ⟨some 81, .mv (.t 80), none, [6, 4]⟩,
  ⟨some 82, .faddr 3 (.t 1), some (81, true), [7]⟩,
  ⟨some 83, .load none (.t 82), some (81, true), [8, 7]⟩,
  ⟨some 84, .len 0 (.t 83), some (81, true), [9, 7]⟩,
  ⟨some 85, .bin .leq (.t 84) (.c (.int .i64 64)), some (81, true), [10, 7]⟩,
  ⟨some 86, .pick (.t 81) (.t 85) (.c (.bool false)), none, [7, 11]⟩,
  ⟨some 2, .mv (.t 86), none, [12, 7, 0, 1, 2, 3, 4, 5, 6, 7, 8, 9, 10, 11, 12]⟩]
abbrev r99_10 : List AOper := [
  ⟨some 88, .bin .eql (.t 31) (.c (.int .i64 4)), none, []⟩,
  ⟨some 87, .mv (.t 88), none, [0]⟩]
abbrev r99_11 : List AOper := [
  ⟨some 89, .bin .eql (.t 31) (.c (.int .i64 6)), none, []⟩,
  ⟨some 87, .mv (.t 89), none, [0]⟩]
abbrev r99_12 : List AOper := [
  ⟨some 90, .mv (.t 4), none, []⟩,
  ⟨some 91, .mv (.t 90), none, [0]⟩,
  ⟨some 92, .mv (.t 5), some (91, true), [1]⟩,
  ⟨some 93, .pick (.t 91) (.t 92) (.c (.bool false)), none, [1, 2]⟩,
  ⟨some 94, .mv (.t 93), none, [3, 1]⟩,
  ⟨some 95, .mv (.t 6), some (94, true), [4]⟩,
  ⟨some 96, .pick (.t 94) (.t 95) (.c (.bool false)), none, [4, 5]⟩,
  ⟨some 97, .mv (.t 96), none, [6, 4]⟩,
  ⟨some 98, .mv (.t 7), some (97, true), [7]⟩,
  ⟨some 99, .pick (.t 97) (.t 98) (.c (.bool false)), none, [7, 8]⟩,
  ⟨some 2, .mv (.t 99), none, [9, 7, 0, 1, 2, 3, 4, 5, 6, 7, 8, 9]⟩]
abbrev r99_13 : List AOper := [
  ⟨some 101, .bin .eql (.t 31) (.c (.int .i64 5)), none, []⟩,
  ⟨some 100, .mv (.t 101), none, [0]⟩]
abbrev r99_14 : List AOper := [
  ⟨some 102, .mv (.t 4), none, []⟩,
  ⟨some 103, .mv (.t 102), none, [0]⟩,
  ⟨some 104, .mv (.t 5), some (103, true), [1]⟩,
  ⟨some 105, .pick (.t 103) (.t 104) (.c (.bool false)), none, [1, 2]⟩,
  ⟨some 106, .mv (.t 105), none, [3, 1]⟩,
  ⟨some 107, .faddr 1 (.t 1), some (106, true), [4]⟩,
  ⟨some 108, .load none (.t 107), some (106, true), [5, 4]⟩,
  ⟨some 109, .bin .geq (.t 108) (.c (.int .i64 0)), some (106, true), [6, 4]⟩,
  ⟨some 110, .pick (.t 106) (.t 109) (.c (.bool false)), none, [4, 7]⟩,
  ⟨some 111, .mv (.t 110), none, [8, 4]⟩,
  ⟨some 112, .faddr 1 (.t 1), some (111, true), [9]⟩,
  ⟨some 113, .load none (.t 112), some (111, true), [10, 9]⟩,
  ⟨some 114, .bin .leq (.t 113) (.c (.int .i64 16384)), some (111, true), [11, 9]⟩,
  ⟨some 115, .pick (.t 111) (.t 114) (.c (.bool false)), none, [9, 12]⟩,
  ⟨some 2, .mv (.t 115), none, [13, 9, 0, 1, 2, 3, 4, 5, 6, 7, 8, 9, 10, 11, 12, 13]⟩]
abbrev r99_15 : List AOper := [
  ⟨some 117, .bin .eql (.t 31) (.c (.int .i64 7)), none, []⟩,
  ⟨some 116, .mv (.t 117), none, [0]⟩]
abbrev r99_16 : List AOper := [
  ⟨some 118, .bin .eql (.t 31) (.c (.int .i64 8)), none, []⟩,
  ⟨some 116, .mv (.t 118), none, [0]⟩]
abbrev r99_17 : List AOper := [
  ⟨some 119, .mv (.t 3), none, []⟩,
  ⟨some 120, .mv (.t 119), none, [0]⟩,
  ⟨some 121, .mv (.t 4), some (120, true), [1]⟩,
  ⟨some 122, .pick (.t 120) (.t 121) (.c (.bool false)), none, [1, 2]⟩,
  ⟨some 123, .mv (.t 122), none, [3, 1]⟩,
  ⟨some 124, .mv (.t 5), some (123, true), [4]⟩,
  ⟨some 125, .pick (.t 123) (.t 124) (.c (.bool false)), none, [4, 5]⟩,
  ⟨some 2, .mv (.t 125), none, [6, 4, 0, 1, 2, 3, 4, 5, 6]⟩]
abbrev r99_18 : List AOper := [
  ⟨some 2, .mv (.c (.bool false)), none, []⟩]
def m99_1 : List Nat := [0, 1, 3, 0, 8, 24, 56, 0, 128, 384, 0, 1024, 3072, 7168, 63, 16511, 50175, 131071]
theorem d99_1 : okDraw r99_1 m99_1 = true := by kernel_rfl
def k99 : List (List Nat) := [[1], [1, 3, 4, 5, 6], [1, 3, 4, 5, 6, 7], [1, 3, 4, 5, 6, 7, 31], [1, 3, 4, 5, 6, 7, 31, 32], [2], [1, 3, 4, 5, 6, 7, 31, 51], [2], [1, 3, 4, 5, 6, 7, 31, 72], [2], [1, 3, 4, 5, 6, 7, 31, 87], [1, 3, 4, 5, 6, 7, 31, 87], [2], [1, 3, 4, 5, 31, 100], [2], [3, 4, 5, 31, 116], [3, 4, 5, 116], [2], [2]]
def f99 : AFunc := { ntmps := 126, results := [.tmp 2], body := (
  .seq (
  .region false r99_0 [1]) (
  .seq (
  .region true r99_1 [1, 3, 4, 5, 6]) (
  .seq (
  .region false r99_2 [1, 3, 4, 5, 6, 7]) (
  .seq (
  .seq (
  .region false r99_3 [1, 3, 4, 5, 6, 7, 31]) (
  .block 0 (
    .seq (
    .region false r99_4 [1, 3, 4, 5, 6, 7, 31, 32]) (
    .cond (.t 32) (
      .seq (
      .region false r99_5 [2]) (
      .ret)) (
      .seq (
      .region false r99_6 [1, 3, 4, 5, 6, 7, 31, 51]) (
      .cond (.t 51) (
        .seq (
        .region false r99_7 [2]) (
        .ret)) (
        .seq (
        .region false r99_8 [1, 3, 4, 5, 6, 7, 31, 72]) (
        .cond (.t 72) (
          .seq (
          .region false r99_9 [2]) (
          .ret)) (
          .seq (
          .seq (
          .region false r99_10 [1, 3, 4, 5, 6, 7, 31, 87]) (
          .cond (.t 87) (
            .skip) (
            .region false r99_11 [1, 3, 4, 5, 6, 7, 31, 87]))) (
          .cond (.t 87) (
            .seq (
            .region false r99_12 [2]) (
            .ret)) (
            .seq (
            .region false r99_13 [1, 3, 4, 5, 31, 100]) (
            .cond (.t 100) (
              .seq (
              .region false r99_14 [2]) (
              .ret)) (
              .seq (
              .seq (
              .region false r99_15 [3, 4, 5, 31, 116]) (
              .cond (.t 116) (
                .skip) (
                .region false r99_16 [3, 4, 5, 116]))) (
              .cond (.t 116) (
                .seq (
                .region false r99_17 [2]) (
                .ret)) (
                .skip))))))))))))))) (
  .seq (
  .region false r99_18 [2]) (
  .ret)))))) }
theorem c99 : cfunc Tryz.prog (kof k99) Tryz.f99 = some f99 := by kernel_rfl


end Go.Am.Rl
