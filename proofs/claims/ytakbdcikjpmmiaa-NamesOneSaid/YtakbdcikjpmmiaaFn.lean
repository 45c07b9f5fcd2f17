/- The functions, in the abstract machine's form (written by gen.py). -/
import Derived.Test.YtakbdcikjpmmiaaAm28
import Derived.Test.YtakbdcikjpmmiaaProg
set_option linter.unusedVariables false
namespace Go.Am.Rn
open Go.Proofs
set_option maxRecDepth 20000

/-- exitwave/exitwavelaw17.NamesPlays -/
def r3_0 : List AOper := [
  ⟨some 2, .mv (.c (.bool false)), none, []⟩]
def r3_1 : List AOper := [
  ⟨some 17, .callF 5 [], none, []⟩,
  ⟨some 18, .un .not (.t 17), none, [0]⟩]
def r3_2 : List AOper := [
  ⟨some 2, .mv (.c (.bool false)), none, []⟩]
def r3_3 : List AOper := [
  ⟨some 19, .mv (.t 0), none, []⟩,
  ⟨some 20, .len 1 (.t 19), none, [0]⟩,
  ⟨some 21, .bin .gtr (.t 20) (.c (.int .i64 1000)), none, [1]⟩]
def r3_4 : List AOper := [
  ⟨some 2, .mv (.c (.bool true)), none, []⟩]
def r3_5 : List AOper := [
  ⟨some 22, .callF 6 [], none, []⟩,
  ⟨some 3, .mv (.t 22), none, [0, 0, 0]⟩]
def r3_6 : List AOper := [
  ⟨some 23, .build [.nils, .nils] [], none, []⟩,
  ⟨some 24, .box 30 (.t 23), none, [0]⟩,
  ⟨some 4, .mv (.t 24), none, [1, 0, 1]⟩]
def r3_7 : List AOper := [
  ⟨some 25, .mv (.t 3), none, []⟩,
  ⟨some 26, .eqN 0 false (.t 25) (.c (.nilp)), none, [0]⟩]
def r3_8 : List AOper := [
  ⟨some 2, .mv (.c (.bool false)), none, []⟩]
def r3_9 : List AOper := [
  ⟨some 5, .mv (.c (.int .i64 0)), none, []⟩]
def r3_10 : List AOper := [
  ⟨some 27, .mv (.t 5), none, []⟩,
  ⟨some 28, .mv (.t 0), none, []⟩,
  ⟨some 29, .len 1 (.t 28), none, [1]⟩,
  ⟨some 30, .bin .lss (.t 27) (.t 29), none, [0, 2]⟩]
def r3_12 : List AOper := [
  ⟨some 33, .mv (.t 0), none, []⟩,
  ⟨some 34, .mv (.t 5), none, []⟩,
  ⟨some 35, .iaddr 3 (.t 33) (.t 34), none, [0, 1]⟩,
  ⟨some 36, .load (some 3) (.t 35), none, [2]⟩,
  ⟨some 6, .alloc 32 (.agg [.int .i64 0, .str ⟨#[]⟩, .int .i64 0]), none, []⟩,
  ⟨none, .store 3 (.t 6) (.t 36), none, [4, 3, 0, 1, 2, 3, 4]⟩]
def r3_13 : List AOper := [
  ⟨some 37, .mv (.t 3), none, []⟩,
  ⟨some 38, .mv (.t 4), none, []⟩,
  ⟨some 39, .load (some 3) (.t 6), none, []⟩,
  ⟨some 40, .callF 7 [(.t 37), (.t 38), (.t 39)], none, [0, 1, 2]⟩,
  ⟨some 41, .un .not (.t 40), none, [3]⟩]
def r3_14 : List AOper := [
  ⟨some 2, .mv (.c (.bool false)), none, []⟩]
def r3_15 : List AOper := [
  ⟨some 43, .mv (.t 3), none, []⟩,
  ⟨some 44, .faddr 1 (.t 6), none, []⟩,
  ⟨some 45, .load none (.t 44), none, [1]⟩,
  ⟨some 46, .callF 8 [(.t 43), (.t 45)], none, [0, 2]⟩,
  ⟨some 42, .mv (.t 46), none, [3]⟩,
  ⟨some 47, .extract (.t 42) 0, none, [4]⟩,
  ⟨some 48, .extract (.t 42) 1, none, [4]⟩,
  ⟨some 7, .mv (.t 47), none, [5, 3, 0, 1, 2, 3, 4, 5]⟩,
  ⟨some 8, .mv (.t 48), none, [6, 7, 0, 1, 2, 3, 4, 5, 6, 7]⟩]
def r3_16 : List AOper := [
  ⟨some 50, .mv (.t 4), none, []⟩,
  ⟨some 51, .faddr 1 (.t 6), none, []⟩,
  ⟨some 52, .load none (.t 51), none, [1]⟩,
  ⟨some 53, .callF 9 [(.t 50), (.t 52)], none, [0, 2]⟩,
  ⟨some 49, .mv (.t 53), none, [3]⟩,
  ⟨some 54, .extract (.t 49) 0, none, [4]⟩,
  ⟨some 55, .extract (.t 49) 1, none, [4]⟩,
  ⟨some 9, .mv (.t 54), none, [5, 3, 0, 1, 2, 3, 4, 5]⟩,
  ⟨some 10, .mv (.t 55), none, [6, 7, 0, 1, 2, 3, 4, 5, 6, 7]⟩]
def r3_17 : List AOper := [
  ⟨some 57, .mv (.t 3), none, []⟩,
  ⟨some 58, .faddr 2 (.t 6), none, []⟩,
  ⟨some 59, .load none (.t 58), none, [1]⟩,
  ⟨some 60, .callF 10 [(.t 57), (.t 59)], none, [0, 2]⟩,
  ⟨some 56, .mv (.t 60), none, [3]⟩,
  ⟨some 61, .extract (.t 56) 0, none, [4]⟩,
  ⟨some 62, .extract (.t 56) 1, none, [4]⟩,
  ⟨some 11, .mv (.t 61), none, [5, 3, 0, 1, 2, 3, 4, 5]⟩,
  ⟨some 12, .mv (.t 62), none, [6, 7, 0, 1, 2, 3, 4, 5, 6, 7]⟩]
def r3_18 : List AOper := [
  ⟨some 64, .mv (.t 4), none, []⟩,
  ⟨some 65, .faddr 2 (.t 6), none, []⟩,
  ⟨some 66, .load none (.t 65), none, [1]⟩,
  ⟨some 67, .callF 11 [(.t 64), (.t 66)], none, [0, 2]⟩,
  ⟨some 63, .mv (.t 67), none, [3]⟩,
  ⟨some 68, .extract (.t 63) 0, none, [4]⟩,
  ⟨some 69, .extract (.t 63) 1, none, [4]⟩,
  ⟨some 13, .mv (.t 68), none, [5, 3, 0, 1, 2, 3, 4, 5]⟩,
  ⟨some 14, .mv (.t 69), none, [6, 7, 0, 1, 2, 3, 4, 5, 6, 7]⟩]
def r3_19 : List AOper := [
  ⟨some 70, .mv (.t 7), none, []⟩,
  ⟨some 71, .mv (.t 9), none, []⟩,
  ⟨some 72, .bin .neq (.t 70) (.t 71), none, [0, 1]⟩,
  ⟨some 73, .mv (.t 72), none, [2]⟩,
  ⟨some 74, .mv (.t 8), some (73, false), [3]⟩,
  ⟨some 75, .mv (.t 10), some (73, false), [3]⟩,
  ⟨some 76, .eqB true (.t 74) (.t 75), some (73, false), [4, 5, 3]⟩,
  ⟨some 77, .pick (.t 73) (.c (.bool true)) (.t 76), none, [3, 6]⟩,
  ⟨some 78, .mv (.t 77), none, [7, 3]⟩,
  ⟨some 79, .mv (.t 11), some (78, false), [8]⟩,
  ⟨some 80, .mv (.t 13), some (78, false), [8]⟩,
  ⟨some 81, .bin .neq (.t 79) (.t 80), some (78, false), [9, 10, 8]⟩,
  ⟨some 82, .pick (.t 78) (.c (.bool true)) (.t 81), none, [8, 11]⟩,
  ⟨some 83, .mv (.t 82), none, [12, 8]⟩,
  ⟨some 84, .mv (.t 12), some (83, false), [13]⟩,
  ⟨some 85, .mv (.t 14), some (83, false), [13]⟩,
  ⟨some 86, .eqB true (.t 84) (.t 85), some (83, false), [14, 15, 13]⟩,
  ⟨some 87, .pick (.t 83) (.c (.bool true)) (.t 86), none, [13, 16]⟩]
def r3_20 : List AOper := [
  ⟨some 2, .mv (.c (.bool false)), none, []⟩]
def r3_11 : List AOper := [
  ⟨some 31, .mv (.t 5), none, []⟩,
  ⟨some 32, .bin .add (.t 31) (.c (.int .i64 1)), none, [0]⟩,
  ⟨some 5, .mv (.t 32), none, [1, 0, 1]⟩]
def l3_0 : ACode :=
  .seq (
  .seq (
  .region false r3_10 [0, 3, 4, 5, 30]) (
  .cond (.t 30) (
    .skip) (
    .exit 0))) (
  .seq (
  .block 1 (
    .seq (
    .region false r3_12 [0, 3, 4, 5, 6]) (
    .seq (
    .seq (
    .region false r3_13 [0, 3, 4, 5, 6, 41]) (
    .cond (.t 41) (
      .seq (
      .region false r3_14 [2]) (
      .ret)) (
      .skip))) (
    .seq (
    .region false r3_15 [0, 3, 4, 5, 6, 7, 8]) (
    .seq (
    .region false r3_16 [0, 3, 4, 5, 6, 7, 8, 9, 10]) (
    .seq (
    .region false r3_17 [0, 3, 4, 5, 6, 7, 8, 9, 10, 11, 12]) (
    .seq (
    .region false r3_18 [0, 3, 4, 5, 7, 8, 9, 10, 11, 12, 13, 14]) (
    .seq (
    .region false r3_19 [0, 3, 4, 5, 87]) (
    .cond (.t 87) (
      .seq (
      .region false r3_20 [2]) (
      .ret)) (
      .skip)))))))))) (
  .region false r3_11 [0, 3, 4, 5]))
def r3_21 : List AOper := [
  ⟨some 88, .mv (.t 3), none, []⟩,
  ⟨some 89, .callF 12 [(.t 88)], none, [0]⟩,
  ⟨some 15, .mv (.t 89), none, [1, 1, 0, 1]⟩]
def r3_22 : List AOper := [
  ⟨some 90, .mv (.t 15), none, []⟩,
  ⟨some 91, .len 1 (.t 90), none, [0]⟩,
  ⟨some 92, .mv (.t 4), none, []⟩,
  ⟨some 93, .nilchk (.t 92), none, [2]⟩,
  ⟨some 94, .faddr 0 (.t 93), none, [3]⟩,
  ⟨some 95, .load none (.t 94), none, [4]⟩,
  ⟨some 96, .len 1 (.t 95), none, [5]⟩,
  ⟨some 97, .bin .neq (.t 91) (.t 96), none, [1, 6]⟩]
def r3_23 : List AOper := [
  ⟨some 2, .mv (.c (.bool false)), none, []⟩]
def r3_24 : List AOper := [
  ⟨some 16, .mv (.c (.int .i64 0)), none, []⟩]
def r3_25 : List AOper := [
  ⟨some 98, .mv (.t 16), none, []⟩,
  ⟨some 99, .mv (.t 15), none, []⟩,
  ⟨some 100, .len 1 (.t 99), none, [1]⟩,
  ⟨some 101, .bin .lss (.t 98) (.t 100), none, [0, 2]⟩]
def r3_27 : List AOper := [
  ⟨some 104, .mv (.t 15), none, []⟩,
  ⟨some 105, .mv (.t 16), none, []⟩,
  ⟨some 106, .iaddr 1 (.t 104) (.t 105), none, [0, 1]⟩,
  ⟨some 107, .load none (.t 106), none, [2]⟩,
  ⟨some 108, .mv (.t 4), none, []⟩,
  ⟨some 109, .nilchk (.t 108), none, [4]⟩,
  ⟨some 110, .faddr 0 (.t 109), none, [5]⟩,
  ⟨some 111, .load none (.t 110), none, [6]⟩,
  ⟨some 112, .mv (.t 16), none, []⟩,
  ⟨some 113, .iaddr 1 (.t 111) (.t 112), none, [7, 8]⟩,
  ⟨some 114, .load none (.t 113), none, [9]⟩,
  ⟨some 115, .bin .neq (.t 107) (.t 114), none, [3, 10]⟩]
def r3_28 : List AOper := [
  ⟨some 2, .mv (.c (.bool false)), none, []⟩]
def r3_29 : List AOper := [
  ⟨some 116, .mv (.t 15), none, []⟩,
  ⟨some 117, .mv (.t 16), none, []⟩,
  ⟨some 118, .iaddr 1 (.t 116) (.t 117), none, [0, 1, 0, 1]⟩,
  ⟨none, .store 1 (.t 118) (.c (.str ⟨#[115, 112, 111, 105, 108, 116]⟩)), none, [2, 0, 1]⟩]
def r3_26 : List AOper := [
  ⟨some 102, .mv (.t 16), none, []⟩,
  ⟨some 103, .bin .add (.t 102) (.c (.int .i64 1)), none, [0]⟩,
  ⟨some 16, .mv (.t 103), none, [1, 0, 1]⟩]
def l3_1 : ACode :=
  .seq (
  .seq (
  .region false r3_25 [3, 4, 15, 16, 101]) (
  .cond (.t 101) (
    .skip) (
    .exit 2))) (
  .seq (
  .block 3 (
    .seq (
    .seq (
    .region true r3_27 [3, 4, 15, 16, 115]) (
    .cond (.t 115) (
      .seq (
      .region false r3_28 [2]) (
      .ret)) (
      .skip))) (
    .region false r3_29 [3, 4, 15, 16]))) (
  .region false r3_26 [3, 4, 15, 16]))
def r3_30 : List AOper := [
  ⟨some 119, .mv (.t 3), none, []⟩,
  ⟨some 120, .callF 12 [(.t 119)], none, [0]⟩,
  ⟨some 121, .len 1 (.t 120), none, [1]⟩,
  ⟨some 122, .bin .eql (.t 121) (.c (.int .i64 0)), none, [2]⟩,
  ⟨some 123, .mv (.t 122), none, [3, 1]⟩,
  ⟨some 124, .mv (.t 3), some (123, false), [4]⟩,
  ⟨some 125, .callF 12 [(.t 124)], some (123, false), [5, 4, 4]⟩,
  ⟨some 126, .iaddr 1 (.t 125) (.c (.int .i64 0)), some (123, false), [6, 4]⟩,
  ⟨some 127, .load none (.t 126), some (123, false), [7, 4]⟩,
  ⟨some 128, .mv (.t 4), some (123, false), [4]⟩,
  ⟨some 129, .nilchk (.t 128), some (123, false), [9, 4]⟩,
  ⟨some 130, .faddr 0 (.t 129), some (123, false), [10, 4]⟩,
  ⟨some 131, .load none (.t 130), some (123, false), [11, 4]⟩,
  ⟨some 132, .iaddr 1 (.t 131) (.c (.int .i64 0)), some (123, false), [12, 4]⟩,
  ⟨some 133, .load none (.t 132), some (123, false), [13, 4]⟩,
  ⟨some 134, .bin .eql (.t 127) (.t 133), some (123, false), [8, 14, 4]⟩,
  ⟨some 135, .pick (.t 123) (.c (.bool true)) (.t 134), none, [4, 15]⟩,
  ⟨some 2, .mv (.t 135), none, [16, 6, 0, 1, 2, 3, 4, 5, 6, 7, 8, 9, 10, 11, 12, 13, 14, 15, 16]⟩]
def m3_27 : List Nat := [0, 0, 3, 7, 0, 16, 48, 112, 0, 496, 1008, 2047]
theorem d3_27 : okDraw r3_27 m3_27 = true := by kernel_rfl
def m3_30 : List Nat := [0, 1, 3, 7, 15, 31, 63, 127, 255, 31, 543, 1567, 3615, 7711, 15903, 32767, 65535, 131071]
theorem d3_30 : okDraw r3_30 m3_30 = true := by kernel_rfl
def k3 : List (List Nat) := [[0], [0, 18], [2], [0, 21], [2], [0, 3], [0, 3, 4], [0, 3, 4, 26], [2], [0, 3, 4, 5], [0, 3, 4, 5, 30], [0, 3, 4, 5], [0, 3, 4, 5, 6], [0, 3, 4, 5, 6, 41], [2], [0, 3, 4, 5, 6, 7, 8], [0, 3, 4, 5, 6, 7, 8, 9, 10], [0, 3, 4, 5, 6, 7, 8, 9, 10, 11, 12], [0, 3, 4, 5, 7, 8, 9, 10, 11, 12, 13, 14], [0, 3, 4, 5, 87], [2], [3, 4, 15], [3, 4, 15, 97], [2], [3, 4, 15, 16], [3, 4, 15, 16, 101], [3, 4, 15, 16], [3, 4, 15, 16, 115], [2], [3, 4, 15, 16], [2]]
def f3 : AFunc := { ntmps := 136, results := [.tmp 2], body := (
  .seq (
  .region false r3_0 [0]) (
  .seq (
  .seq (
  .region false r3_1 [0, 18]) (
  .cond (.t 18) (
    .seq (
    .region false r3_2 [2]) (
    .ret)) (
    .skip))) (
  .seq (
  .seq (
  .region false r3_3 [0, 21]) (
  .cond (.t 21) (
    .seq (
    .region false r3_4 [2]) (
    .ret)) (
    .skip))) (
  .seq (
  .region false r3_5 [0, 3]) (
  .seq (
  .region false r3_6 [0, 3, 4]) (
  .seq (
  .seq (
  .region false r3_7 [0, 3, 4, 26]) (
  .cond (.t 26) (
    .seq (
    .region false r3_8 [2]) (
    .ret)) (
    .skip))) (
  .seq (
  .seq (
  .region false r3_9 [0, 3, 4, 5]) (
  .block 0 (
    .loop l3_0))) (
  .seq (
  .region false r3_21 [3, 4, 15]) (
  .seq (
  .seq (
  .region false r3_22 [3, 4, 15, 97]) (
  .cond (.t 97) (
    .seq (
    .region false r3_23 [2]) (
    .ret)) (
    .skip))) (
  .seq (
  .seq (
  .region false r3_24 [3, 4, 15, 16]) (
  .block 2 (
    .loop l3_1))) (
  .seq (
  .region true r3_30 [2]) (
  .ret)))))))))))) }
theorem c3 : cfunc Try.prog (kof k3) Try.f3 = some f3 := by kernel_rfl

/-- exitwave/exitwavelaw17.NamesOne -/
def r4_0 : List AOper := [
  ⟨some 2, .mv (.c (.bool false)), none, []⟩]
def r4_1 : List AOper := [
  ⟨some 16, .callF 5 [], none, []⟩,
  ⟨some 17, .un .not (.t 16), none, [0]⟩]
def r4_2 : List AOper := [
  ⟨some 2, .mv (.c (.bool false)), none, []⟩]
def r4_3 : List AOper := [
  ⟨some 18, .mv (.t 0), none, []⟩,
  ⟨some 19, .len 1 (.t 18), none, [0]⟩,
  ⟨some 20, .bin .gtr (.t 19) (.c (.int .i64 1000)), none, [1]⟩]
def r4_4 : List AOper := [
  ⟨some 2, .mv (.c (.bool true)), none, []⟩]
def r4_5 : List AOper := [
  ⟨some 21, .callF 6 [], none, []⟩,
  ⟨some 3, .mv (.t 21), none, [0, 0, 0]⟩]
def r4_6 : List AOper := [
  ⟨some 22, .mv (.t 3), none, []⟩,
  ⟨some 23, .eqN 0 false (.t 22) (.c (.nilp)), none, [0]⟩]
def r4_7 : List AOper := [
  ⟨some 2, .mv (.c (.bool false)), none, []⟩]
def r4_8 : List AOper := [
  ⟨some 4, .mv (.c (.int .i64 0)), none, []⟩]
def r4_9 : List AOper := [
  ⟨some 24, .mv (.t 4), none, []⟩,
  ⟨some 25, .mv (.t 0), none, []⟩,
  ⟨some 26, .len 1 (.t 25), none, [1]⟩,
  ⟨some 27, .bin .lss (.t 24) (.t 26), none, [0, 2]⟩]
def r4_11 : List AOper := [
  ⟨some 30, .mv (.t 3), none, []⟩,
  ⟨some 31, .build [.nils, .nils] [], none, []⟩,
  ⟨some 32, .box 30 (.t 31), none, [1]⟩,
  ⟨some 33, .mv (.t 0), none, []⟩,
  ⟨some 34, .mv (.t 4), none, []⟩,
  ⟨some 35, .iaddr 3 (.t 33) (.t 34), none, [3, 4]⟩,
  ⟨some 36, .load (some 3) (.t 35), none, [5]⟩,
  ⟨some 37, .callF 7 [(.t 30), (.t 32), (.t 36)], none, [0, 2, 6]⟩]
def r4_10 : List AOper := [
  ⟨some 28, .mv (.t 4), none, []⟩,
  ⟨some 29, .bin .add (.t 28) (.c (.int .i64 1)), none, [0]⟩,
  ⟨some 4, .mv (.t 29), none, [1, 0, 1]⟩]
def l4_0 : ACode :=
  .seq (
  .seq (
  .region false r4_9 [0, 3, 4, 27]) (
  .cond (.t 27) (
    .skip) (
    .exit 0))) (
  .seq (
  .block 1 (
    .region false r4_11 [0, 3, 4])) (
  .region false r4_10 [0, 3, 4]))
def r4_12 : List AOper := [
  ⟨some 38, .mv (.t 3), none, []⟩,
  ⟨some 39, .callF 12 [(.t 38)], none, [0]⟩,
  ⟨some 5, .mv (.t 39), none, [1, 1, 0, 1]⟩]
def r4_13 : List AOper := [
  ⟨some 6, .mv (.c (.int .i64 0)), none, []⟩]
def r4_14 : List AOper := [
  ⟨some 40, .mv (.t 6), none, []⟩,
  ⟨some 41, .mv (.t 5), none, []⟩,
  ⟨some 42, .len 1 (.t 41), none, [1]⟩,
  ⟨some 43, .bin .lss (.t 40) (.t 42), none, [0, 2]⟩]
def r4_16 : List AOper := [
  ⟨some 46, .mv (.t 6), none, []⟩,
  ⟨some 47, .bin .gtr (.t 46) (.c (.int .i64 0)), none, [0]⟩,
  ⟨some 48, .mv (.t 47), none, [1]⟩,
  ⟨some 49, .mv (.t 5), some (48, true), [2]⟩,
  ⟨some 50, .mv (.t 6), some (48, true), [2]⟩,
  ⟨some 51, .bin .sub (.t 50) (.c (.int .i64 1)), some (48, true), [4, 2]⟩,
  ⟨some 52, .iaddr 1 (.t 49) (.t 51), some (48, true), [3, 5, 2]⟩,
  ⟨some 53, .load none (.t 52), some (48, true), [6, 2]⟩,
  ⟨some 54, .mv (.t 5), some (48, true), [2]⟩,
  ⟨some 55, .mv (.t 6), some (48, true), [2]⟩,
  ⟨some 56, .iaddr 1 (.t 54) (.t 55), some (48, true), [8, 9, 2]⟩,
  ⟨some 57, .load none (.t 56), some (48, true), [10, 2]⟩,
  ⟨some 58, .bin .geq (.t 53) (.t 57), some (48, true), [7, 11, 2]⟩,
  ⟨some 59, .pick (.t 48) (.t 58) (.c (.bool false)), none, [2, 12]⟩,
  ⟨some 60, .mv (.t 59), none, [13, 2]⟩,
  ⟨some 61, .mv (.t 5), some (60, false), [14]⟩,
  ⟨some 62, .mv (.t 6), some (60, false), [14]⟩,
  ⟨some 63, .iaddr 1 (.t 61) (.t 62), some (60, false), [15, 16, 14]⟩,
  ⟨some 64, .load none (.t 63), some (60, false), [17, 14]⟩,
  ⟨some 65, .bin .eql (.t 64) (.c (.str ⟨#[]⟩)), some (60, false), [18, 14]⟩,
  ⟨some 66, .pick (.t 60) (.c (.bool true)) (.t 65), none, [14, 19]⟩,
  ⟨some 67, .mv (.t 66), none, [20, 14]⟩,
  ⟨some 68, .mv (.t 5), some (67, false), [21]⟩,
  ⟨some 69, .mv (.t 6), some (67, false), [21]⟩,
  ⟨some 70, .iaddr 1 (.t 68) (.t 69), some (67, false), [22, 23, 21]⟩,
  ⟨some 71, .load none (.t 70), some (67, false), [24, 21]⟩,
  ⟨some 72, .len 0 (.t 71), some (67, false), [25, 21]⟩,
  ⟨some 73, .bin .gtr (.t 72) (.c (.int .i64 64)), some (67, false), [26, 21]⟩,
  ⟨some 74, .pick (.t 67) (.c (.bool true)) (.t 73), none, [21, 27]⟩,
  ⟨some 75, .mv (.t 74), none, [28, 21]⟩,
  ⟨some 76, .mv (.t 5), some (75, false), [29]⟩,
  ⟨some 77, .mv (.t 6), some (75, false), [29]⟩,
  ⟨some 78, .iaddr 1 (.t 76) (.t 77), some (75, false), [30, 31, 29]⟩,
  ⟨some 79, .load none (.t 78), some (75, false), [32, 29]⟩,
  ⟨some 80, .bin .eql (.t 79) (.c (.str ⟨#[117, 110, 100, 101, 102, 105, 110, 101, 100]⟩)), some (75, false), [33, 29]⟩,
  ⟨some 81, .pick (.t 75) (.c (.bool true)) (.t 80), none, [29, 34]⟩]
def r4_17 : List AOper := [
  ⟨some 2, .mv (.c (.bool false)), none, []⟩]
def r4_18 : List AOper := [
  ⟨some 83, .mv (.t 3), none, []⟩,
  ⟨some 84, .mv (.t 5), none, []⟩,
  ⟨some 85, .mv (.t 6), none, []⟩,
  ⟨some 86, .iaddr 1 (.t 84) (.t 85), none, [1, 2]⟩,
  ⟨some 87, .load none (.t 86), none, [3]⟩,
  ⟨some 88, .callF 8 [(.t 83), (.t 87)], none, [0, 4]⟩,
  ⟨some 82, .mv (.t 88), none, [5]⟩,
  ⟨some 89, .extract (.t 82) 0, none, [6]⟩,
  ⟨some 90, .extract (.t 82) 1, none, [6]⟩,
  ⟨some 7, .mv (.t 89), none, [7, 5, 0, 1, 2, 3, 4, 5, 6, 7]⟩,
  ⟨some 8, .mv (.t 90), none, [8, 9, 0, 1, 2, 3, 4, 5, 6, 7, 8, 9]⟩]
def r4_19 : List AOper := [
  ⟨some 92, .mv (.t 3), none, []⟩,
  ⟨some 93, .mv (.t 7), none, []⟩,
  ⟨some 94, .callF 10 [(.t 92), (.t 93)], none, [0, 1]⟩,
  ⟨some 91, .mv (.t 94), none, [2]⟩,
  ⟨some 95, .extract (.t 91) 0, none, [3]⟩,
  ⟨some 96, .extract (.t 91) 1, none, [3]⟩,
  ⟨some 9, .mv (.t 95), none, [4, 2, 0, 1, 2, 3, 4]⟩,
  ⟨some 10, .mv (.t 96), none, [5, 6, 0, 1, 2, 3, 4, 5, 6]⟩]
def r4_20 : List AOper := [
  ⟨some 97, .mv (.t 8), none, []⟩,
  ⟨some 98, .un .not (.t 97), none, [0]⟩,
  ⟨some 99, .mv (.t 98), none, [1]⟩,
  ⟨some 100, .mv (.t 10), some (99, false), [2]⟩,
  ⟨some 101, .un .not (.t 100), some (99, false), [3, 2]⟩,
  ⟨some 102, .pick (.t 99) (.c (.bool true)) (.t 101), none, [2, 4]⟩,
  ⟨some 103, .mv (.t 102), none, [5, 2]⟩,
  ⟨some 104, .mv (.t 9), some (103, false), [6]⟩,
  ⟨some 105, .mv (.t 5), some (103, false), [6]⟩,
  ⟨some 106, .mv (.t 6), some (103, false), [6]⟩,
  ⟨some 107, .iaddr 1 (.t 105) (.t 106), some (103, false), [8, 9, 6]⟩,
  ⟨some 108, .load none (.t 107), some (103, false), [10, 6]⟩,
  ⟨some 109, .bin .neq (.t 104) (.t 108), some (103, false), [7, 11, 6]⟩,
  ⟨some 110, .pick (.t 103) (.c (.bool true)) (.t 109), none, [6, 12]⟩,
  ⟨some 111, .mv (.t 110), none, [13, 6]⟩,
  ⟨some 112, .mv (.t 7), some (111, false), [14]⟩,
  ⟨some 113, .bin .lss (.t 112) (.c (.int .i64 1)), some (111, false), [15, 14]⟩,
  ⟨some 114, .pick (.t 111) (.c (.bool true)) (.t 113), none, [14, 16]⟩]
def r4_21 : List AOper := [
  ⟨some 2, .mv (.c (.bool false)), none, []⟩]
def r4_15 : List AOper := [
  ⟨some 44, .mv (.t 6), none, []⟩,
  ⟨some 45, .bin .add (.t 44) (.c (.int .i64 1)), none, [0]⟩,
  ⟨some 6, .mv (.t 45), none, [1, 0, 1]⟩]
def l4_1 : ACode :=
  .seq (
  .seq (
  .region false r4_14 [0, 3, 5, 6, 43]) (
  .cond (.t 43) (
    .skip) (
    .exit 2))) (
  .seq (
  .block 3 (
    .seq (
    .seq (
    .region true r4_16 [0, 3, 5, 6, 81]) (
    .cond (.t 81) (
      .seq (
      .region false r4_17 [2]) (
      .ret)) (
      .skip))) (
    .seq (
    .region false r4_18 [0, 3, 5, 6, 7, 8]) (
    .seq (
    .region false r4_19 [0, 3, 5, 6, 7, 8, 9, 10]) (
    .seq (
    .region false r4_20 [0, 3, 5, 6, 114]) (
    .cond (.t 114) (
      .seq (
      .region false r4_21 [2]) (
      .ret)) (
      .skip))))))) (
  .region false r4_15 [0, 3, 5, 6]))
def r4_22 : List AOper := [
  ⟨some 11, .mv (.c (.int .i64 0)), none, []⟩]
def r4_23 : List AOper := [
  ⟨some 115, .mv (.t 11), none, []⟩,
  ⟨some 116, .mv (.t 0), none, []⟩,
  ⟨some 117, .len 1 (.t 116), none, [1]⟩,
  ⟨some 118, .bin .lss (.t 115) (.t 117), none, [0, 2]⟩]
def r4_25 : List AOper := [
  ⟨some 122, .mv (.t 3), none, []⟩,
  ⟨some 123, .mv (.t 0), none, []⟩,
  ⟨some 124, .mv (.t 11), none, []⟩,
  ⟨some 125, .iaddr 3 (.t 123) (.t 124), none, [1, 2]⟩,
  ⟨some 126, .faddr 2 (.t 125), none, [3]⟩,
  ⟨some 127, .load none (.t 126), none, [4]⟩,
  ⟨some 128, .callF 10 [(.t 122), (.t 127)], none, [0, 5]⟩,
  ⟨some 121, .mv (.t 128), none, [6]⟩,
  ⟨some 129, .extract (.t 121) 0, none, [7]⟩,
  ⟨some 130, .extract (.t 121) 1, none, [7]⟩,
  ⟨some 12, .mv (.t 129), none, [8, 6, 0, 1, 2, 3, 4, 5, 6, 7, 8]⟩,
  ⟨some 13, .mv (.t 130), none, [9, 10, 0, 1, 2, 3, 4, 5, 6, 7, 8, 9, 10]⟩]
def r4_26 : List AOper := [
  ⟨some 131, .mv (.t 13), none, []⟩,
  ⟨some 132, .un .not (.t 131), none, [0]⟩]
def r4_27 : List AOper := [
  ⟨some 134, .mv (.t 3), none, []⟩,
  ⟨some 135, .mv (.t 12), none, []⟩,
  ⟨some 136, .callF 8 [(.t 134), (.t 135)], none, [0, 1]⟩,
  ⟨some 133, .mv (.t 136), none, [2]⟩,
  ⟨some 137, .extract (.t 133) 0, none, [3]⟩,
  ⟨some 138, .extract (.t 133) 1, none, [3]⟩,
  ⟨some 14, .mv (.t 137), none, [4, 2, 0, 1, 2, 3, 4]⟩,
  ⟨some 15, .mv (.t 138), none, [5, 6, 0, 1, 2, 3, 4, 5, 6]⟩]
def r4_28 : List AOper := [
  ⟨some 139, .mv (.t 15), none, []⟩,
  ⟨some 140, .un .not (.t 139), none, [0]⟩,
  ⟨some 141, .mv (.t 140), none, [1]⟩,
  ⟨some 142, .mv (.t 14), some (141, false), [2]⟩,
  ⟨some 143, .mv (.t 0), some (141, false), [2]⟩,
  ⟨some 144, .mv (.t 11), some (141, false), [2]⟩,
  ⟨some 145, .iaddr 3 (.t 143) (.t 144), some (141, false), [4, 5, 2]⟩,
  ⟨some 146, .faddr 2 (.t 145), some (141, false), [6, 2]⟩,
  ⟨some 147, .load none (.t 146), some (141, false), [7, 2]⟩,
  ⟨some 148, .bin .neq (.t 142) (.t 147), some (141, false), [3, 8, 2]⟩,
  ⟨some 149, .pick (.t 141) (.c (.bool true)) (.t 148), none, [2, 9]⟩]
def r4_29 : List AOper := [
  ⟨some 2, .mv (.c (.bool false)), none, []⟩]
def r4_24 : List AOper := [
  ⟨some 119, .mv (.t 11), none, []⟩,
  ⟨some 120, .bin .add (.t 119) (.c (.int .i64 1)), none, [0]⟩,
  ⟨some 11, .mv (.t 120), none, [1, 0, 1]⟩]
def l4_2 : ACode :=
  .seq (
  .seq (
  .region false r4_23 [0, 3, 11, 118]) (
  .cond (.t 118) (
    .skip) (
    .exit 4))) (
  .seq (
  .block 5 (
    .seq (
    .region false r4_25 [0, 3, 11, 12, 13]) (
    .seq (
    .seq (
    .region false r4_26 [0, 3, 11, 12, 132]) (
    .cond (.t 132) (
      .exit 5) (
      .skip))) (
    .seq (
    .region false r4_27 [0, 3, 11, 14, 15]) (
    .seq (
    .region false r4_28 [0, 3, 11, 149]) (
    .cond (.t 149) (
      .seq (
      .region false r4_29 [2]) (
      .ret)) (
      .skip))))))) (
  .region false r4_24 [0, 3, 11]))
def r4_30 : List AOper := [
  ⟨some 2, .mv (.c (.bool true)), none, []⟩]
def m4_16 : List Nat := [0, 1, 3, 7, 7, 23, 63, 127, 7, 7, 775, 1799, 4095, 8191, 16383, 32767, 32767, 131071, 262143, 524287, 1048575, 2097151, 4194303, 4194303, 16777215, 33554431, 67108863, 134217727, 268435455, 536870911, 1073741823, 1073741823, 4294967295, 8589934591, 17179869183, 34359738367]
theorem d4_16 : okDraw r4_16 m4_16 = true := by kernel_rfl
def k4 : List (List Nat) := [[0], [0, 17], [2], [0, 20], [2], [0, 3], [0, 3, 23], [2], [0, 3, 4], [0, 3, 4, 27], [0, 3, 4], [0, 3, 4], [0, 3, 5], [0, 3, 5, 6], [0, 3, 5, 6, 43], [0, 3, 5, 6], [0, 3, 5, 6, 81], [2], [0, 3, 5, 6, 7, 8], [0, 3, 5, 6, 7, 8, 9, 10], [0, 3, 5, 6, 114], [2], [0, 3, 11], [0, 3, 11, 118], [0, 3, 11], [0, 3, 11, 12, 13], [0, 3, 11, 12, 132], [0, 3, 11, 14, 15], [0, 3, 11, 149], [2], [2]]
def f4 : AFunc := { ntmps := 150, results := [.tmp 2], body := (
  .seq (
  .region false r4_0 [0]) (
  .seq (
  .seq (
  .region false r4_1 [0, 17]) (
  .cond (.t 17) (
    .seq (
    .region false r4_2 [2]) (
    .ret)) (
    .skip))) (
  .seq (
  .seq (
  .region false r4_3 [0, 20]) (
  .cond (.t 20) (
    .seq (
    .region false r4_4 [2]) (
    .ret)) (
    .skip))) (
  .seq (
  .region false r4_5 [0, 3]) (
  .seq (
  .seq (
  .region false r4_6 [0, 3, 23]) (
  .cond (.t 23) (
    .seq (
    .region false r4_7 [2]) (
    .ret)) (
    .skip))) (
  .seq (
  .seq (
  .region false r4_8 [0, 3, 4]) (
  .block 0 (
    .loop l4_0))) (
  .seq (
  .region false r4_12 [0, 3, 5]) (
  .seq (
  .seq (
  .region false r4_13 [0, 3, 5, 6]) (
  .block 2 (
    .loop l4_1))) (
  .seq (
  .seq (
  .region false r4_22 [0, 3, 11]) (
  .block 4 (
    .loop l4_2))) (
  .seq (
  .region false r4_30 [2]) (
  .ret))))))))))) }
theorem c4 : cfunc Try.prog (kof k4) Try.f4 = some f4 := by kernel_rfl

/-- exitwave/exitwavelaw17.known -/
def r5_0 : List AOper := [
  ⟨some 0, .mv (.c (.bool false)), none, []⟩]
def r5_1 : List AOper := [
  ⟨some 8, .callF 6 [], none, []⟩,
  ⟨some 1, .mv (.t 8), none, [0, 0, 0]⟩]
def r5_2 : List AOper := [
  ⟨some 9, .mv (.t 1), none, []⟩,
  ⟨some 10, .eqN 0 false (.t 9) (.c (.nilp)), none, [0]⟩]
def r5_3 : List AOper := [
  ⟨some 0, .mv (.c (.bool false)), none, []⟩]
def r5_4 : List AOper := [
  ⟨some 11, .mv (.t 1), none, []⟩,
  ⟨some 12, .callF 13 [(.t 11), (.c (.str ⟨#[97]⟩)), (.c (.int .i64 1))], none, [0]⟩,
  ⟨some 2, .mv (.t 12), none, [1, 1, 0, 1]⟩]
def r5_5 : List AOper := [
  ⟨some 13, .mv (.t 1), none, []⟩,
  ⟨some 14, .callF 13 [(.t 13), (.c (.str ⟨#[97]⟩)), (.c (.int .i64 2))], none, [0]⟩,
  ⟨some 3, .mv (.t 14), none, [1, 1, 0, 1]⟩]
def r5_6 : List AOper := [
  ⟨some 15, .mv (.t 1), none, []⟩,
  ⟨some 16, .callF 13 [(.t 15), (.c (.str ⟨#[98]⟩)), (.c (.int .i64 1))], none, [0]⟩,
  ⟨some 4, .mv (.t 16), none, [1, 1, 0, 1]⟩]
def r5_7 : List AOper := [
  ⟨some 17, .mv (.t 1), none, []⟩,
  ⟨some 18, .callF 14 [(.t 17), (.c (.int .i64 1))], none, [0]⟩,
  ⟨some 5, .mv (.t 18), none, [1, 1, 0, 1]⟩]
def r5_8 : List AOper := [
  ⟨some 20, .mv (.t 1), none, []⟩,
  ⟨some 21, .callF 8 [(.t 20), (.c (.str ⟨#[97]⟩))], none, [0]⟩,
  ⟨some 19, .mv (.t 21), none, [1]⟩,
  ⟨some 22, .extract (.t 19) 0, none, [2]⟩,
  ⟨some 23, .extract (.t 19) 1, none, [2]⟩,
  ⟨some 6, .mv (.t 22), none, [3, 1, 0, 1, 2, 3]⟩,
  ⟨some 7, .mv (.t 23), none, [4, 5, 0, 1, 2, 3, 4, 5]⟩]
def r5_9 : List AOper := [
  ⟨some 24, .mv (.t 2), none, []⟩,
  ⟨some 25, .bin .eql (.t 24) (.c (.int .i64 0)), none, [0]⟩,
  ⟨some 26, .mv (.t 25), none, [1]⟩,
  ⟨some 27, .mv (.t 3), some (26, true), [2]⟩,
  ⟨some 28, .bin .eql (.t 27) (.c (.int .i64 13)), some (26, true), [3, 2]⟩,
  ⟨some 29, .pick (.t 26) (.t 28) (.c (.bool false)), none, [2, 4]⟩,
  ⟨some 30, .mv (.t 29), none, [5, 2]⟩,
  ⟨some 31, .mv (.t 4), some (30, true), [6]⟩,
  ⟨some 32, .bin .eql (.t 31) (.c (.int .i64 13)), some (30, true), [7, 6]⟩,
  ⟨some 33, .pick (.t 30) (.t 32) (.c (.bool false)), none, [6, 8]⟩,
  ⟨some 34, .mv (.t 33), none, [9, 6]⟩,
  ⟨some 35, .mv (.t 5), some (34, true), [10]⟩,
  ⟨some 36, .pick (.t 34) (.t 35) (.c (.bool false)), none, [10, 11]⟩,
  ⟨some 37, .mv (.t 36), none, [12, 10]⟩,
  ⟨some 38, .mv (.t 7), some (37, true), [13]⟩,
  ⟨some 39, .un .not (.t 38), some (37, true), [14, 13]⟩,
  ⟨some 40, .pick (.t 37) (.t 39) (.c (.bool false)), none, [13, 15]⟩,
  ⟨some 0, .mv (.t 40), none, [16, 13, 0, 1, 2, 3, 4, 5, 6, 7, 8, 9, 10, 11, 12, 13, 14, 15, 16]⟩]
def k5 : List (List Nat) := [[], [1], [1, 10], [0], [1, 2], [1, 2, 3], [1, 2, 3, 4], [1, 2, 3, 4, 5], [2, 3, 4, 5, 7], [0]]
def f5 : AFunc := { ntmps := 41, results := [.tmp 0], body := (
  .seq (
  .region false r5_0 []) (
  .seq (
  .region false r5_1 [1]) (
  .seq (
  .seq (
  .region false r5_2 [1, 10]) (
  .cond (.t 10) (
    .seq (
    .region false r5_3 [0]) (
    .ret)) (
    .skip))) (
  .seq (
  .region false r5_4 [1, 2]) (
  .seq (
  .region false r5_5 [1, 2, 3]) (
  .seq (
  .region false r5_6 [1, 2, 3, 4]) (
  .seq (
  .region false r5_7 [1, 2, 3, 4, 5]) (
  .seq (
  .region false r5_8 [2, 3, 4, 5, 7]) (
  .seq (
  .region false r5_9 [0]) (
  .ret)))))))))) }
theorem c5 : cfunc Try.prog (kof k5) Try.f5 = some f5 := by kernel_rfl

/-- exitwave/names.New -/
def r6_0 : List AOper := [
  ⟨some 0, .mv (.c (.nilp)), none, []⟩]
def r6_1 : List AOper := [
  ⟨some 1, .mkmap, none, []⟩,
  ⟨some 2, .mkmap, none, []⟩,
  ⟨some 3, .build [.nilm, .nilm] [(0, 1, (.t 1)), (1, 1, (.t 2))], none, [0, 1]⟩,
  ⟨some 4, .box 46 (.t 3), none, [2]⟩,
  ⟨some 0, .mv (.t 4), none, [3, 0, 1, 2, 3]⟩]
def k6 : List (List Nat) := [[], [0]]
def f6 : AFunc := { ntmps := 5, results := [.tmp 0], body := (
  .seq (
  .region false r6_0 []) (
  .seq (
  .region false r6_1 [0]) (
  .ret))) }
theorem c6 : cfunc Try.prog (kof k6) Try.f6 = some f6 := by kernel_rfl

/-- exitwave/exitwavelaw17.step -/
def r7_0 : List AOper := [
  ⟨some 5, .box 32 (.t 2), none, []⟩,
  ⟨some 6, .mv (.c (.bool false)), none, []⟩]
def r7_1 : List AOper := [
  ⟨some 7, .faddr 0 (.t 5), none, []⟩,
  ⟨some 8, .load none (.t 7), none, [0]⟩]
def r7_2 : List AOper := [
  ⟨some 10, .bin .eql (.t 8) (.c (.int .i64 1)), none, []⟩,
  ⟨some 9, .mv (.t 10), none, [0]⟩]
def r7_3 : List AOper := [
  ⟨some 11, .mv (.t 0), none, []⟩,
  ⟨some 12, .faddr 1 (.t 5), none, []⟩,
  ⟨some 13, .load none (.t 12), none, [1]⟩,
  ⟨some 14, .faddr 2 (.t 5), none, []⟩,
  ⟨some 15, .load none (.t 14), none, [3]⟩,
  ⟨some 16, .callF 13 [(.t 11), (.t 13), (.t 15)], none, [0, 2, 4]⟩,
  ⟨some 17, .mv (.t 1), none, []⟩,
  ⟨some 18, .faddr 1 (.t 5), none, []⟩,
  ⟨some 19, .load none (.t 18), none, [7]⟩,
  ⟨some 20, .faddr 2 (.t 5), none, []⟩,
  ⟨some 21, .load none (.t 20), none, [9]⟩,
  ⟨some 22, .callF 15 [(.t 17), (.t 19), (.t 21)], none, [6, 8, 10, 5]⟩,
  ⟨some 23, .bin .eql (.t 16) (.t 22), none, [5, 11]⟩,
  ⟨some 6, .mv (.t 23), none, [12, 11, 0, 1, 2, 3, 4, 5, 6, 7, 8, 9, 10, 11, 12]⟩]
def r7_4 : List AOper := [
  ⟨some 25, .bin .eql (.t 8) (.c (.int .i64 2)), none, []⟩,
  ⟨some 24, .mv (.t 25), none, [0]⟩]
def r7_5 : List AOper := [
  ⟨some 26, .mv (.t 0), none, []⟩,
  ⟨some 27, .faddr 1 (.t 5), none, []⟩,
  ⟨some 28, .load none (.t 27), none, [1]⟩,
  ⟨some 29, .callF 16 [(.t 26), (.t 28)], none, [0, 2]⟩,
  ⟨some 30, .mv (.t 1), none, []⟩,
  ⟨some 31, .faddr 1 (.t 5), none, []⟩,
  ⟨some 32, .load none (.t 31), none, [5]⟩,
  ⟨some 33, .callF 17 [(.t 30), (.t 32)], none, [4, 6, 3]⟩,
  ⟨some 34, .bin .eql (.t 29) (.t 33), none, [3, 7]⟩,
  ⟨some 6, .mv (.t 34), none, [8, 7, 0, 1, 2, 3, 4, 5, 6, 7, 8]⟩]
def r7_6 : List AOper := [
  ⟨some 36, .bin .eql (.t 8) (.c (.int .i64 3)), none, []⟩,
  ⟨some 35, .mv (.t 36), none, [0]⟩]
def r7_7 : List AOper := [
  ⟨some 37, .mv (.t 0), none, []⟩,
  ⟨some 38, .faddr 2 (.t 5), none, []⟩,
  ⟨some 39, .load none (.t 38), none, [1]⟩,
  ⟨some 40, .callF 14 [(.t 37), (.t 39)], none, [0, 2]⟩,
  ⟨some 41, .mv (.t 1), none, []⟩,
  ⟨some 42, .faddr 2 (.t 5), none, []⟩,
  ⟨some 43, .load none (.t 42), none, [5]⟩,
  ⟨some 44, .callF 18 [(.t 41), (.t 43)], none, [4, 6, 3]⟩,
  ⟨some 45, .eqB false (.t 40) (.t 44), none, [3, 7]⟩,
  ⟨some 6, .mv (.t 45), none, [8, 7, 0, 1, 2, 3, 4, 5, 6, 7, 8]⟩]
def r7_8 : List AOper := [
  ⟨some 6, .mv (.c (.bool true)), none, []⟩]
def m7_3 : List Nat := [0, 0, 2, 0, 8, 31, 0, 0, 128, 0, 512, 2047, 4095, 8191]
theorem d7_3 : okDraw r7_3 m7_3 = true := by kernel_rfl
def m7_5 : List Nat := [0, 0, 2, 7, 0, 0, 32, 127, 255, 511]
theorem d7_5 : okDraw r7_5 m7_5 = true := by kernel_rfl
def m7_7 : List Nat := [0, 0, 2, 7, 0, 0, 32, 127, 255, 511]
theorem d7_7 : okDraw r7_7 m7_7 = true := by kernel_rfl
def k7 : List (List Nat) := [[0, 1, 5], [0, 1, 5, 8], [0, 1, 5, 8, 9], [6], [0, 1, 5, 8, 24], [6], [0, 1, 5, 35], [6], [6]]
def f7 : AFunc := { ntmps := 46, results := [.tmp 6], body := (
  .seq (
  .region false r7_0 [0, 1, 5]) (
  .seq (
  .seq (
  .region false r7_1 [0, 1, 5, 8]) (
  .block 0 (
    .seq (
    .region false r7_2 [0, 1, 5, 8, 9]) (
    .cond (.t 9) (
      .seq (
      .region true r7_3 [6]) (
      .ret)) (
      .seq (
      .region false r7_4 [0, 1, 5, 8, 24]) (
      .cond (.t 24) (
        .seq (
        .region true r7_5 [6]) (
        .ret)) (
        .seq (
        .region false r7_6 [0, 1, 5, 35]) (
        .cond (.t 35) (
          .seq (
          .region true r7_7 [6]) (
          .ret)) (
          .skip))))))))) (
  .seq (
  .region false r7_8 [6]) (
  .ret)))) }
theorem c7 : cfunc Try.prog (kof k7) Try.f7 = some f7 := by kernel_rfl

/-- (*exitwave/names.Names).Whereis -/
def r8_0 : List AOper := [
  ⟨some 4, .mv (.c (.int .i64 0)), none, []⟩,
  ⟨some 5, .mv (.c (.bool false)), none, [0]⟩]
def r8_1 : List AOper := [
  ⟨some 9, .mv (.t 0), none, []⟩,
  ⟨some 10, .nilchk (.t 9), none, [0]⟩,
  ⟨some 11, .faddr 0 (.t 10), none, [1]⟩,
  ⟨some 12, .load none (.t 11), none, [2]⟩,
  ⟨some 13, .mv (.t 1), none, []⟩,
  ⟨some 14, .lookup 0 (.int .i64 0) true (.t 12) (.t 13), none, [3, 4]⟩,
  ⟨some 8, .mv (.t 14), none, [5]⟩,
  ⟨some 15, .extract (.t 8) 0, none, [6]⟩,
  ⟨some 16, .extract (.t 8) 1, none, [6]⟩,
  ⟨some 6, .mv (.t 15), none, [7, 0, 1, 2, 3, 4, 5, 6, 7]⟩,
  ⟨some 7, .mv (.t 16), none, [8, 9, 0, 1, 2, 3, 4, 5, 6, 7, 8, 9]⟩]
def r8_2 : List AOper := [
  ⟨some 17, .mv (.t 6), none, []⟩,
  ⟨some 18, .mv (.t 7), none, []⟩,
  ⟨some 4, .mv (.t 17), none, [0, 0]⟩,
  ⟨some 5, .mv (.t 18), none, [1, 2, 0, 1, 2]⟩]
def k8 : List (List Nat) := [[0, 1], [6, 7], [4, 5]]
def f8 : AFunc := { ntmps := 19, results := [.tmp 4, .tmp 5], body := (
  .seq (
  .region false r8_0 [0, 1]) (
  .seq (
  .region false r8_1 [6, 7]) (
  .seq (
  .region false r8_2 [4, 5]) (
  .ret)))) }
theorem c8 : cfunc Try.prog (kof k8) Try.f8 = some f8 := by kernel_rfl

/-- (*exitwave/exitwaveref17.Names).Whereis -/
def r9_0 : List AOper := [
  ⟨some 4, .mv (.c (.int .i64 0)), none, []⟩,
  ⟨some 5, .mv (.c (.bool false)), none, [0]⟩]
def r9_1 : List AOper := [
  ⟨some 6, .mv (.c (.int .i64 0)), none, []⟩]
def r9_2 : List AOper := [
  ⟨some 7, .mv (.t 6), none, []⟩,
  ⟨some 8, .mv (.t 0), none, []⟩,
  ⟨some 9, .nilchk (.t 8), none, [1]⟩,
  ⟨some 10, .faddr 0 (.t 9), none, [2]⟩,
  ⟨some 11, .load none (.t 10), none, [3]⟩,
  ⟨some 12, .len 1 (.t 11), none, [4]⟩,
  ⟨some 13, .bin .lss (.t 7) (.t 12), none, [0, 5]⟩]
def r9_4 : List AOper := [
  ⟨some 16, .mv (.t 0), none, []⟩,
  ⟨some 17, .nilchk (.t 16), none, [0]⟩,
  ⟨some 18, .faddr 0 (.t 17), none, [1]⟩,
  ⟨some 19, .load none (.t 18), none, [2]⟩,
  ⟨some 20, .mv (.t 6), none, []⟩,
  ⟨some 21, .iaddr 1 (.t 19) (.t 20), none, [3, 4]⟩,
  ⟨some 22, .load none (.t 21), none, [5]⟩,
  ⟨some 23, .mv (.t 1), none, []⟩,
  ⟨some 24, .bin .eql (.t 22) (.t 23), none, [6, 7]⟩]
def r9_5 : List AOper := [
  ⟨some 25, .mv (.t 0), none, []⟩,
  ⟨some 26, .nilchk (.t 25), none, [0]⟩,
  ⟨some 27, .faddr 1 (.t 26), none, [1]⟩,
  ⟨some 28, .load none (.t 27), none, [2]⟩,
  ⟨some 29, .mv (.t 6), none, []⟩,
  ⟨some 30, .iaddr 1 (.t 28) (.t 29), none, [3, 4]⟩,
  ⟨some 31, .load none (.t 30), none, [5]⟩,
  ⟨some 4, .mv (.t 31), none, [6, 0, 1, 2, 3, 4, 5, 6]⟩,
  ⟨some 5, .mv (.c (.bool true)), none, [7, 0, 1, 2, 3, 4, 5, 6, 7]⟩]
def r9_3 : List AOper := [
  ⟨some 14, .mv (.t 6), none, []⟩,
  ⟨some 15, .bin .add (.t 14) (.c (.int .i64 1)), none, [0]⟩,
  ⟨some 6, .mv (.t 15), none, [1, 0, 1]⟩]
def l9_0 : ACode :=
  .seq (
  .seq (
  .region false r9_2 [0, 1, 6, 13]) (
  .cond (.t 13) (
    .skip) (
    .exit 0))) (
  .seq (
  .block 1 (
    .seq (
    .region false r9_4 [0, 1, 6, 24]) (
    .cond (.t 24) (
      .seq (
      .region false r9_5 [4, 5]) (
      .ret)) (
      .skip)))) (
  .region false r9_3 [0, 1, 6]))
def r9_6 : List AOper := [
  ⟨some 4, .mv (.c (.int .i64 0)), none, []⟩,
  ⟨some 5, .mv (.c (.bool false)), none, [0, 0]⟩]
def k9 : List (List Nat) := [[0, 1], [0, 1, 6], [0, 1, 6, 13], [0, 1, 6], [0, 1, 6, 24], [4, 5], [4, 5]]
def f9 : AFunc := { ntmps := 32, results := [.tmp 4, .tmp 5], body := (
  .seq (
  .region false r9_0 [0, 1]) (
  .seq (
  .seq (
  .region false r9_1 [0, 1, 6]) (
  .block 0 (
    .loop l9_0))) (
  .seq (
  .region false r9_6 [4, 5]) (
  .ret)))) }
theorem c9 : cfunc Try.prog (kof k9) Try.f9 = some f9 := by kernel_rfl

/-- (*exitwave/names.Names).Of -/
def r10_0 : List AOper := [
  ⟨some 4, .mv (.c (.str ⟨#[]⟩)), none, []⟩,
  ⟨some 5, .mv (.c (.bool false)), none, [0]⟩]
def r10_1 : List AOper := [
  ⟨some 9, .mv (.t 0), none, []⟩,
  ⟨some 10, .nilchk (.t 9), none, [0]⟩,
  ⟨some 11, .faddr 1 (.t 10), none, [1]⟩,
  ⟨some 12, .load none (.t 11), none, [2]⟩,
  ⟨some 13, .mv (.t 1), none, []⟩,
  ⟨some 14, .lookup 1 (.str ⟨#[]⟩) true (.t 12) (.t 13), none, [3, 4]⟩,
  ⟨some 8, .mv (.t 14), none, [5]⟩,
  ⟨some 15, .extract (.t 8) 0, none, [6]⟩,
  ⟨some 16, .extract (.t 8) 1, none, [6]⟩,
  ⟨some 6, .mv (.t 15), none, [7, 0, 1, 2, 3, 4, 5, 6, 7]⟩,
  ⟨some 7, .mv (.t 16), none, [8, 9, 0, 1, 2, 3, 4, 5, 6, 7, 8, 9]⟩]
def r10_2 : List AOper := [
  ⟨some 17, .mv (.t 6), none, []⟩,
  ⟨some 18, .mv (.t 7), none, []⟩,
  ⟨some 4, .mv (.t 17), none, [0, 0]⟩,
  ⟨some 5, .mv (.t 18), none, [1, 2, 0, 1, 2]⟩]
def k10 : List (List Nat) := [[0, 1], [6, 7], [4, 5]]
def f10 : AFunc := { ntmps := 19, results := [.tmp 4, .tmp 5], body := (
  .seq (
  .region false r10_0 [0, 1]) (
  .seq (
  .region false r10_1 [6, 7]) (
  .seq (
  .region false r10_2 [4, 5]) (
  .ret)))) }
theorem c10 : cfunc Try.prog (kof k10) Try.f10 = some f10 := by kernel_rfl

/-- (*exitwave/exitwaveref17.Names).Of -/
def r11_0 : List AOper := [
  ⟨some 4, .mv (.c (.str ⟨#[]⟩)), none, []⟩,
  ⟨some 5, .mv (.c (.bool false)), none, [0]⟩]
def r11_1 : List AOper := [
  ⟨some 6, .mv (.c (.int .i64 0)), none, []⟩]
def r11_2 : List AOper := [
  ⟨some 7, .mv (.t 6), none, []⟩,
  ⟨some 8, .mv (.t 0), none, []⟩,
  ⟨some 9, .nilchk (.t 8), none, [1]⟩,
  ⟨some 10, .faddr 0 (.t 9), none, [2]⟩,
  ⟨some 11, .load none (.t 10), none, [3]⟩,
  ⟨some 12, .len 1 (.t 11), none, [4]⟩,
  ⟨some 13, .bin .lss (.t 7) (.t 12), none, [0, 5]⟩]
def r11_4 : List AOper := [
  ⟨some 16, .mv (.t 0), none, []⟩,
  ⟨some 17, .nilchk (.t 16), none, [0]⟩,
  ⟨some 18, .faddr 1 (.t 17), none, [1]⟩,
  ⟨some 19, .load none (.t 18), none, [2]⟩,
  ⟨some 20, .mv (.t 6), none, []⟩,
  ⟨some 21, .iaddr 1 (.t 19) (.t 20), none, [3, 4]⟩,
  ⟨some 22, .load none (.t 21), none, [5]⟩,
  ⟨some 23, .mv (.t 1), none, []⟩,
  ⟨some 24, .bin .eql (.t 22) (.t 23), none, [6, 7]⟩]
def r11_5 : List AOper := [
  ⟨some 25, .mv (.t 0), none, []⟩,
  ⟨some 26, .nilchk (.t 25), none, [0]⟩,
  ⟨some 27, .faddr 0 (.t 26), none, [1]⟩,
  ⟨some 28, .load none (.t 27), none, [2]⟩,
  ⟨some 29, .mv (.t 6), none, []⟩,
  ⟨some 30, .iaddr 1 (.t 28) (.t 29), none, [3, 4]⟩,
  ⟨some 31, .load none (.t 30), none, [5]⟩,
  ⟨some 4, .mv (.t 31), none, [6, 0, 1, 2, 3, 4, 5, 6]⟩,
  ⟨some 5, .mv (.c (.bool true)), none, [7, 0, 1, 2, 3, 4, 5, 6, 7]⟩]
def r11_3 : List AOper := [
  ⟨some 14, .mv (.t 6), none, []⟩,
  ⟨some 15, .bin .add (.t 14) (.c (.int .i64 1)), none, [0]⟩,
  ⟨some 6, .mv (.t 15), none, [1, 0, 1]⟩]
def l11_0 : ACode :=
  .seq (
  .seq (
  .region false r11_2 [0, 1, 6, 13]) (
  .cond (.t 13) (
    .skip) (
    .exit 0))) (
  .seq (
  .block 1 (
    .seq (
    .region false r11_4 [0, 1, 6, 24]) (
    .cond (.t 24) (
      .seq (
      .region false r11_5 [4, 5]) (
      .ret)) (
      .skip)))) (
  .region false r11_3 [0, 1, 6]))
def r11_6 : List AOper := [
  ⟨some 4, .mv (.c (.str ⟨#[]⟩)), none, []⟩,
  ⟨some 5, .mv (.c (.bool false)), none, [0, 0]⟩]
def k11 : List (List Nat) := [[0, 1], [0, 1, 6], [0, 1, 6, 13], [0, 1, 6], [0, 1, 6, 24], [4, 5], [4, 5]]
def f11 : AFunc := { ntmps := 32, results := [.tmp 4, .tmp 5], body := (
  .seq (
  .region false r11_0 [0, 1]) (
  .seq (
  .seq (
  .region false r11_1 [0, 1, 6]) (
  .block 0 (
    .loop l11_0))) (
  .seq (
  .region false r11_6 [4, 5]) (
  .ret)))) }
theorem c11 : cfunc Try.prog (kof k11) Try.f11 = some f11 := by kernel_rfl

/-- (*exitwave/names.Names).All -/
def r12_0 : List AOper := [
  ⟨some 2, .mv (.c (.nils)), none, []⟩]
def r12_1 : List AOper := [
  ⟨some 3, .mv (.c (.nils)), none, []⟩]
def r12_2 : List AOper := [
  ⟨some 5, .mv (.t 0), none, []⟩,
  ⟨some 6, .nilchk (.t 5), none, [0]⟩,
  ⟨some 7, .faddr 0 (.t 6), none, [1]⟩,
  ⟨some 8, .load none (.t 7), none, [2]⟩,
  ⟨some 9, .rngM (.t 8), none, [3]⟩]
def r12_3 : List AOper := [
  ⟨some 10, .nxtM (.t 9), none, []⟩,
  ⟨some 11, .extract (.t 10) 0, none, [0]⟩]
def r12_4 : List AOper := [
  ⟨some 12, .entM (.t 9), none, []⟩,
  ⟨some 13, .extract (.t 12) 0, none, [0]⟩,
  ⟨some 4, .mv (.t 13), none, [1, 0, 1]⟩]
def r12_5 : List AOper := [
  ⟨some 14, .mv (.t 3), none, []⟩,
  ⟨some 15, .mv (.t 4), none, []⟩,
  ⟨some 16, .bslice 9 1 [.str ⟨#[]⟩] [(0, 1, (.t 15))], none, [1]⟩,
  ⟨some 17, .app 9 1 16 (.t 14) (.t 16), none, [0, 2]⟩,
  ⟨some 3, .mv (.t 17), none, [3, 3, 0, 1, 2, 3]⟩]
def l12_0 : ACode :=
  .seq (
  .region false r12_3 [3, 9, 11]) (
  .seq (
  .cond (.t 11) (
    .skip) (
    .exit 0)) (
  .block 1 (
    .seq (
    .region false r12_4 [3, 4, 9]) (
    .region false r12_5 [3, 9]))))
def r12_6 : List AOper := [
  ⟨some 18, .mv (.t 3), none, []⟩,
  ⟨some 19, .callF 19 [(.t 18)], none, [0]⟩]
def r12_7 : List AOper := [
  ⟨some 20, .mv (.t 3), none, []⟩,
  ⟨some 2, .mv (.t 20), none, [0, 0]⟩]
def k12 : List (List Nat) := [[0], [0, 3], [3, 9], [3, 9, 11], [3, 4, 9], [3, 9], [3], [2]]
def f12 : AFunc := { ntmps := 21, results := [.tmp 2], body := (
  .seq (
  .region false r12_0 [0]) (
  .seq (
  .region false r12_1 [0, 3]) (
  .seq (
  .seq (
  .region false r12_2 [3, 9]) (
  .block 0 (
    .loop l12_0))) (
  .seq (
  .region false r12_6 [3]) (
  .seq (
  .region false r12_7 [2]) (
  .ret)))))) }
theorem c12 : cfunc Try.prog (kof k12) Try.f12 = some f12 := by kernel_rfl

/-- (*exitwave/names.Names).Register -/
def r13_0 : List AOper := [
  ⟨some 6, .mv (.c (.int .i64 0)), none, []⟩]
def r13_1 : List AOper := [
  ⟨some 12, .mv (.t 0), none, []⟩,
  ⟨some 13, .nilchk (.t 12), none, [0]⟩,
  ⟨some 14, .faddr 0 (.t 13), none, [1]⟩,
  ⟨some 15, .load none (.t 14), none, [2]⟩,
  ⟨some 16, .mv (.t 1), none, []⟩,
  ⟨some 17, .lookup 0 (.int .i64 0) true (.t 15) (.t 16), none, [3, 4]⟩,
  ⟨some 11, .mv (.t 17), none, [5]⟩,
  ⟨some 18, .extract (.t 11) 0, none, [6]⟩,
  ⟨some 19, .extract (.t 11) 1, none, [6]⟩,
  ⟨some 7, .mv (.t 18), none, [7, 0, 1, 2, 3, 4, 5, 6, 7]⟩,
  ⟨some 8, .mv (.t 19), none, [8, 9, 0, 1, 2, 3, 4, 5, 6, 7, 8, 9]⟩]
def r13_2 : List AOper := [
  ⟨some 21, .mv (.t 0), none, []⟩,
  ⟨some 22, .nilchk (.t 21), none, [0]⟩,
  ⟨some 23, .faddr 1 (.t 22), none, [1]⟩,
  ⟨some 24, .load none (.t 23), none, [2]⟩,
  ⟨some 25, .mv (.t 2), none, []⟩,
  ⟨some 26, .lookup 1 (.str ⟨#[]⟩) true (.t 24) (.t 25), none, [3, 4]⟩,
  ⟨some 20, .mv (.t 26), none, [5]⟩,
  ⟨some 27, .extract (.t 20) 0, none, [6]⟩,
  ⟨some 28, .extract (.t 20) 1, none, [6]⟩,
  ⟨some 9, .mv (.t 27), none, [7, 0, 1, 2, 3, 4, 5, 6, 7]⟩,
  ⟨some 10, .mv (.t 28), none, [8, 9, 0, 1, 2, 3, 4, 5, 6, 7, 8, 9]⟩]
def r13_3 : List AOper := [
  ⟨some 29, .mv (.t 1), none, []⟩,
  ⟨some 30, .bin .eql (.t 29) (.c (.str ⟨#[]⟩)), none, [0]⟩,
  ⟨some 31, .mv (.t 30), none, [1]⟩,
  ⟨some 32, .mv (.t 1), some (31, false), [2]⟩,
  ⟨some 33, .len 0 (.t 32), some (31, false), [3, 2]⟩,
  ⟨some 34, .bin .gtr (.t 33) (.c (.int .i64 64)), some (31, false), [4, 2]⟩,
  ⟨some 35, .pick (.t 31) (.c (.bool true)) (.t 34), none, [2, 5]⟩,
  ⟨some 36, .mv (.t 35), none, [6, 2]⟩,
  ⟨some 37, .mv (.t 1), some (36, false), [7]⟩,
  ⟨some 38, .bin .eql (.t 37) (.c (.str ⟨#[117, 110, 100, 101, 102, 105, 110, 101, 100]⟩)), some (36, false), [8, 7]⟩,
  ⟨some 39, .pick (.t 36) (.c (.bool true)) (.t 38), none, [7, 9]⟩,
  ⟨some 40, .mv (.t 39), none, [10, 7]⟩,
  ⟨some 41, .mv (.t 8), some (40, false), [11]⟩,
  ⟨some 42, .pick (.t 40) (.c (.bool true)) (.t 41), none, [11, 12]⟩,
  ⟨some 43, .mv (.t 42), none, [13, 11]⟩,
  ⟨some 44, .mv (.t 10), some (43, false), [14]⟩,
  ⟨some 45, .pick (.t 43) (.c (.bool true)) (.t 44), none, [14, 15]⟩,
  ⟨some 46, .mv (.t 45), none, [16, 14]⟩,
  ⟨some 47, .mv (.t 2), some (46, false), [17]⟩,
  ⟨some 48, .bin .lss (.t 47) (.c (.int .i64 1)), some (46, false), [18, 17]⟩,
  ⟨some 49, .pick (.t 46) (.c (.bool true)) (.t 48), none, [17, 19]⟩]
def r13_4 : List AOper := [
  ⟨some 6, .mv (.c (.int .i64 13)), none, []⟩]
def r13_5 : List AOper := [
  ⟨some 50, .mv (.t 0), none, []⟩,
  ⟨some 51, .nilchk (.t 50), none, [0]⟩,
  ⟨some 52, .faddr 0 (.t 51), none, [1]⟩,
  ⟨some 53, .load none (.t 52), none, [2]⟩,
  ⟨some 54, .mv (.t 1), none, []⟩,
  ⟨some 55, .mv (.t 0), none, []⟩,
  ⟨some 56, .nilchk (.t 55), none, [5]⟩,
  ⟨some 57, .faddr 1 (.t 56), none, [6]⟩,
  ⟨some 58, .load none (.t 57), none, [7]⟩,
  ⟨some 59, .mv (.t 2), none, []⟩,
  ⟨some 60, .mv (.t 2), none, []⟩,
  ⟨some 61, .mv (.t 1), none, []⟩,
  ⟨some 62, .mapent 0 (.int .i64 0) (.t 53) (.t 54), none, [3, 4, 8]⟩,
  ⟨some 63, .extract (.t 62) 1, none, [12]⟩,
  ⟨none, .entst (.t 53) (.t 63) (.t 60), none, [3, 13, 10, 12, 0, 1, 2, 3, 4, 8, 10, 12]⟩,
  ⟨some 64, .mapent 1 (.str ⟨#[]⟩) (.t 58) (.t 59), none, [8, 9, 14, 0, 1, 2, 3, 4, 8, 10, 12, 13, 14]⟩,
  ⟨some 65, .extract (.t 64) 1, none, [15]⟩,
  ⟨none, .entst (.t 58) (.t 65) (.t 61), none, [8, 16, 11, 15, 0, 1, 2, 3, 4, 5, 6, 7, 8, 9, 10, 11, 12, 13, 14, 15]⟩]
def r13_6 : List AOper := [
  ⟨some 6, .mv (.c (.int .i64 0)), none, []⟩]
def m13_5 : List Nat := [0, 1, 3, 7, 0, 0, 32, 96, 224, 0, 0, 0, 511, 4607, 13823, 30719, 63487, 131071]
theorem d13_5 : okDraw r13_5 m13_5 = true := by kernel_rfl
def k13 : List (List Nat) := [[0, 1, 2], [0, 1, 2, 8], [0, 1, 2, 8, 10], [0, 1, 2, 49], [6], [], [6]]
def f13 : AFunc := { ntmps := 66, results := [.tmp 6], body := (
  .seq (
  .region false r13_0 [0, 1, 2]) (
  .seq (
  .region false r13_1 [0, 1, 2, 8]) (
  .seq (
  .region false r13_2 [0, 1, 2, 8, 10]) (
  .seq (
  .seq (
  .region false r13_3 [0, 1, 2, 49]) (
  .cond (.t 49) (
    .seq (
    .region false r13_4 [6]) (
    .ret)) (
    .skip))) (
  .seq (
  .region true r13_5 []) (
  .seq (
  .region false r13_6 [6]) (
  .ret))))))) }
theorem c13 : cfunc Try.prog (kof k13) Try.f13 = some f13 := by kernel_rfl

/-- (*exitwave/names.Names).Release -/
def r14_0 : List AOper := [
  ⟨some 4, .mv (.c (.bool false)), none, []⟩]
def r14_1 : List AOper := [
  ⟨some 8, .mv (.t 0), none, []⟩,
  ⟨some 9, .nilchk (.t 8), none, [0]⟩,
  ⟨some 10, .faddr 1 (.t 9), none, [1]⟩,
  ⟨some 11, .load none (.t 10), none, [2]⟩,
  ⟨some 12, .mv (.t 1), none, []⟩,
  ⟨some 13, .lookup 1 (.str ⟨#[]⟩) true (.t 11) (.t 12), none, [3, 4]⟩,
  ⟨some 7, .mv (.t 13), none, [5]⟩,
  ⟨some 14, .extract (.t 7) 0, none, [6]⟩,
  ⟨some 15, .extract (.t 7) 1, none, [6]⟩,
  ⟨some 5, .mv (.t 14), none, [7, 0, 1, 2, 3, 4, 5, 6, 7]⟩,
  ⟨some 6, .mv (.t 15), none, [8, 9, 0, 1, 2, 3, 4, 5, 6, 7, 8, 9]⟩]
def r14_2 : List AOper := [
  ⟨some 16, .mv (.t 6), none, []⟩,
  ⟨some 17, .mv (.t 16), none, [0]⟩,
  ⟨some 18, .mv (.t 0), some (17, true), [1]⟩,
  ⟨some 19, .mv (.t 5), some (17, true), [1]⟩,
  ⟨some 20, .callF 16 [(.t 18), (.t 19)], some (17, true), [2, 3, 1, 1]⟩,
  ⟨some 21, .bin .eql (.t 20) (.c (.int .i64 0)), some (17, true), [4, 1]⟩,
  ⟨some 22, .pick (.t 17) (.t 21) (.c (.bool false)), none, [1, 5]⟩,
  ⟨some 4, .mv (.t 22), none, [6, 4, 0, 1, 2, 3, 4, 5, 6]⟩]
def k14 : List (List Nat) := [[0, 1], [0, 5, 6], [4]]
def f14 : AFunc := { ntmps := 23, results := [.tmp 4], body := (
  .seq (
  .region false r14_0 [0, 1]) (
  .seq (
  .region false r14_1 [0, 5, 6]) (
  .seq (
  .region false r14_2 [4]) (
  .ret)))) }
theorem c14 : cfunc Try.prog (kof k14) Try.f14 = some f14 := by kernel_rfl

/-- (*exitwave/exitwaveref17.Names).Register -/
def r15_0 : List AOper := [
  ⟨some 6, .mv (.c (.int .i64 0)), none, []⟩]
def r15_1 : List AOper := [
  ⟨some 15, .mv (.t 0), none, []⟩,
  ⟨some 16, .mv (.t 1), none, []⟩,
  ⟨some 17, .callF 9 [(.t 15), (.t 16)], none, [0, 1]⟩,
  ⟨some 14, .mv (.t 17), none, [2]⟩,
  ⟨some 18, .extract (.t 14) 0, none, [3]⟩,
  ⟨some 19, .extract (.t 14) 1, none, [3]⟩,
  ⟨some 7, .mv (.t 18), none, [4, 2, 0, 1, 2, 3, 4]⟩,
  ⟨some 8, .mv (.t 19), none, [5, 6, 0, 1, 2, 3, 4, 5, 6]⟩]
def r15_2 : List AOper := [
  ⟨some 21, .mv (.t 0), none, []⟩,
  ⟨some 22, .mv (.t 2), none, []⟩,
  ⟨some 23, .callF 11 [(.t 21), (.t 22)], none, [0, 1]⟩,
  ⟨some 20, .mv (.t 23), none, [2]⟩,
  ⟨some 24, .extract (.t 20) 0, none, [3]⟩,
  ⟨some 25, .extract (.t 20) 1, none, [3]⟩,
  ⟨some 9, .mv (.t 24), none, [4, 2, 0, 1, 2, 3, 4]⟩,
  ⟨some 10, .mv (.t 25), none, [5, 6, 0, 1, 2, 3, 4, 5, 6]⟩]
def r15_3 : List AOper := [
  ⟨some 26, .mv (.t 1), none, []⟩,
  ⟨some 27, .bin .eql (.t 26) (.c (.str ⟨#[]⟩)), none, [0]⟩,
  ⟨some 28, .mv (.t 27), none, [1]⟩,
  ⟨some 29, .mv (.t 1), some (28, false), [2]⟩,
  ⟨some 30, .len 0 (.t 29), some (28, false), [3, 2]⟩,
  ⟨some 31, .bin .gtr (.t 30) (.c (.int .i64 64)), some (28, false), [4, 2]⟩,
  ⟨some 32, .pick (.t 28) (.c (.bool true)) (.t 31), none, [2, 5]⟩,
  ⟨some 33, .mv (.t 32), none, [6, 2]⟩,
  ⟨some 34, .mv (.t 1), some (33, false), [7]⟩,
  ⟨some 35, .bin .eql (.t 34) (.c (.str ⟨#[117, 110, 100, 101, 102, 105, 110, 101, 100]⟩)), some (33, false), [8, 7]⟩,
  ⟨some 36, .pick (.t 33) (.c (.bool true)) (.t 35), none, [7, 9]⟩,
  ⟨some 37, .mv (.t 36), none, [10, 7]⟩,
  ⟨some 38, .mv (.t 8), some (37, false), [11]⟩,
  ⟨some 39, .pick (.t 37) (.c (.bool true)) (.t 38), none, [11, 12]⟩,
  ⟨some 40, .mv (.t 39), none, [13, 11]⟩,
  ⟨some 41, .mv (.t 2), some (40, false), [14]⟩,
  ⟨some 42, .bin .lss (.t 41) (.c (.int .i64 1)), some (40, false), [15, 14]⟩,
  ⟨some 43, .pick (.t 40) (.c (.bool true)) (.t 42), none, [14, 16]⟩,
  ⟨some 44, .mv (.t 43), none, [17, 14]⟩,
  ⟨some 45, .mv (.t 10), some (44, false), [18]⟩,
  ⟨some 46, .pick (.t 44) (.c (.bool true)) (.t 45), none, [18, 19]⟩]
def r15_4 : List AOper := [
  ⟨some 6, .mv (.c (.int .i64 13)), none, []⟩]
def r15_5 : List AOper := [
  ⟨some 11, .mv (.c (.int .i64 0)), none, []⟩]
def r15_6 : List AOper := [
  ⟨some 47, .mv (.t 11), none, []⟩,
  ⟨some 48, .mv (.t 0), none, []⟩,
  ⟨some 49, .nilchk (.t 48), none, [1]⟩,
  ⟨some 50, .faddr 0 (.t 49), none, [2]⟩,
  ⟨some 51, .load none (.t 50), none, [3]⟩,
  ⟨some 52, .len 1 (.t 51), none, [4]⟩,
  ⟨some 53, .bin .lss (.t 47) (.t 52), none, [0, 5]⟩,
  ⟨some 54, .mv (.t 53), none, [6]⟩,
  ⟨some 55, .mv (.t 0), some (54, true), [7]⟩,
  ⟨some 56, .nilchk (.t 55), some (54, true), [8, 7]⟩,
  ⟨some 57, .faddr 0 (.t 56), some (54, true), [9, 7]⟩,
  ⟨some 58, .load none (.t 57), some (54, true), [10, 7]⟩,
  ⟨some 59, .mv (.t 11), some (54, true), [7]⟩,
  ⟨some 60, .iaddr 1 (.t 58) (.t 59), some (54, true), [11, 12, 7]⟩,
  ⟨some 61, .load none (.t 60), some (54, true), [13, 7]⟩,
  ⟨some 62, .mv (.t 1), some (54, true), [7]⟩,
  ⟨some 63, .bin .lss (.t 61) (.t 62), some (54, true), [14, 15, 7]⟩,
  ⟨some 64, .pick (.t 54) (.t 63) (.c (.bool false)), none, [7, 16]⟩]
def r15_7 : List AOper := [
  ⟨some 65, .mv (.t 11), none, []⟩,
  ⟨some 66, .bin .add (.t 65) (.c (.int .i64 1)), none, [0]⟩,
  ⟨some 11, .mv (.t 66), none, [1, 0, 1]⟩]
def l15_0 : ACode :=
  .seq (
  .seq (
  .region false r15_6 [0, 1, 2, 11, 64]) (
  .cond (.t 64) (
    .skip) (
    .exit 0))) (
  .block 1 (
    .region false r15_7 [0, 1, 2, 11]))
def r15_8 : List AOper := [
  ⟨some 67, .bslice 9 0 [] [], none, []⟩,
  ⟨some 68, .mv (.t 0), none, []⟩,
  ⟨some 69, .nilchk (.t 68), none, [1]⟩,
  ⟨some 70, .faddr 0 (.t 69), none, [2]⟩,
  ⟨some 71, .load none (.t 70), none, [3]⟩,
  ⟨some 72, .mv (.t 11), none, []⟩,
  ⟨some 73, .slc 9 1 (.t 71) none (some (.t 72)) none, none, [4, 5]⟩,
  ⟨some 74, .app 9 1 16 (.t 67) (.t 73), none, [0, 6]⟩,
  ⟨some 75, .mv (.t 1), none, []⟩,
  ⟨some 76, .bslice 9 1 [.str ⟨#[]⟩] [(0, 1, (.t 75))], none, [8]⟩,
  ⟨some 77, .app 9 1 16 (.t 74) (.t 76), none, [7, 9, 7]⟩,
  ⟨some 12, .mv (.t 77), none, [10, 10, 0, 1, 2, 3, 4, 5, 6, 7, 8, 9, 10]⟩]
def r15_9 : List AOper := [
  ⟨some 78, .bslice 3 0 [] [], none, []⟩,
  ⟨some 79, .mv (.t 0), none, []⟩,
  ⟨some 80, .nilchk (.t 79), none, [1]⟩,
  ⟨some 81, .faddr 1 (.t 80), none, [2]⟩,
  ⟨some 82, .load none (.t 81), none, [3]⟩,
  ⟨some 83, .mv (.t 11), none, []⟩,
  ⟨some 84, .slc 3 1 (.t 82) none (some (.t 83)) none, none, [4, 5]⟩,
  ⟨some 85, .app 3 1 8 (.t 78) (.t 84), none, [0, 6]⟩,
  ⟨some 86, .mv (.t 2), none, []⟩,
  ⟨some 87, .bslice 3 1 [.int .i64 0] [(0, 1, (.t 86))], none, [8]⟩,
  ⟨some 88, .app 3 1 8 (.t 85) (.t 87), none, [7, 9, 7]⟩,
  ⟨some 13, .mv (.t 88), none, [10, 10, 0, 1, 2, 3, 4, 5, 6, 7, 8, 9, 10]⟩]
def r15_10 : List AOper := [
  ⟨some 89, .mv (.t 0), none, []⟩,
  ⟨some 90, .mv (.t 12), none, []⟩,
  ⟨some 91, .mv (.t 0), none, []⟩,
  ⟨some 92, .nilchk (.t 91), none, [2]⟩,
  ⟨some 93, .faddr 0 (.t 92), none, [3]⟩,
  ⟨some 94, .load none (.t 93), none, [4]⟩,
  ⟨some 95, .mv (.t 11), none, []⟩,
  ⟨some 96, .slc 9 1 (.t 94) (some (.t 95)) none none, none, [5, 6]⟩,
  ⟨some 97, .app 9 1 16 (.t 90) (.t 96), none, [1, 7]⟩,
  ⟨some 98, .nilchk (.t 89), none, [0, 0, 1, 2, 3, 4, 5, 6, 7, 8]⟩,
  ⟨some 99, .faddr 0 (.t 98), none, [9, 0, 1, 2, 3, 4, 5, 6, 7, 8]⟩,
  ⟨none, .store 1 (.t 99) (.t 97), none, [10, 8, 8, 0, 1, 2, 3, 4, 5, 6, 7, 8]⟩]
def r15_11 : List AOper := [
  ⟨some 100, .mv (.t 0), none, []⟩,
  ⟨some 101, .mv (.t 13), none, []⟩,
  ⟨some 102, .mv (.t 0), none, []⟩,
  ⟨some 103, .nilchk (.t 102), none, [2]⟩,
  ⟨some 104, .faddr 1 (.t 103), none, [3]⟩,
  ⟨some 105, .load none (.t 104), none, [4]⟩,
  ⟨some 106, .mv (.t 11), none, []⟩,
  ⟨some 107, .slc 3 1 (.t 105) (some (.t 106)) none none, none, [5, 6]⟩,
  ⟨some 108, .app 3 1 8 (.t 101) (.t 107), none, [1, 7]⟩,
  ⟨some 109, .nilchk (.t 100), none, [0, 0, 1, 2, 3, 4, 5, 6, 7, 8]⟩,
  ⟨some 110, .faddr 1 (.t 109), none, [9, 0, 1, 2, 3, 4, 5, 6, 7, 8]⟩,
  ⟨none, .store 1 (.t 110) (.t 108), none, [10, 8, 8, 0, 1, 2, 3, 4, 5, 6, 7, 8]⟩]
def r15_12 : List AOper := [
  ⟨some 6, .mv (.c (.int .i64 0)), none, []⟩]
def k15 : List (List Nat) := [[0, 1, 2], [0, 1, 2, 8], [0, 1, 2, 8, 10], [0, 1, 2, 46], [6], [0, 1, 2, 11], [0, 1, 2, 11, 64], [0, 1, 2, 11], [0, 2, 11, 12], [0, 11, 12, 13], [0, 11, 13], [], [6]]
def f15 : AFunc := { ntmps := 111, results := [.tmp 6], body := (
  .seq (
  .region false r15_0 [0, 1, 2]) (
  .seq (
  .region false r15_1 [0, 1, 2, 8]) (
  .seq (
  .region false r15_2 [0, 1, 2, 8, 10]) (
  .seq (
  .seq (
  .region false r15_3 [0, 1, 2, 46]) (
  .cond (.t 46) (
    .seq (
    .region false r15_4 [6]) (
    .ret)) (
    .skip))) (
  .seq (
  .region false r15_5 [0, 1, 2, 11]) (
  .seq (
  .block 0 (
    .loop l15_0)) (
  .seq (
  .region false r15_8 [0, 2, 11, 12]) (
  .seq (
  .region false r15_9 [0, 11, 12, 13]) (
  .seq (
  .region false r15_10 [0, 11, 13]) (
  .seq (
  .region false r15_11 []) (
  .seq (
  .region false r15_12 [6]) (
  .ret)))))))))))) }
theorem c15 : cfunc Try.prog (kof k15) Try.f15 = some f15 := by kernel_rfl

/-- (*exitwave/names.Names).Unregister -/
def r16_0 : List AOper := [
  ⟨some 4, .mv (.c (.int .i64 0)), none, []⟩]
def r16_1 : List AOper := [
  ⟨some 8, .mv (.t 0), none, []⟩,
  ⟨some 9, .nilchk (.t 8), none, [0]⟩,
  ⟨some 10, .faddr 0 (.t 9), none, [1]⟩,
  ⟨some 11, .load none (.t 10), none, [2]⟩,
  ⟨some 12, .mv (.t 1), none, []⟩,
  ⟨some 13, .lookup 0 (.int .i64 0) true (.t 11) (.t 12), none, [3, 4]⟩,
  ⟨some 7, .mv (.t 13), none, [5]⟩,
  ⟨some 14, .extract (.t 7) 0, none, [6]⟩,
  ⟨some 15, .extract (.t 7) 1, none, [6]⟩,
  ⟨some 5, .mv (.t 14), none, [7, 0, 1, 2, 3, 4, 5, 6, 7]⟩,
  ⟨some 6, .mv (.t 15), none, [8, 9, 0, 1, 2, 3, 4, 5, 6, 7, 8, 9]⟩]
def r16_2 : List AOper := [
  ⟨some 16, .mv (.t 6), none, []⟩,
  ⟨some 17, .un .not (.t 16), none, [0]⟩]
def r16_3 : List AOper := [
  ⟨some 4, .mv (.c (.int .i64 13)), none, []⟩]
def r16_4 : List AOper := [
  ⟨some 18, .mv (.t 0), none, []⟩,
  ⟨some 19, .nilchk (.t 18), none, [0]⟩,
  ⟨some 20, .faddr 0 (.t 19), none, [1]⟩,
  ⟨some 21, .load none (.t 20), none, [2]⟩,
  ⟨some 22, .mv (.t 1), none, []⟩,
  ⟨none, .del 0 (.t 21) (.t 22), none, [3, 4]⟩]
def r16_5 : List AOper := [
  ⟨some 23, .mv (.t 0), none, []⟩,
  ⟨some 24, .nilchk (.t 23), none, [0]⟩,
  ⟨some 25, .faddr 1 (.t 24), none, [1]⟩,
  ⟨some 26, .load none (.t 25), none, [2]⟩,
  ⟨some 27, .mv (.t 5), none, []⟩,
  ⟨none, .del 1 (.t 26) (.t 27), none, [3, 4]⟩]
def r16_6 : List AOper := [
  ⟨some 4, .mv (.c (.int .i64 0)), none, []⟩]
def k16 : List (List Nat) := [[0, 1], [0, 1, 5, 6], [0, 1, 5, 17], [4], [0, 5], [], [4]]
def f16 : AFunc := { ntmps := 28, results := [.tmp 4], body := (
  .seq (
  .region false r16_0 [0, 1]) (
  .seq (
  .region false r16_1 [0, 1, 5, 6]) (
  .seq (
  .seq (
  .region false r16_2 [0, 1, 5, 17]) (
  .cond (.t 17) (
    .seq (
    .region false r16_3 [4]) (
    .ret)) (
    .skip))) (
  .seq (
  .region false r16_4 [0, 5]) (
  .seq (
  .region false r16_5 []) (
  .seq (
  .region false r16_6 [4]) (
  .ret))))))) }
theorem c16 : cfunc Try.prog (kof k16) Try.f16 = some f16 := by kernel_rfl

/-- (*exitwave/exitwaveref17.Names).Unregister -/
def r17_0 : List AOper := [
  ⟨some 4, .mv (.c (.int .i64 0)), none, []⟩]
def r17_1 : List AOper := [
  ⟨some 5, .mv (.c (.int .i64 0)), none, []⟩]
def r17_2 : List AOper := [
  ⟨some 6, .mv (.t 5), none, []⟩,
  ⟨some 7, .mv (.t 0), none, []⟩,
  ⟨some 8, .nilchk (.t 7), none, [1]⟩,
  ⟨some 9, .faddr 0 (.t 8), none, [2]⟩,
  ⟨some 10, .load none (.t 9), none, [3]⟩,
  ⟨some 11, .len 1 (.t 10), none, [4]⟩,
  ⟨some 12, .bin .lss (.t 6) (.t 11), none, [0, 5]⟩]
def r17_4 : List AOper := [
  ⟨some 15, .mv (.t 0), none, []⟩,
  ⟨some 16, .nilchk (.t 15), none, [0]⟩,
  ⟨some 17, .faddr 0 (.t 16), none, [1]⟩,
  ⟨some 18, .load none (.t 17), none, [2]⟩,
  ⟨some 19, .mv (.t 5), none, []⟩,
  ⟨some 20, .iaddr 1 (.t 18) (.t 19), none, [3, 4]⟩,
  ⟨some 21, .load none (.t 20), none, [5]⟩,
  ⟨some 22, .mv (.t 1), none, []⟩,
  ⟨some 23, .bin .eql (.t 21) (.t 22), none, [6, 7]⟩]
def r17_5 : List AOper := [
  ⟨some 24, .mv (.t 0), none, []⟩,
  ⟨some 25, .mv (.t 5), none, []⟩,
  ⟨some 26, .callF 20 [(.t 24), (.t 25)], none, [0, 1]⟩]
def r17_6 : List AOper := [
  ⟨some 4, .mv (.c (.int .i64 0)), none, []⟩]
def r17_3 : List AOper := [
  ⟨some 13, .mv (.t 5), none, []⟩,
  ⟨some 14, .bin .add (.t 13) (.c (.int .i64 1)), none, [0]⟩,
  ⟨some 5, .mv (.t 14), none, [1, 0, 1]⟩]
def l17_0 : ACode :=
  .seq (
  .seq (
  .region false r17_2 [0, 1, 5, 12]) (
  .cond (.t 12) (
    .skip) (
    .exit 0))) (
  .seq (
  .block 1 (
    .seq (
    .region false r17_4 [0, 1, 5, 23]) (
    .cond (.t 23) (
      .seq (
      .region false r17_5 []) (
      .seq (
      .region false r17_6 [4]) (
      .ret))) (
      .skip)))) (
  .region false r17_3 [0, 1, 5]))
def r17_7 : List AOper := [
  ⟨some 4, .mv (.c (.int .i64 13)), none, []⟩]
def k17 : List (List Nat) := [[0, 1], [0, 1, 5], [0, 1, 5, 12], [0, 1, 5], [0, 1, 5, 23], [], [4], [4]]
def f17 : AFunc := { ntmps := 27, results := [.tmp 4], body := (
  .seq (
  .region false r17_0 [0, 1]) (
  .seq (
  .seq (
  .region false r17_1 [0, 1, 5]) (
  .block 0 (
    .loop l17_0))) (
  .seq (
  .region false r17_7 [4]) (
  .ret)))) }
theorem c17 : cfunc Try.prog (kof k17) Try.f17 = some f17 := by kernel_rfl

/-- (*exitwave/exitwaveref17.Names).Release -/
def r18_0 : List AOper := [
  ⟨some 4, .mv (.c (.bool false)), none, []⟩]
def r18_1 : List AOper := [
  ⟨some 5, .mv (.c (.int .i64 0)), none, []⟩]
def r18_2 : List AOper := [
  ⟨some 6, .mv (.t 5), none, []⟩,
  ⟨some 7, .mv (.t 0), none, []⟩,
  ⟨some 8, .nilchk (.t 7), none, [1]⟩,
  ⟨some 9, .faddr 0 (.t 8), none, [2]⟩,
  ⟨some 10, .load none (.t 9), none, [3]⟩,
  ⟨some 11, .len 1 (.t 10), none, [4]⟩,
  ⟨some 12, .bin .lss (.t 6) (.t 11), none, [0, 5]⟩]
def r18_4 : List AOper := [
  ⟨some 15, .mv (.t 0), none, []⟩,
  ⟨some 16, .nilchk (.t 15), none, [0]⟩,
  ⟨some 17, .faddr 1 (.t 16), none, [1]⟩,
  ⟨some 18, .load none (.t 17), none, [2]⟩,
  ⟨some 19, .mv (.t 5), none, []⟩,
  ⟨some 20, .iaddr 1 (.t 18) (.t 19), none, [3, 4]⟩,
  ⟨some 21, .load none (.t 20), none, [5]⟩,
  ⟨some 22, .mv (.t 1), none, []⟩,
  ⟨some 23, .bin .eql (.t 21) (.t 22), none, [6, 7]⟩]
def r18_5 : List AOper := [
  ⟨some 24, .mv (.t 0), none, []⟩,
  ⟨some 25, .mv (.t 5), none, []⟩,
  ⟨some 26, .callF 20 [(.t 24), (.t 25)], none, [0, 1]⟩]
def r18_6 : List AOper := [
  ⟨some 4, .mv (.c (.bool true)), none, []⟩]
def r18_3 : List AOper := [
  ⟨some 13, .mv (.t 5), none, []⟩,
  ⟨some 14, .bin .add (.t 13) (.c (.int .i64 1)), none, [0]⟩,
  ⟨some 5, .mv (.t 14), none, [1, 0, 1]⟩]
def l18_0 : ACode :=
  .seq (
  .seq (
  .region false r18_2 [0, 1, 5, 12]) (
  .cond (.t 12) (
    .skip) (
    .exit 0))) (
  .seq (
  .block 1 (
    .seq (
    .region false r18_4 [0, 1, 5, 23]) (
    .cond (.t 23) (
      .seq (
      .region false r18_5 []) (
      .seq (
      .region false r18_6 [4]) (
      .ret))) (
      .skip)))) (
  .region false r18_3 [0, 1, 5]))
def r18_7 : List AOper := [
  ⟨some 4, .mv (.c (.bool false)), none, []⟩]
def k18 : List (List Nat) := [[0, 1], [0, 1, 5], [0, 1, 5, 12], [0, 1, 5], [0, 1, 5, 23], [], [4], [4]]
def f18 : AFunc := { ntmps := 27, results := [.tmp 4], body := (
  .seq (
  .region false r18_0 [0, 1]) (
  .seq (
  .seq (
  .region false r18_1 [0, 1, 5]) (
  .block 0 (
    .loop l18_0))) (
  .seq (
  .region false r18_7 [4]) (
  .ret)))) }
theorem c18 : cfunc Try.prog (kof k18) Try.f18 = some f18 := by kernel_rfl

/-- slices.Sort[[]string,string] -/
def r19_0 : List AOper := [
  ⟨some 3, .mv (.t 0), none, []⟩,
  ⟨some 4, .len 1 (.t 3), none, [0]⟩,
  ⟨some 2, .mv (.t 4), none, [1, 0, 1]⟩]
def r19_1 : List AOper := [
  ⟨some 5, .mv (.t 0), none, []⟩,
  ⟨some 6, .mv (.t 2), none, []⟩,
  ⟨some 7, .mv (.t 2), none, []⟩,
  ⟨some 8, .conv (.toInt .u64) (.t 7), none, [2]⟩,
  ⟨some 9, .callF 22 [(.t 8)], none, [3]⟩,
  ⟨some 10, .callF 21 [(.t 5), (.c (.int .i64 0)), (.t 6), (.t 9)], none, [0, 1, 4, 4]⟩]
def k19 : List (List Nat) := [[0, 2], []]
def f19 : AFunc := { ntmps := 11, results := [], body := (
  .seq (
  .region false r19_0 [0, 2]) (
  .region false r19_1 [])) }
theorem c19 : cfunc Try.prog (kof k19) Try.f19 = some f19 := by kernel_rfl

/-- (*exitwave/exitwaveref17.Names).drop -/
def r20_0 : List AOper := [
  ⟨some 4, .mv (.t 0), none, []⟩,
  ⟨some 5, .bslice 9 0 [] [], none, []⟩,
  ⟨some 6, .mv (.t 0), none, []⟩,
  ⟨some 7, .nilchk (.t 6), none, [2]⟩,
  ⟨some 8, .faddr 0 (.t 7), none, [3]⟩,
  ⟨some 9, .load none (.t 8), none, [4]⟩,
  ⟨some 10, .mv (.t 1), none, []⟩,
  ⟨some 11, .slc 9 1 (.t 9) none (some (.t 10)) none, none, [5, 6]⟩,
  ⟨some 12, .app 9 1 16 (.t 5) (.t 11), none, [1, 7]⟩,
  ⟨some 13, .mv (.t 0), none, []⟩,
  ⟨some 14, .nilchk (.t 13), none, [9]⟩,
  ⟨some 15, .faddr 0 (.t 14), none, [10]⟩,
  ⟨some 16, .load none (.t 15), none, [11]⟩,
  ⟨some 17, .mv (.t 1), none, []⟩,
  ⟨some 18, .bin .add (.t 17) (.c (.int .i64 1)), none, [13]⟩,
  ⟨some 19, .slc 9 1 (.t 16) (some (.t 18)) none none, none, [12, 14]⟩,
  ⟨some 20, .app 9 1 16 (.t 12) (.t 19), none, [8, 15, 8]⟩,
  ⟨some 21, .nilchk (.t 4), none, [0, 0, 1, 2, 3, 4, 5, 6, 7, 8, 9, 10, 11, 12, 13, 14, 15, 16]⟩,
  ⟨some 22, .faddr 0 (.t 21), none, [17, 0, 1, 2, 3, 4, 5, 6, 7, 8, 9, 10, 11, 12, 13, 14, 15, 16]⟩,
  ⟨none, .store 1 (.t 22) (.t 20), none, [18, 16, 16, 0, 1, 2, 3, 4, 5, 6, 7, 8, 9, 10, 11, 12, 13, 14, 15, 16]⟩]
def r20_1 : List AOper := [
  ⟨some 23, .mv (.t 0), none, []⟩,
  ⟨some 24, .bslice 3 0 [] [], none, []⟩,
  ⟨some 25, .mv (.t 0), none, []⟩,
  ⟨some 26, .nilchk (.t 25), none, [2]⟩,
  ⟨some 27, .faddr 1 (.t 26), none, [3]⟩,
  ⟨some 28, .load none (.t 27), none, [4]⟩,
  ⟨some 29, .mv (.t 1), none, []⟩,
  ⟨some 30, .slc 3 1 (.t 28) none (some (.t 29)) none, none, [5, 6]⟩,
  ⟨some 31, .app 3 1 8 (.t 24) (.t 30), none, [1, 7]⟩,
  ⟨some 32, .mv (.t 0), none, []⟩,
  ⟨some 33, .nilchk (.t 32), none, [9]⟩,
  ⟨some 34, .faddr 1 (.t 33), none, [10]⟩,
  ⟨some 35, .load none (.t 34), none, [11]⟩,
  ⟨some 36, .mv (.t 1), none, []⟩,
  ⟨some 37, .bin .add (.t 36) (.c (.int .i64 1)), none, [13]⟩,
  ⟨some 38, .slc 3 1 (.t 35) (some (.t 37)) none none, none, [12, 14]⟩,
  ⟨some 39, .app 3 1 8 (.t 31) (.t 38), none, [8, 15, 8]⟩,
  ⟨some 40, .nilchk (.t 23), none, [0, 0, 1, 2, 3, 4, 5, 6, 7, 8, 9, 10, 11, 12, 13, 14, 15, 16]⟩,
  ⟨some 41, .faddr 1 (.t 40), none, [17, 0, 1, 2, 3, 4, 5, 6, 7, 8, 9, 10, 11, 12, 13, 14, 15, 16]⟩,
  ⟨none, .store 1 (.t 41) (.t 39), none, [18, 16, 16, 0, 1, 2, 3, 4, 5, 6, 7, 8, 9, 10, 11, 12, 13, 14, 15, 16]⟩]
def m20_0 : List Nat := [0, 0, 0, 4, 12, 28, 0, 124, 254, 0, 512, 1536, 3584, 0, 8192, 32256, 65534, 131071, 262143, 524287]
theorem d20_0 : okDraw r20_0 m20_0 = true := by kernel_rfl
def m20_1 : List Nat := [0, 0, 0, 4, 12, 28, 0, 124, 254, 0, 512, 1536, 3584, 0, 8192, 32256, 65534, 131071, 262143, 524287]
theorem d20_1 : okDraw r20_1 m20_1 = true := by kernel_rfl
def k20 : List (List Nat) := [[0, 1], []]
def f20 : AFunc := { ntmps := 42, results := [], body := (
  .seq (
  .region true r20_0 [0, 1]) (
  .region true r20_1 [])) }
theorem c20 : cfunc Try.prog (kof k20) Try.f20 = some f20 := by kernel_rfl

/-- slices.pdqsortOrdered[string] -/
def r21_0 : List AOper := [
  ⟨some 8, .mv (.c (.bool true)), none, []⟩]
def r21_1 : List AOper := [
  ⟨some 9, .mv (.c (.bool true)), none, []⟩]
def r21_2 : List AOper := [
  ⟨some 19, .mv (.t 2), none, []⟩,
  ⟨some 20, .mv (.t 1), none, []⟩,
  ⟨some 21, .bin .sub (.t 19) (.t 20), none, [0, 1]⟩,
  ⟨some 10, .mv (.t 21), none, [2, 0, 1, 2]⟩]
def r21_3 : List AOper := [
  ⟨some 22, .mv (.t 10), none, []⟩,
  ⟨some 23, .bin .leq (.t 22) (.c (.int .i64 12)), none, [0]⟩]
def r21_4 : List AOper := [
  ⟨some 24, .mv (.t 0), none, []⟩,
  ⟨some 25, .mv (.t 1), none, []⟩,
  ⟨some 26, .mv (.t 2), none, []⟩,
  ⟨some 27, .callF 23 [(.t 24), (.t 25), (.t 26)], none, [0, 1, 2]⟩]
def r21_5 : List AOper := [
  ⟨some 28, .mv (.t 3), none, []⟩,
  ⟨some 29, .bin .eql (.t 28) (.c (.int .i64 0)), none, [0]⟩]
def r21_6 : List AOper := [
  ⟨some 30, .mv (.t 0), none, []⟩,
  ⟨some 31, .mv (.t 1), none, []⟩,
  ⟨some 32, .mv (.t 2), none, []⟩,
  ⟨some 33, .callF 24 [(.t 30), (.t 31), (.t 32)], none, [0, 1, 2]⟩]
def r21_7 : List AOper := [
  ⟨some 34, .mv (.t 8), none, []⟩,
  ⟨some 35, .un .not (.t 34), none, [0]⟩]
def r21_8 : List AOper := [
  ⟨some 36, .mv (.t 0), none, []⟩,
  ⟨some 37, .mv (.t 1), none, []⟩,
  ⟨some 38, .mv (.t 2), none, []⟩,
  ⟨some 39, .callF 25 [(.t 36), (.t 37), (.t 38)], none, [0, 1, 2]⟩]
def r21_9 : List AOper := [
  ⟨some 40, .mv (.t 3), none, []⟩,
  ⟨some 41, .bin .sub (.t 40) (.c (.int .i64 1)), none, [0]⟩,
  ⟨some 3, .mv (.t 41), none, [1, 0, 1]⟩]
def r21_10 : List AOper := [
  ⟨some 43, .mv (.t 0), none, []⟩,
  ⟨some 44, .mv (.t 1), none, []⟩,
  ⟨some 45, .mv (.t 2), none, []⟩,
  ⟨some 46, .callF 26 [(.t 43), (.t 44), (.t 45)], none, [0, 1, 2]⟩,
  ⟨some 42, .mv (.t 46), none, [3]⟩,
  ⟨some 47, .extract (.t 42) 0, none, [4]⟩,
  ⟨some 48, .extract (.t 42) 1, none, [4]⟩,
  ⟨some 11, .mv (.t 47), none, [5, 3, 0, 1, 2, 3, 4, 5]⟩,
  ⟨some 12, .mv (.t 48), none, [6, 7, 0, 1, 2, 3, 4, 5, 6, 7]⟩]
def r21_11 : List AOper := [
  ⟨some 49, .mv (.t 12), none, []⟩,
  ⟨some 50, .bin .eql (.t 49) (.c (.int .i64 2)), none, [0]⟩]
def r21_12 : List AOper := [
  ⟨some 51, .mv (.t 0), none, []⟩,
  ⟨some 52, .mv (.t 1), none, []⟩,
  ⟨some 53, .mv (.t 2), none, []⟩,
  ⟨some 54, .callF 27 [(.t 51), (.t 52), (.t 53)], none, [0, 1, 2]⟩]
def r21_13 : List AOper := [
  ⟨some 55, .mv (.t 2), none, []⟩,
  ⟨some 56, .bin .sub (.t 55) (.c (.int .i64 1)), none, [0]⟩,
  ⟨some 57, .mv (.t 11), none, []⟩,
  ⟨some 58, .mv (.t 1), none, []⟩,
  ⟨some 59, .bin .sub (.t 57) (.t 58), none, [2, 3]⟩,
  ⟨some 60, .bin .sub (.t 56) (.t 59), none, [1, 4]⟩,
  ⟨some 11, .mv (.t 60), none, [5, 0, 1, 2, 3, 4, 5]⟩]
def r21_14 : List AOper := [
  ⟨some 12, .mv (.c (.int .i64 1)), none, []⟩]
def r21_15 : List AOper := [
  ⟨some 61, .mv (.t 8), none, []⟩,
  ⟨some 62, .mv (.t 61), none, [0]⟩,
  ⟨some 63, .mv (.t 9), some (62, true), [1]⟩,
  ⟨some 64, .pick (.t 62) (.t 63) (.c (.bool false)), none, [1, 2]⟩,
  ⟨some 65, .mv (.t 64), none, [3, 1]⟩,
  ⟨some 66, .mv (.t 12), some (65, true), [4]⟩,
  ⟨some 67, .bin .eql (.t 66) (.c (.int .i64 1)), some (65, true), [5, 4]⟩,
  ⟨some 68, .pick (.t 65) (.t 67) (.c (.bool false)), none, [4, 6]⟩]
def r21_16 : List AOper := [
  ⟨some 69, .mv (.t 0), none, []⟩,
  ⟨some 70, .mv (.t 1), none, []⟩,
  ⟨some 71, .mv (.t 2), none, []⟩,
  ⟨some 72, .callF 28 [(.t 69), (.t 70), (.t 71)], none, [0, 1, 2]⟩]
def r21_17 : List AOper := [
  ⟨some 73, .mv (.t 1), none, []⟩,
  ⟨some 74, .bin .gtr (.t 73) (.c (.int .i64 0)), none, [0]⟩,
  ⟨some 75, .mv (.t 74), none, [1]⟩,
  ⟨some 76, .mv (.t 0), some (75, true), [2]⟩,
  ⟨some 77, .mv (.t 1), some (75, true), [2]⟩,
  ⟨some 78, .bin .sub (.t 77) (.c (.int .i64 1)), some (75, true), [4, 2]⟩,
  ⟨some 79, .iaddr 1 (.t 76) (.t 78), some (75, true), [3, 5, 2]⟩,
  ⟨some 80, .load none (.t 79), some (75, true), [6, 2]⟩,
  ⟨some 81, .mv (.t 0), some (75, true), [2]⟩,
  ⟨some 82, .mv (.t 11), some (75, true), [2]⟩,
  ⟨some 83, .iaddr 1 (.t 81) (.t 82), some (75, true), [8, 9, 2]⟩,
  ⟨some 84, .load none (.t 83), some (75, true), [10, 2]⟩,
  ⟨some 85, .callF 29 [(.t 80), (.t 84)], some (75, true), [7, 11, 2, 2]⟩,
  ⟨some 86, .un .not (.t 85), some (75, true), [12, 2]⟩,
  ⟨some 87, .pick (.t 75) (.t 86) (.c (.bool false)), none, [2, 13]⟩]
def r21_18 : List AOper := [
  ⟨some 88, .mv (.t 0), none, []⟩,
  ⟨some 89, .mv (.t 1), none, []⟩,
  ⟨some 90, .mv (.t 2), none, []⟩,
  ⟨some 91, .mv (.t 11), none, []⟩,
  ⟨some 92, .callF 30 [(.t 88), (.t 89), (.t 90), (.t 91)], none, [0, 1, 2, 3]⟩,
  ⟨some 13, .mv (.t 92), none, [4, 4, 0, 1, 2, 3, 4]⟩]
def r21_19 : List AOper := [
  ⟨some 93, .mv (.t 13), none, []⟩,
  ⟨some 1, .mv (.t 93), none, [0, 0]⟩]
def r21_20 : List AOper := [
  ⟨some 95, .mv (.t 0), none, []⟩,
  ⟨some 96, .mv (.t 1), none, []⟩,
  ⟨some 97, .mv (.t 2), none, []⟩,
  ⟨some 98, .mv (.t 11), none, []⟩,
  ⟨some 99, .callF 31 [(.t 95), (.t 96), (.t 97), (.t 98)], none, [0, 1, 2, 3]⟩,
  ⟨some 94, .mv (.t 99), none, [4]⟩,
  ⟨some 100, .extract (.t 94) 0, none, [5]⟩,
  ⟨some 101, .extract (.t 94) 1, none, [5]⟩,
  ⟨some 14, .mv (.t 100), none, [6, 4, 0, 1, 2, 3, 4, 5, 6]⟩,
  ⟨some 15, .mv (.t 101), none, [7, 8, 0, 1, 2, 3, 4, 5, 6, 7, 8]⟩]
def r21_21 : List AOper := [
  ⟨some 102, .mv (.t 15), none, []⟩,
  ⟨some 9, .mv (.t 102), none, [0, 0]⟩]
def r21_22 : List AOper := [
  ⟨some 103, .mv (.t 14), none, []⟩,
  ⟨some 104, .mv (.t 1), none, []⟩,
  ⟨some 105, .bin .sub (.t 103) (.t 104), none, [0, 1]⟩,
  ⟨some 106, .mv (.t 2), none, []⟩,
  ⟨some 107, .mv (.t 14), none, []⟩,
  ⟨some 108, .bin .sub (.t 106) (.t 107), none, [3, 4]⟩,
  ⟨some 16, .mv (.t 105), none, [2, 0, 1, 2]⟩,
  ⟨some 17, .mv (.t 108), none, [5, 6, 0, 1, 2, 3, 4, 5, 6]⟩]
def r21_23 : List AOper := [
  ⟨some 109, .mv (.t 10), none, []⟩,
  ⟨some 110, .bin .quo (.t 109) (.c (.int .i64 8)), none, [0]⟩,
  ⟨some 18, .mv (.t 110), none, [1, 0, 1]⟩]
def r21_24 : List AOper := [
  ⟨some 111, .mv (.t 16), none, []⟩,
  ⟨some 112, .mv (.t 17), none, []⟩,
  ⟨some 113, .bin .lss (.t 111) (.t 112), none, [0, 1]⟩]
def r21_25 : List AOper := [
  ⟨some 114, .mv (.t 16), none, []⟩,
  ⟨some 115, .mv (.t 18), none, []⟩,
  ⟨some 116, .bin .geq (.t 114) (.t 115), none, [0, 1]⟩,
  ⟨some 8, .mv (.t 116), none, [2, 0, 1, 2]⟩]
def r21_26 : List AOper := [
  ⟨some 117, .mv (.t 0), none, []⟩,
  ⟨some 118, .mv (.t 1), none, []⟩,
  ⟨some 119, .mv (.t 14), none, []⟩,
  ⟨some 120, .mv (.t 3), none, []⟩,
  ⟨some 121, .callF 21 [(.t 117), (.t 118), (.t 119), (.t 120)], none, [0, 1, 2, 3]⟩]
def r21_27 : List AOper := [
  ⟨some 122, .mv (.t 14), none, []⟩,
  ⟨some 123, .bin .add (.t 122) (.c (.int .i64 1)), none, [0]⟩,
  ⟨some 1, .mv (.t 123), none, [1, 0, 1]⟩]
def r21_28 : List AOper := [
  ⟨some 124, .mv (.t 17), none, []⟩,
  ⟨some 125, .mv (.t 18), none, []⟩,
  ⟨some 126, .bin .geq (.t 124) (.t 125), none, [0, 1]⟩,
  ⟨some 8, .mv (.t 126), none, [2, 0, 1, 2]⟩]
def r21_29 : List AOper := [
  ⟨some 127, .mv (.t 0), none, []⟩,
  ⟨some 128, .mv (.t 14), none, []⟩,
  ⟨some 129, .bin .add (.t 128) (.c (.int .i64 1)), none, [1]⟩,
  ⟨some 130, .mv (.t 2), none, []⟩,
  ⟨some 131, .mv (.t 3), none, []⟩,
  ⟨some 132, .callF 21 [(.t 127), (.t 129), (.t 130), (.t 131)], none, [0, 2, 3, 4]⟩]
def r21_30 : List AOper := [
  ⟨some 133, .mv (.t 14), none, []⟩,
  ⟨some 2, .mv (.t 133), none, [0, 0]⟩]
def l21_0 : ACode :=
  .block 1 (
    .seq (
    .region false r21_2 [0, 1, 2, 3, 8, 9, 10]) (
    .seq (
    .seq (
    .region false r21_3 [0, 1, 2, 3, 8, 9, 10, 23]) (
    .cond (.t 23) (
      .seq (
      .region false r21_4 []) (
      .ret)) (
      .skip))) (
    .seq (
    .seq (
    .region false r21_5 [0, 1, 2, 3, 8, 9, 10, 29]) (
    .cond (.t 29) (
      .seq (
      .region false r21_6 []) (
      .ret)) (
      .skip))) (
    .seq (
    .seq (
    .region false r21_7 [0, 1, 2, 3, 8, 9, 10, 35]) (
    .cond (.t 35) (
      .seq (
      .region false r21_8 [0, 1, 2, 3, 8, 9, 10]) (
      .region false r21_9 [0, 1, 2, 3, 8, 9, 10])) (
      .skip))) (
    .seq (
    .region false r21_10 [0, 1, 2, 3, 8, 9, 10, 11, 12]) (
    .seq (
    .seq (
    .region false r21_11 [0, 1, 2, 3, 8, 9, 10, 11, 12, 50]) (
    .cond (.t 50) (
      .seq (
      .region false r21_12 [0, 1, 2, 3, 8, 9, 10, 11]) (
      .seq (
      .region false r21_13 [0, 1, 2, 3, 8, 9, 10, 11]) (
      .region false r21_14 [0, 1, 2, 3, 8, 9, 10, 11, 12]))) (
      .skip))) (
    .seq (
    .seq (
    .region false r21_15 [0, 1, 2, 3, 8, 9, 10, 11, 68]) (
    .cond (.t 68) (
      .seq (
      .region false r21_16 [0, 1, 2, 3, 8, 9, 10, 11, 72]) (
      .cond (.t 72) (
        .ret) (
        .skip))) (
      .skip))) (
    .seq (
    .seq (
    .region true r21_17 [0, 1, 2, 3, 8, 9, 10, 11, 87]) (
    .cond (.t 87) (
      .seq (
      .region false r21_18 [0, 2, 3, 8, 9, 13]) (
      .seq (
      .region false r21_19 [0, 1, 2, 3, 8, 9]) (
      .exit 1))) (
      .skip))) (
    .seq (
    .region false r21_20 [0, 1, 2, 3, 10, 14, 15]) (
    .seq (
    .region false r21_21 [0, 1, 2, 3, 9, 10, 14]) (
    .seq (
    .region false r21_22 [0, 1, 2, 3, 9, 10, 14, 16, 17]) (
    .seq (
    .region false r21_23 [0, 1, 2, 3, 9, 14, 16, 17, 18]) (
    .seq (
    .region false r21_24 [0, 1, 2, 3, 9, 14, 16, 17, 18, 113]) (
    .cond (.t 113) (
      .seq (
      .region false r21_25 [0, 1, 2, 3, 8, 9, 14]) (
      .seq (
      .region false r21_26 [0, 2, 3, 8, 9, 14]) (
      .region false r21_27 [0, 1, 2, 3, 8, 9]))) (
      .seq (
      .region false r21_28 [0, 1, 2, 3, 8, 9, 14]) (
      .seq (
      .region false r21_29 [0, 1, 3, 8, 9, 14]) (
      .region false r21_30 [0, 1, 2, 3, 8, 9])))))))))))))))))
def m21_17 : List Nat := [0, 1, 3, 7, 7, 23, 63, 127, 7, 7, 775, 1799, 4095, 8191, 16383]
theorem d21_17 : okDraw r21_17 m21_17 = true := by kernel_rfl
def k21 : List (List Nat) := [[0, 1, 2, 3, 8], [0, 1, 2, 3, 8, 9], [0, 1, 2, 3, 8, 9, 10], [0, 1, 2, 3, 8, 9, 10, 23], [], [0, 1, 2, 3, 8, 9, 10, 29], [], [0, 1, 2, 3, 8, 9, 10, 35], [0, 1, 2, 3, 8, 9, 10], [0, 1, 2, 3, 8, 9, 10], [0, 1, 2, 3, 8, 9, 10, 11, 12], [0, 1, 2, 3, 8, 9, 10, 11, 12, 50], [0, 1, 2, 3, 8, 9, 10, 11], [0, 1, 2, 3, 8, 9, 10, 11], [0, 1, 2, 3, 8, 9, 10, 11, 12], [0, 1, 2, 3, 8, 9, 10, 11, 68], [0, 1, 2, 3, 8, 9, 10, 11, 72], [0, 1, 2, 3, 8, 9, 10, 11, 87], [0, 2, 3, 8, 9, 13], [0, 1, 2, 3, 8, 9], [0, 1, 2, 3, 10, 14, 15], [0, 1, 2, 3, 9, 10, 14], [0, 1, 2, 3, 9, 10, 14, 16, 17], [0, 1, 2, 3, 9, 14, 16, 17, 18], [0, 1, 2, 3, 9, 14, 16, 17, 18, 113], [0, 1, 2, 3, 8, 9, 14], [0, 2, 3, 8, 9, 14], [0, 1, 2, 3, 8, 9], [0, 1, 2, 3, 8, 9, 14], [0, 1, 3, 8, 9, 14], [0, 1, 2, 3, 8, 9]]
def f21 : AFunc := { ntmps := 134, results := [], body := (
  .seq (
  .region false r21_0 [0, 1, 2, 3, 8]) (
  .seq (
  .region false r21_1 [0, 1, 2, 3, 8, 9]) (
  .block 0 (
    .loop l21_0)))) }
theorem c21 : cfunc Try.prog (kof k21) Try.f21 = some f21 := by kernel_rfl

/-- math/bits.Len -/
def r22_0 : List AOper := [
  ⟨some 2, .mv (.c (.int .i64 0)), none, []⟩]
def r22_1 : List AOper := [
  ⟨some 3, .mv (.t 0), none, []⟩,
  ⟨some 4, .conv (.toInt .u32) (.t 3), none, [0]⟩,
  ⟨some 5, .callF 32 [(.t 4)], none, [1]⟩,
  ⟨some 2, .mv (.t 5), none, [2, 2, 0, 1, 2]⟩]
def r22_2 : List AOper := [
  ⟨some 6, .mv (.t 0), none, []⟩,
  ⟨some 7, .callF 33 [(.t 6)], none, [0]⟩,
  ⟨some 2, .mv (.t 7), none, [1, 1, 0, 1]⟩]
def k22 : List (List Nat) := [[0], [2], [2]]
def f22 : AFunc := { ntmps := 8, results := [.tmp 2], body := (
  .seq (
  .region false r22_0 [0]) (
  .seq (
  .cond (.c (.bool false)) (
    .seq (
    .region false r22_1 [2]) (
    .ret)) (
    .skip)) (
  .seq (
  .region false r22_2 [2]) (
  .ret)))) }
theorem c22 : cfunc Try.prog (kof k22) Try.f22 = some f22 := by kernel_rfl

/-- slices.insertionSortOrdered[string] -/
def r23_0 : List AOper := [
  ⟨some 8, .mv (.t 1), none, []⟩,
  ⟨some 9, .bin .add (.t 8) (.c (.int .i64 1)), none, [0]⟩,
  ⟨some 6, .mv (.t 9), none, [1, 0, 1]⟩]
def r23_1 : List AOper := [
  ⟨some 10, .mv (.t 6), none, []⟩,
  ⟨some 11, .mv (.t 2), none, []⟩,
  ⟨some 12, .bin .lss (.t 10) (.t 11), none, [0, 1]⟩]
def r23_3 : List AOper := [
  ⟨some 15, .mv (.t 6), none, []⟩,
  ⟨some 7, .mv (.t 15), none, [0, 0]⟩]
def r23_4 : List AOper := [
  ⟨some 16, .mv (.t 7), none, []⟩,
  ⟨some 17, .mv (.t 1), none, []⟩,
  ⟨some 18, .bin .gtr (.t 16) (.t 17), none, [0, 1]⟩,
  ⟨some 19, .mv (.t 18), none, [2]⟩,
  ⟨some 20, .mv (.t 0), some (19, true), [3]⟩,
  ⟨some 21, .mv (.t 7), some (19, true), [3]⟩,
  ⟨some 22, .iaddr 1 (.t 20) (.t 21), some (19, true), [4, 5, 3]⟩,
  ⟨some 23, .load none (.t 22), some (19, true), [6, 3]⟩,
  ⟨some 24, .mv (.t 0), some (19, true), [3]⟩,
  ⟨some 25, .mv (.t 7), some (19, true), [3]⟩,
  ⟨some 26, .bin .sub (.t 25) (.c (.int .i64 1)), some (19, true), [9, 3]⟩,
  ⟨some 27, .iaddr 1 (.t 24) (.t 26), some (19, true), [8, 10, 3]⟩,
  ⟨some 28, .load none (.t 27), some (19, true), [11, 3]⟩,
  ⟨some 29, .callF 29 [(.t 23), (.t 28)], some (19, true), [7, 12, 3, 3]⟩,
  ⟨some 30, .pick (.t 19) (.t 29) (.c (.bool false)), none, [3, 13]⟩]
def r23_6 : List AOper := [
  ⟨some 33, .mv (.t 0), none, []⟩,
  ⟨some 34, .mv (.t 7), none, []⟩,
  ⟨some 35, .mv (.t 0), none, []⟩,
  ⟨some 36, .mv (.t 7), none, []⟩,
  ⟨some 37, .bin .sub (.t 36) (.c (.int .i64 1)), none, [3]⟩,
  ⟨some 38, .mv (.t 0), none, []⟩,
  ⟨some 39, .mv (.t 7), none, []⟩,
  ⟨some 40, .bin .sub (.t 39) (.c (.int .i64 1)), none, [6]⟩,
  ⟨some 41, .iaddr 1 (.t 38) (.t 40), none, [5, 7]⟩,
  ⟨some 42, .load none (.t 41), none, [8]⟩,
  ⟨some 43, .mv (.t 0), none, []⟩,
  ⟨some 44, .mv (.t 7), none, []⟩,
  ⟨some 45, .iaddr 1 (.t 43) (.t 44), none, [10, 11]⟩,
  ⟨some 46, .load none (.t 45), none, [12]⟩,
  ⟨some 47, .iaddr 1 (.t 33) (.t 34), none, [0, 1, 0, 1, 5, 6, 7, 8, 9, 13]⟩,
  ⟨none, .store 1 (.t 47) (.t 42), none, [14, 9, 0, 1, 5, 6, 7, 8, 9, 13]⟩,
  ⟨some 48, .iaddr 1 (.t 35) (.t 37), none, [2, 4, 0, 1, 2, 3, 4, 5, 6, 7, 8, 9, 10, 11, 12, 13, 14, 15]⟩,
  ⟨none, .store 1 (.t 48) (.t 46), none, [16, 13, 15, 0, 1, 2, 3, 4, 5, 6, 7, 8, 9, 10, 11, 12, 13, 14, 15]⟩]
def r23_5 : List AOper := [
  ⟨some 31, .mv (.t 7), none, []⟩,
  ⟨some 32, .bin .sub (.t 31) (.c (.int .i64 1)), none, [0]⟩,
  ⟨some 7, .mv (.t 32), none, [1, 0, 1]⟩]
def l23_0 : ACode :=
  .seq (
  .seq (
  .region true r23_4 [0, 1, 2, 6, 7, 30]) (
  .cond (.t 30) (
    .skip) (
    .exit 2))) (
  .seq (
  .block 3 (
    .region true r23_6 [0, 1, 2, 6, 7])) (
  .region false r23_5 [0, 1, 2, 6, 7]))
def r23_2 : List AOper := [
  ⟨some 13, .mv (.t 6), none, []⟩,
  ⟨some 14, .bin .add (.t 13) (.c (.int .i64 1)), none, [0]⟩,
  ⟨some 6, .mv (.t 14), none, [1, 0, 1]⟩]
def l23_1 : ACode :=
  .seq (
  .seq (
  .region false r23_1 [0, 1, 2, 6, 12]) (
  .cond (.t 12) (
    .skip) (
    .exit 0))) (
  .seq (
  .block 1 (
    .seq (
    .region false r23_3 [0, 1, 2, 6, 7]) (
    .block 2 (
      .loop l23_0)))) (
  .region false r23_2 [0, 1, 2, 6]))
def m23_4 : List Nat := [0, 0, 3, 7, 15, 15, 63, 127, 15, 15, 527, 1807, 3855, 8191, 16383]
theorem d23_4 : okDraw r23_4 m23_4 = true := by kernel_rfl
def m23_6 : List Nat := [0, 0, 0, 0, 8, 0, 0, 64, 224, 480, 0, 0, 3072, 7168, 16355, 32739, 65535, 131071]
theorem d23_6 : okDraw r23_6 m23_6 = true := by kernel_rfl
def k23 : List (List Nat) := [[0, 1, 2, 6], [0, 1, 2, 6, 12], [0, 1, 2, 6], [0, 1, 2, 6, 7], [0, 1, 2, 6, 7, 30], [0, 1, 2, 6, 7], [0, 1, 2, 6, 7]]
def f23 : AFunc := { ntmps := 49, results := [], body := (
  .seq (
  .region false r23_0 [0, 1, 2, 6]) (
  .block 0 (
    .loop l23_1))) }
theorem c23 : cfunc Try.prog (kof k23) Try.f23 = some f23 := by kernel_rfl

/-- slices.heapSortOrdered[string] -/
def r24_0 : List AOper := [
  ⟨some 11, .mv (.t 1), none, []⟩,
  ⟨some 6, .mv (.t 11), none, [0, 0]⟩]
def r24_1 : List AOper := [
  ⟨some 7, .mv (.c (.int .i64 0)), none, []⟩]
def r24_2 : List AOper := [
  ⟨some 12, .mv (.t 2), none, []⟩,
  ⟨some 13, .mv (.t 1), none, []⟩,
  ⟨some 14, .bin .sub (.t 12) (.t 13), none, [0, 1]⟩,
  ⟨some 8, .mv (.t 14), none, [2, 0, 1, 2]⟩]
def r24_3 : List AOper := [
  ⟨some 15, .mv (.t 8), none, []⟩,
  ⟨some 16, .bin .sub (.t 15) (.c (.int .i64 1)), none, [0]⟩,
  ⟨some 17, .bin .quo (.t 16) (.c (.int .i64 2)), none, [1]⟩,
  ⟨some 9, .mv (.t 17), none, [2, 0, 1, 2]⟩]
def r24_4 : List AOper := [
  ⟨some 18, .mv (.t 9), none, []⟩,
  ⟨some 19, .bin .geq (.t 18) (.c (.int .i64 0)), none, [0]⟩]
def r24_6 : List AOper := [
  ⟨some 22, .mv (.t 0), none, []⟩,
  ⟨some 23, .mv (.t 9), none, []⟩,
  ⟨some 24, .mv (.t 8), none, []⟩,
  ⟨some 25, .mv (.t 6), none, []⟩,
  ⟨some 26, .callF 34 [(.t 22), (.t 23), (.t 24), (.t 25)], none, [0, 1, 2, 3]⟩]
def r24_5 : List AOper := [
  ⟨some 20, .mv (.t 9), none, []⟩,
  ⟨some 21, .bin .sub (.t 20) (.c (.int .i64 1)), none, [0]⟩,
  ⟨some 9, .mv (.t 21), none, [1, 0, 1]⟩]
def l24_0 : ACode :=
  .seq (
  .seq (
  .region false r24_4 [0, 6, 7, 8, 9, 19]) (
  .cond (.t 19) (
    .skip) (
    .exit 0))) (
  .seq (
  .block 1 (
    .region false r24_6 [0, 6, 7, 8, 9])) (
  .region false r24_5 [0, 6, 7, 8, 9]))
def r24_7 : List AOper := [
  ⟨some 27, .mv (.t 8), none, []⟩,
  ⟨some 28, .bin .sub (.t 27) (.c (.int .i64 1)), none, [0]⟩,
  ⟨some 10, .mv (.t 28), none, [1, 0, 1]⟩]
def r24_8 : List AOper := [
  ⟨some 29, .mv (.t 10), none, []⟩,
  ⟨some 30, .bin .geq (.t 29) (.c (.int .i64 0)), none, [0]⟩]
def r24_10 : List AOper := [
  ⟨some 33, .mv (.t 0), none, []⟩,
  ⟨some 34, .mv (.t 6), none, []⟩,
  ⟨some 35, .mv (.t 0), none, []⟩,
  ⟨some 36, .mv (.t 6), none, []⟩,
  ⟨some 37, .mv (.t 10), none, []⟩,
  ⟨some 38, .bin .add (.t 36) (.t 37), none, [3, 4]⟩,
  ⟨some 39, .mv (.t 0), none, []⟩,
  ⟨some 40, .mv (.t 6), none, []⟩,
  ⟨some 41, .mv (.t 10), none, []⟩,
  ⟨some 42, .bin .add (.t 40) (.t 41), none, [7, 8]⟩,
  ⟨some 43, .iaddr 1 (.t 39) (.t 42), none, [6, 9]⟩,
  ⟨some 44, .load none (.t 43), none, [10]⟩,
  ⟨some 45, .mv (.t 0), none, []⟩,
  ⟨some 46, .mv (.t 6), none, []⟩,
  ⟨some 47, .iaddr 1 (.t 45) (.t 46), none, [12, 13]⟩,
  ⟨some 48, .load none (.t 47), none, [14]⟩,
  ⟨some 49, .iaddr 1 (.t 33) (.t 34), none, [0, 1, 0, 1, 6, 7, 8, 9, 10, 11, 15]⟩,
  ⟨none, .store 1 (.t 49) (.t 44), none, [16, 11, 0, 1, 6, 7, 8, 9, 10, 11, 15]⟩,
  ⟨some 50, .iaddr 1 (.t 35) (.t 38), none, [2, 5, 0, 1, 2, 3, 4, 5, 6, 7, 8, 9, 10, 11, 12, 13, 14, 15, 16, 17]⟩,
  ⟨none, .store 1 (.t 50) (.t 48), none, [18, 15, 17, 0, 1, 2, 3, 4, 5, 6, 7, 8, 9, 10, 11, 12, 13, 14, 15, 16, 17]⟩]
def r24_11 : List AOper := [
  ⟨some 51, .mv (.t 0), none, []⟩,
  ⟨some 52, .mv (.t 7), none, []⟩,
  ⟨some 53, .mv (.t 10), none, []⟩,
  ⟨some 54, .mv (.t 6), none, []⟩,
  ⟨some 55, .callF 34 [(.t 51), (.t 52), (.t 53), (.t 54)], none, [0, 1, 2, 3]⟩]
def r24_9 : List AOper := [
  ⟨some 31, .mv (.t 10), none, []⟩,
  ⟨some 32, .bin .sub (.t 31) (.c (.int .i64 1)), none, [0]⟩,
  ⟨some 10, .mv (.t 32), none, [1, 0, 1]⟩]
def l24_1 : ACode :=
  .seq (
  .seq (
  .region false r24_8 [0, 6, 7, 10, 30]) (
  .cond (.t 30) (
    .skip) (
    .exit 2))) (
  .seq (
  .block 3 (
    .seq (
    .region true r24_10 [0, 6, 7, 10]) (
    .region false r24_11 [0, 6, 7, 10]))) (
  .region false r24_9 [0, 6, 7, 10]))
def m24_10 : List Nat := [0, 0, 0, 0, 0, 24, 0, 0, 0, 384, 960, 1984, 0, 0, 12288, 28672, 65475, 131011, 262143, 524287]
theorem d24_10 : okDraw r24_10 m24_10 = true := by kernel_rfl
def k24 : List (List Nat) := [[0, 1, 2, 6], [0, 1, 2, 6, 7], [0, 6, 7, 8], [0, 6, 7, 8, 9], [0, 6, 7, 8, 9, 19], [0, 6, 7, 8, 9], [0, 6, 7, 8, 9], [0, 6, 7, 10], [0, 6, 7, 10, 30], [0, 6, 7, 10], [0, 6, 7, 10], [0, 6, 7, 10]]
def f24 : AFunc := { ntmps := 56, results := [], body := (
  .seq (
  .region false r24_0 [0, 1, 2, 6]) (
  .seq (
  .region false r24_1 [0, 1, 2, 6, 7]) (
  .seq (
  .region false r24_2 [0, 6, 7, 8]) (
  .seq (
  .seq (
  .region false r24_3 [0, 6, 7, 8, 9]) (
  .block 0 (
    .loop l24_0))) (
  .seq (
  .region false r24_7 [0, 6, 7, 10]) (
  .block 2 (
    .loop l24_1))))))) }
theorem c24 : cfunc Try.prog (kof k24) Try.f24 = some f24 := by kernel_rfl

/-- slices.breakPatternsOrdered[string] -/
def r25_0 : List AOper := [
  ⟨some 11, .mv (.t 2), none, []⟩,
  ⟨some 12, .mv (.t 1), none, []⟩,
  ⟨some 13, .bin .sub (.t 11) (.t 12), none, [0, 1]⟩,
  ⟨some 6, .mv (.t 13), none, [2, 0, 1, 2]⟩]
def r25_1 : List AOper := [
  ⟨some 14, .mv (.t 6), none, []⟩,
  ⟨some 15, .bin .geq (.t 14) (.c (.int .i64 8)), none, [0]⟩]
def r25_2 : List AOper := [
  ⟨some 16, .mv (.t 6), none, []⟩,
  ⟨some 17, .conv (.toInt .u64) (.t 16), none, [0]⟩,
  ⟨some 7, .alloc 67 (.int .u64 0), none, []⟩,
  ⟨none, .store 1 (.t 7) (.t 17), none, [2, 1, 0, 1, 2]⟩]
def r25_3 : List AOper := [
  ⟨some 18, .mv (.t 6), none, []⟩,
  ⟨some 19, .callF 35 [(.t 18)], none, [0]⟩,
  ⟨some 8, .mv (.t 19), none, [1, 1, 0, 1]⟩]
def r25_4 : List AOper := [
  ⟨some 20, .mv (.t 1), none, []⟩,
  ⟨some 21, .mv (.t 6), none, []⟩,
  ⟨some 22, .bin .quo (.t 21) (.c (.int .i64 4)), none, [1]⟩,
  ⟨some 23, .bin .mul (.t 22) (.c (.int .i64 2)), none, [2]⟩,
  ⟨some 24, .bin .add (.t 20) (.t 23), none, [0, 3]⟩,
  ⟨some 25, .bin .sub (.t 24) (.c (.int .i64 1)), none, [4]⟩,
  ⟨some 9, .mv (.t 25), none, [5, 0, 1, 2, 3, 4, 5]⟩]
def r25_5 : List AOper := [
  ⟨some 26, .mv (.t 9), none, []⟩,
  ⟨some 27, .mv (.t 1), none, []⟩,
  ⟨some 28, .mv (.t 6), none, []⟩,
  ⟨some 29, .bin .quo (.t 28) (.c (.int .i64 4)), none, [2]⟩,
  ⟨some 30, .bin .mul (.t 29) (.c (.int .i64 2)), none, [3]⟩,
  ⟨some 31, .bin .add (.t 27) (.t 30), none, [1, 4]⟩,
  ⟨some 32, .bin .add (.t 31) (.c (.int .i64 1)), none, [5]⟩,
  ⟨some 33, .bin .leq (.t 26) (.t 32), none, [0, 6]⟩]
def r25_7 : List AOper := [
  ⟨some 36, .callF 36 [(.t 7)], none, []⟩,
  ⟨some 37, .mv (.t 8), none, []⟩,
  ⟨some 38, .bin .sub (.t 37) (.c (.int .u64 1)), none, [1]⟩,
  ⟨some 39, .bin .and (.t 36) (.t 38), none, [0, 2]⟩,
  ⟨some 40, .conv (.toInt .i64) (.t 39), none, [3]⟩,
  ⟨some 10, .mv (.t 40), none, [4, 0, 0, 1, 2, 3, 4]⟩]
def r25_8 : List AOper := [
  ⟨some 41, .mv (.t 10), none, []⟩,
  ⟨some 42, .mv (.t 6), none, []⟩,
  ⟨some 43, .bin .geq (.t 41) (.t 42), none, [0, 1]⟩]
def r25_9 : List AOper := [
  ⟨some 44, .mv (.t 10), none, []⟩,
  ⟨some 45, .mv (.t 6), none, []⟩,
  ⟨some 46, .bin .sub (.t 44) (.t 45), none, [0, 1]⟩,
  ⟨some 10, .mv (.t 46), none, [2, 0, 1, 2]⟩]
def r25_10 : List AOper := [
  ⟨some 47, .mv (.t 0), none, []⟩,
  ⟨some 48, .mv (.t 9), none, []⟩,
  ⟨some 49, .mv (.t 0), none, []⟩,
  ⟨some 50, .mv (.t 1), none, []⟩,
  ⟨some 51, .mv (.t 10), none, []⟩,
  ⟨some 52, .bin .add (.t 50) (.t 51), none, [3, 4]⟩,
  ⟨some 53, .mv (.t 0), none, []⟩,
  ⟨some 54, .mv (.t 1), none, []⟩,
  ⟨some 55, .mv (.t 10), none, []⟩,
  ⟨some 56, .bin .add (.t 54) (.t 55), none, [7, 8]⟩,
  ⟨some 57, .iaddr 1 (.t 53) (.t 56), none, [6, 9]⟩,
  ⟨some 58, .load none (.t 57), none, [10]⟩,
  ⟨some 59, .mv (.t 0), none, []⟩,
  ⟨some 60, .mv (.t 9), none, []⟩,
  ⟨some 61, .iaddr 1 (.t 59) (.t 60), none, [12, 13]⟩,
  ⟨some 62, .load none (.t 61), none, [14]⟩,
  ⟨some 63, .iaddr 1 (.t 47) (.t 48), none, [0, 1, 0, 1, 6, 7, 8, 9, 10, 11, 15]⟩,
  ⟨none, .store 1 (.t 63) (.t 58), none, [16, 11, 0, 1, 6, 7, 8, 9, 10, 11, 15]⟩,
  ⟨some 64, .iaddr 1 (.t 49) (.t 52), none, [2, 5, 0, 1, 2, 3, 4, 5, 6, 7, 8, 9, 10, 11, 12, 13, 14, 15, 16, 17]⟩,
  ⟨none, .store 1 (.t 64) (.t 62), none, [18, 15, 17, 0, 1, 2, 3, 4, 5, 6, 7, 8, 9, 10, 11, 12, 13, 14, 15, 16, 17]⟩]
def r25_6 : List AOper := [
  ⟨some 34, .mv (.t 9), none, []⟩,
  ⟨some 35, .bin .add (.t 34) (.c (.int .i64 1)), none, [0]⟩,
  ⟨some 9, .mv (.t 35), none, [1, 0, 1]⟩]
def l25_0 : ACode :=
  .seq (
  .seq (
  .region false r25_5 [0, 1, 6, 7, 8, 9, 33]) (
  .cond (.t 33) (
    .skip) (
    .exit 0))) (
  .seq (
  .block 1 (
    .seq (
    .region false r25_7 [0, 1, 6, 7, 8, 9, 10]) (
    .seq (
    .seq (
    .region false r25_8 [0, 1, 6, 7, 8, 9, 10, 43]) (
    .cond (.t 43) (
      .region false r25_9 [0, 1, 6, 7, 8, 9, 10]) (
      .skip))) (
    .region true r25_10 [0, 1, 6, 7, 8, 9])))) (
  .region false r25_6 [0, 1, 6, 7, 8, 9]))
def m25_10 : List Nat := [0, 0, 0, 0, 0, 24, 0, 0, 0, 384, 960, 1984, 0, 0, 12288, 28672, 65475, 131011, 262143, 524287]
theorem d25_10 : okDraw r25_10 m25_10 = true := by kernel_rfl
def k25 : List (List Nat) := [[0, 1, 6], [0, 1, 6, 15], [0, 1, 6, 7], [0, 1, 6, 7, 8], [0, 1, 6, 7, 8, 9], [0, 1, 6, 7, 8, 9, 33], [0, 1, 6, 7, 8, 9], [0, 1, 6, 7, 8, 9, 10], [0, 1, 6, 7, 8, 9, 10, 43], [0, 1, 6, 7, 8, 9, 10], [0, 1, 6, 7, 8, 9]]
def f25 : AFunc := { ntmps := 65, results := [], body := (
  .seq (
  .region false r25_0 [0, 1, 6]) (
  .seq (
  .region false r25_1 [0, 1, 6, 15]) (
  .cond (.t 15) (
    .seq (
    .region false r25_2 [0, 1, 6, 7]) (
    .seq (
    .region false r25_3 [0, 1, 6, 7, 8]) (
    .seq (
    .region false r25_4 [0, 1, 6, 7, 8, 9]) (
    .block 0 (
      .loop l25_0))))) (
    .skip)))) }
theorem c25 : cfunc Try.prog (kof k25) Try.f25 = some f25 := by kernel_rfl

/-- slices.choosePivotOrdered[string] -/
def r26_0 : List AOper := [
  ⟨some 6, .mv (.c (.int .i64 0)), none, []⟩,
  ⟨some 7, .mv (.c (.int .i64 0)), none, [0]⟩]
def r26_1 : List AOper := [
  ⟨some 13, .mv (.t 2), none, []⟩,
  ⟨some 14, .mv (.t 1), none, []⟩,
  ⟨some 15, .bin .sub (.t 13) (.t 14), none, [0, 1]⟩,
  ⟨some 8, .mv (.t 15), none, [2, 0, 1, 2]⟩]
def r26_2 : List AOper := [
  ⟨some 9, .alloc 3 (.int .i64 0), none, []⟩]
def r26_3 : List AOper := [
  ⟨some 16, .mv (.t 1), none, []⟩,
  ⟨some 17, .mv (.t 8), none, []⟩,
  ⟨some 18, .bin .quo (.t 17) (.c (.int .i64 4)), none, [1]⟩,
  ⟨some 19, .bin .mul (.t 18) (.c (.int .i64 1)), none, [2]⟩,
  ⟨some 20, .bin .add (.t 16) (.t 19), none, [0, 3]⟩,
  ⟨some 10, .mv (.t 20), none, [4, 0, 1, 2, 3, 4]⟩]
def r26_4 : List AOper := [
  ⟨some 21, .mv (.t 1), none, []⟩,
  ⟨some 22, .mv (.t 8), none, []⟩,
  ⟨some 23, .bin .quo (.t 22) (.c (.int .i64 4)), none, [1]⟩,
  ⟨some 24, .bin .mul (.t 23) (.c (.int .i64 2)), none, [2]⟩,
  ⟨some 25, .bin .add (.t 21) (.t 24), none, [0, 3]⟩,
  ⟨some 11, .mv (.t 25), none, [4, 0, 1, 2, 3, 4]⟩]
def r26_5 : List AOper := [
  ⟨some 26, .mv (.t 1), none, []⟩,
  ⟨some 27, .mv (.t 8), none, []⟩,
  ⟨some 28, .bin .quo (.t 27) (.c (.int .i64 4)), none, [1]⟩,
  ⟨some 29, .bin .mul (.t 28) (.c (.int .i64 3)), none, [2]⟩,
  ⟨some 30, .bin .add (.t 26) (.t 29), none, [0, 3]⟩,
  ⟨some 12, .mv (.t 30), none, [4, 0, 1, 2, 3, 4]⟩]
def r26_6 : List AOper := [
  ⟨some 31, .mv (.t 8), none, []⟩,
  ⟨some 32, .bin .geq (.t 31) (.c (.int .i64 8)), none, [0]⟩]
def r26_7 : List AOper := [
  ⟨some 33, .mv (.t 8), none, []⟩,
  ⟨some 34, .bin .geq (.t 33) (.c (.int .i64 50)), none, [0]⟩]
def r26_8 : List AOper := [
  ⟨some 35, .mv (.t 0), none, []⟩,
  ⟨some 36, .mv (.t 10), none, []⟩,
  ⟨some 37, .callF 37 [(.t 35), (.t 36), (.t 9)], none, [0, 1]⟩,
  ⟨some 10, .mv (.t 37), none, [2, 2, 0, 1, 2]⟩]
def r26_9 : List AOper := [
  ⟨some 38, .mv (.t 0), none, []⟩,
  ⟨some 39, .mv (.t 11), none, []⟩,
  ⟨some 40, .callF 37 [(.t 38), (.t 39), (.t 9)], none, [0, 1]⟩,
  ⟨some 11, .mv (.t 40), none, [2, 2, 0, 1, 2]⟩]
def r26_10 : List AOper := [
  ⟨some 41, .mv (.t 0), none, []⟩,
  ⟨some 42, .mv (.t 12), none, []⟩,
  ⟨some 43, .callF 37 [(.t 41), (.t 42), (.t 9)], none, [0, 1]⟩,
  ⟨some 12, .mv (.t 43), none, [2, 2, 0, 1, 2]⟩]
def r26_11 : List AOper := [
  ⟨some 44, .mv (.t 0), none, []⟩,
  ⟨some 45, .mv (.t 10), none, []⟩,
  ⟨some 46, .mv (.t 11), none, []⟩,
  ⟨some 47, .mv (.t 12), none, []⟩,
  ⟨some 48, .callF 38 [(.t 44), (.t 45), (.t 46), (.t 47), (.t 9)], none, [0, 1, 2, 3]⟩,
  ⟨some 11, .mv (.t 48), none, [4, 4, 0, 1, 2, 3, 4]⟩]
def r26_12 : List AOper := [
  ⟨some 49, .load none (.t 9), none, []⟩]
def r26_14 : List AOper := [
  ⟨some 52, .bin .eql (.t 49) (.c (.int .i64 0)), none, []⟩,
  ⟨some 51, .mv (.t 52), none, [0]⟩]
def r26_15 : List AOper := [
  ⟨some 53, .mv (.t 11), none, []⟩,
  ⟨some 6, .mv (.t 53), none, [0, 0]⟩,
  ⟨some 7, .mv (.c (.int .i64 1)), none, [1, 0, 1]⟩]
def r26_16 : List AOper := [
  ⟨some 55, .bin .eql (.t 49) (.c (.int .i64 12)), none, []⟩,
  ⟨some 54, .mv (.t 55), none, [0]⟩]
def r26_17 : List AOper := [
  ⟨some 56, .mv (.t 11), none, []⟩,
  ⟨some 6, .mv (.t 56), none, [0, 0]⟩,
  ⟨some 7, .mv (.c (.int .i64 2)), none, [1, 0, 1]⟩]
def r26_13 : List AOper := [
  ⟨some 50, .mv (.t 11), none, []⟩,
  ⟨some 6, .mv (.t 50), none, [0, 0]⟩,
  ⟨some 7, .mv (.c (.int .i64 0)), none, [1, 0, 1]⟩]
def k26 : List (List Nat) := [[0, 1, 2], [0, 1, 8], [0, 1, 8, 9], [0, 1, 8, 9, 10], [0, 1, 8, 9, 10, 11], [0, 8, 9, 10, 11, 12], [0, 8, 9, 10, 11, 12, 32], [0, 9, 10, 11, 12, 34], [0, 9, 10, 11, 12], [0, 9, 10, 11, 12], [0, 9, 10, 11, 12], [9, 11], [11, 49], [6, 7], [11, 49, 51], [6, 7], [11, 54], [6, 7]]
def f26 : AFunc := { ntmps := 57, results := [.tmp 6, .tmp 7], body := (
  .seq (
  .region false r26_0 [0, 1, 2]) (
  .seq (
  .region false r26_1 [0, 1, 8]) (
  .seq (
  .region false r26_2 [0, 1, 8, 9]) (
  .seq (
  .region false r26_3 [0, 1, 8, 9, 10]) (
  .seq (
  .region false r26_4 [0, 1, 8, 9, 10, 11]) (
  .seq (
  .region false r26_5 [0, 8, 9, 10, 11, 12]) (
  .seq (
  .seq (
  .region false r26_6 [0, 8, 9, 10, 11, 12, 32]) (
  .cond (.t 32) (
    .seq (
    .seq (
    .region false r26_7 [0, 9, 10, 11, 12, 34]) (
    .cond (.t 34) (
      .seq (
      .region false r26_8 [0, 9, 10, 11, 12]) (
      .seq (
      .region false r26_9 [0, 9, 10, 11, 12]) (
      .region false r26_10 [0, 9, 10, 11, 12]))) (
      .skip))) (
    .region false r26_11 [9, 11])) (
    .skip))) (
  .seq (
  .region false r26_12 [11, 49]) (
  .block 0 (
    .seq (
    .region false r26_14 [11, 49, 51]) (
    .cond (.t 51) (
      .seq (
      .region false r26_15 [6, 7]) (
      .ret)) (
      .seq (
      .region false r26_16 [11, 54]) (
      .cond (.t 54) (
        .seq (
        .region false r26_17 [6, 7]) (
        .ret)) (
        .seq (
        .region false r26_13 [6, 7]) (
        .ret))))))))))))))) }
theorem c26 : cfunc Try.prog (kof k26) Try.f26 = some f26 := by kernel_rfl

/-- slices.reverseRangeOrdered[string] -/
def r27_0 : List AOper := [
  ⟨some 8, .mv (.t 1), none, []⟩,
  ⟨some 6, .mv (.t 8), none, [0, 0]⟩]
def r27_1 : List AOper := [
  ⟨some 9, .mv (.t 2), none, []⟩,
  ⟨some 10, .bin .sub (.t 9) (.c (.int .i64 1)), none, [0]⟩,
  ⟨some 7, .mv (.t 10), none, [1, 0, 1]⟩]
def r27_2 : List AOper := [
  ⟨some 11, .mv (.t 6), none, []⟩,
  ⟨some 12, .mv (.t 7), none, []⟩,
  ⟨some 13, .bin .lss (.t 11) (.t 12), none, [0, 1]⟩]
def r27_3 : List AOper := [
  ⟨some 14, .mv (.t 0), none, []⟩,
  ⟨some 15, .mv (.t 6), none, []⟩,
  ⟨some 16, .mv (.t 0), none, []⟩,
  ⟨some 17, .mv (.t 7), none, []⟩,
  ⟨some 18, .mv (.t 0), none, []⟩,
  ⟨some 19, .mv (.t 7), none, []⟩,
  ⟨some 20, .iaddr 1 (.t 18) (.t 19), none, [4, 5]⟩,
  ⟨some 21, .load none (.t 20), none, [6]⟩,
  ⟨some 22, .mv (.t 0), none, []⟩,
  ⟨some 23, .mv (.t 6), none, []⟩,
  ⟨some 24, .iaddr 1 (.t 22) (.t 23), none, [8, 9]⟩,
  ⟨some 25, .load none (.t 24), none, [10]⟩,
  ⟨some 26, .iaddr 1 (.t 14) (.t 15), none, [0, 1, 0, 1, 4, 5, 6, 7, 11]⟩,
  ⟨none, .store 1 (.t 26) (.t 21), none, [12, 7, 0, 1, 4, 5, 6, 7, 11]⟩,
  ⟨some 27, .iaddr 1 (.t 16) (.t 17), none, [2, 3, 0, 1, 2, 3, 4, 5, 6, 7, 8, 9, 10, 11, 12, 13]⟩,
  ⟨none, .store 1 (.t 27) (.t 25), none, [14, 11, 13, 0, 1, 2, 3, 4, 5, 6, 7, 8, 9, 10, 11, 12, 13]⟩]
def r27_4 : List AOper := [
  ⟨some 28, .mv (.t 6), none, []⟩,
  ⟨some 29, .bin .add (.t 28) (.c (.int .i64 1)), none, [0]⟩,
  ⟨some 6, .mv (.t 29), none, [1, 0, 1]⟩]
def r27_5 : List AOper := [
  ⟨some 30, .mv (.t 7), none, []⟩,
  ⟨some 31, .bin .sub (.t 30) (.c (.int .i64 1)), none, [0]⟩,
  ⟨some 7, .mv (.t 31), none, [1, 0, 1]⟩]
def l27_0 : ACode :=
  .seq (
  .seq (
  .region false r27_2 [0, 6, 7, 13]) (
  .cond (.t 13) (
    .skip) (
    .exit 0))) (
  .block 1 (
    .seq (
    .region true r27_3 [0, 6, 7]) (
    .seq (
    .region false r27_4 [0, 6, 7]) (
    .region false r27_5 [0, 6, 7]))))
def m27_3 : List Nat := [0, 0, 0, 0, 0, 0, 48, 112, 0, 0, 768, 1792, 4083, 8179, 16383, 32767]
theorem d27_3 : okDraw r27_3 m27_3 = true := by kernel_rfl
def k27 : List (List Nat) := [[0, 2, 6], [0, 6, 7], [0, 6, 7, 13], [0, 6, 7], [0, 6, 7], [0, 6, 7]]
def f27 : AFunc := { ntmps := 32, results := [], body := (
  .seq (
  .region false r27_0 [0, 2, 6]) (
  .seq (
  .region false r27_1 [0, 6, 7]) (
  .block 0 (
    .loop l27_0)))) }
theorem c27 : cfunc Try.prog (kof k27) Try.f27 = some f27 := by kernel_rfl

/-- slices.partialInsertionSortOrdered[string] -/
def r28_0 : List AOper := [
  ⟨some 6, .mv (.c (.bool false)), none, []⟩]
def r28_1 : List AOper := [
  ⟨some 11, .mv (.t 1), none, []⟩,
  ⟨some 12, .bin .add (.t 11) (.c (.int .i64 1)), none, [0]⟩,
  ⟨some 7, .mv (.t 12), none, [1, 0, 1]⟩]
def r28_2 : List AOper := [
  ⟨some 8, .mv (.c (.int .i64 0)), none, []⟩]
def r28_3 : List AOper := [
  ⟨some 13, .mv (.t 8), none, []⟩,
  ⟨some 14, .bin .lss (.t 13) (.c (.int .i64 5)), none, [0]⟩]
def r28_5 : List AOper := [
  ⟨some 17, .mv (.t 7), none, []⟩,
  ⟨some 18, .mv (.t 2), none, []⟩,
  ⟨some 19, .bin .lss (.t 17) (.t 18), none, [0, 1]⟩,
  ⟨some 20, .mv (.t 19), none, [2]⟩,
  ⟨some 21, .mv (.t 0), some (20, true), [3]⟩,
  ⟨some 22, .mv (.t 7), some (20, true), [3]⟩,
  ⟨some 23, .iaddr 1 (.t 21) (.t 22), some (20, true), [4, 5, 3]⟩,
  ⟨some 24, .load none (.t 23), some (20, true), [6, 3]⟩,
  ⟨some 25, .mv (.t 0), some (20, true), [3]⟩,
  ⟨some 26, .mv (.t 7), some (20, true), [3]⟩,
  ⟨some 27, .bin .sub (.t 26) (.c (.int .i64 1)), some (20, true), [9, 3]⟩,
  ⟨some 28, .iaddr 1 (.t 25) (.t 27), some (20, true), [8, 10, 3]⟩,
  ⟨some 29, .load none (.t 28), some (20, true), [11, 3]⟩,
  ⟨some 30, .callF 29 [(.t 24), (.t 29)], some (20, true), [7, 12, 3, 3]⟩,
  ⟨some 31, .un .not (.t 30), some (20, true), [13, 3]⟩,
  ⟨some 32, .pick (.t 20) (.t 31) (.c (.bool false)), none, [3, 14]⟩]
def r28_6 : List AOper := [
  ⟨some 33, .mv (.t 7), none, []⟩,
  ⟨some 34, .bin .add (.t 33) (.c (.int .i64 1)), none, [0]⟩,
  ⟨some 7, .mv (.t 34), none, [1, 0, 1]⟩]
def l28_0 : ACode :=
  .seq (
  .seq (
  .region true r28_5 [0, 1, 2, 7, 8, 32]) (
  .cond (.t 32) (
    .skip) (
    .exit 2))) (
  .block 3 (
    .region false r28_6 [0, 1, 2, 7, 8]))
def r28_7 : List AOper := [
  ⟨some 35, .mv (.t 7), none, []⟩,
  ⟨some 36, .mv (.t 2), none, []⟩,
  ⟨some 37, .bin .eql (.t 35) (.t 36), none, [0, 1]⟩]
def r28_8 : List AOper := [
  ⟨some 6, .mv (.c (.bool true)), none, []⟩]
def r28_9 : List AOper := [
  ⟨some 38, .mv (.t 2), none, []⟩,
  ⟨some 39, .mv (.t 1), none, []⟩,
  ⟨some 40, .bin .sub (.t 38) (.t 39), none, [0, 1]⟩,
  ⟨some 41, .bin .lss (.t 40) (.c (.int .i64 50)), none, [2]⟩]
def r28_10 : List AOper := [
  ⟨some 6, .mv (.c (.bool false)), none, []⟩]
def r28_11 : List AOper := [
  ⟨some 42, .mv (.t 0), none, []⟩,
  ⟨some 43, .mv (.t 7), none, []⟩,
  ⟨some 44, .mv (.t 0), none, []⟩,
  ⟨some 45, .mv (.t 7), none, []⟩,
  ⟨some 46, .bin .sub (.t 45) (.c (.int .i64 1)), none, [3]⟩,
  ⟨some 47, .mv (.t 0), none, []⟩,
  ⟨some 48, .mv (.t 7), none, []⟩,
  ⟨some 49, .bin .sub (.t 48) (.c (.int .i64 1)), none, [6]⟩,
  ⟨some 50, .iaddr 1 (.t 47) (.t 49), none, [5, 7]⟩,
  ⟨some 51, .load none (.t 50), none, [8]⟩,
  ⟨some 52, .mv (.t 0), none, []⟩,
  ⟨some 53, .mv (.t 7), none, []⟩,
  ⟨some 54, .iaddr 1 (.t 52) (.t 53), none, [10, 11]⟩,
  ⟨some 55, .load none (.t 54), none, [12]⟩,
  ⟨some 56, .iaddr 1 (.t 42) (.t 43), none, [0, 1, 0, 1, 5, 6, 7, 8, 9, 13]⟩,
  ⟨none, .store 1 (.t 56) (.t 51), none, [14, 9, 0, 1, 5, 6, 7, 8, 9, 13]⟩,
  ⟨some 57, .iaddr 1 (.t 44) (.t 46), none, [2, 4, 0, 1, 2, 3, 4, 5, 6, 7, 8, 9, 10, 11, 12, 13, 14, 15]⟩,
  ⟨none, .store 1 (.t 57) (.t 55), none, [16, 13, 15, 0, 1, 2, 3, 4, 5, 6, 7, 8, 9, 10, 11, 12, 13, 14, 15]⟩]
def r28_12 : List AOper := [
  ⟨some 58, .mv (.t 7), none, []⟩,
  ⟨some 59, .mv (.t 1), none, []⟩,
  ⟨some 60, .bin .sub (.t 58) (.t 59), none, [0, 1]⟩,
  ⟨some 61, .bin .geq (.t 60) (.c (.int .i64 2)), none, [2]⟩]
def r28_13 : List AOper := [
  ⟨some 62, .mv (.t 7), none, []⟩,
  ⟨some 63, .bin .sub (.t 62) (.c (.int .i64 1)), none, [0]⟩,
  ⟨some 9, .mv (.t 63), none, [1, 0, 1]⟩]
def r28_14 : List AOper := [
  ⟨some 64, .mv (.t 9), none, []⟩,
  ⟨some 65, .bin .geq (.t 64) (.c (.int .i64 1)), none, [0]⟩]
def r28_16 : List AOper := [
  ⟨some 68, .mv (.t 0), none, []⟩,
  ⟨some 69, .mv (.t 9), none, []⟩,
  ⟨some 70, .iaddr 1 (.t 68) (.t 69), none, [0, 1]⟩,
  ⟨some 71, .load none (.t 70), none, [2]⟩,
  ⟨some 72, .mv (.t 0), none, []⟩,
  ⟨some 73, .mv (.t 9), none, []⟩,
  ⟨some 74, .bin .sub (.t 73) (.c (.int .i64 1)), none, [5]⟩,
  ⟨some 75, .iaddr 1 (.t 72) (.t 74), none, [4, 6]⟩,
  ⟨some 76, .load none (.t 75), none, [7]⟩,
  ⟨some 77, .callF 29 [(.t 71), (.t 76)], none, [3, 8]⟩,
  ⟨some 78, .un .not (.t 77), none, [9]⟩]
def r28_17 : List AOper := [
  ⟨some 79, .mv (.t 0), none, []⟩,
  ⟨some 80, .mv (.t 9), none, []⟩,
  ⟨some 81, .mv (.t 0), none, []⟩,
  ⟨some 82, .mv (.t 9), none, []⟩,
  ⟨some 83, .bin .sub (.t 82) (.c (.int .i64 1)), none, [3]⟩,
  ⟨some 84, .mv (.t 0), none, []⟩,
  ⟨some 85, .mv (.t 9), none, []⟩,
  ⟨some 86, .bin .sub (.t 85) (.c (.int .i64 1)), none, [6]⟩,
  ⟨some 87, .iaddr 1 (.t 84) (.t 86), none, [5, 7]⟩,
  ⟨some 88, .load none (.t 87), none, [8]⟩,
  ⟨some 89, .mv (.t 0), none, []⟩,
  ⟨some 90, .mv (.t 9), none, []⟩,
  ⟨some 91, .iaddr 1 (.t 89) (.t 90), none, [10, 11]⟩,
  ⟨some 92, .load none (.t 91), none, [12]⟩,
  ⟨some 93, .iaddr 1 (.t 79) (.t 80), none, [0, 1, 0, 1, 5, 6, 7, 8, 9, 13]⟩,
  ⟨none, .store 1 (.t 93) (.t 88), none, [14, 9, 0, 1, 5, 6, 7, 8, 9, 13]⟩,
  ⟨some 94, .iaddr 1 (.t 81) (.t 83), none, [2, 4, 0, 1, 2, 3, 4, 5, 6, 7, 8, 9, 10, 11, 12, 13, 14, 15]⟩,
  ⟨none, .store 1 (.t 94) (.t 92), none, [16, 13, 15, 0, 1, 2, 3, 4, 5, 6, 7, 8, 9, 10, 11, 12, 13, 14, 15]⟩]
def r28_15 : List AOper := [
  ⟨some 66, .mv (.t 9), none, []⟩,
  ⟨some 67, .bin .sub (.t 66) (.c (.int .i64 1)), none, [0]⟩,
  ⟨some 9, .mv (.t 67), none, [1, 0, 1]⟩]
def l28_1 : ACode :=
  .seq (
  .seq (
  .region false r28_14 [0, 1, 2, 7, 8, 9, 65]) (
  .cond (.t 65) (
    .skip) (
    .exit 4))) (
  .seq (
  .block 5 (
    .seq (
    .seq (
    .region true r28_16 [0, 1, 2, 7, 8, 9, 78]) (
    .cond (.t 78) (
      .exit 4) (
      .skip))) (
    .region true r28_17 [0, 1, 2, 7, 8, 9]))) (
  .region false r28_15 [0, 1, 2, 7, 8, 9]))
def r28_18 : List AOper := [
  ⟨some 95, .mv (.t 2), none, []⟩,
  ⟨some 96, .mv (.t 7), none, []⟩,
  ⟨some 97, .bin .sub (.t 95) (.t 96), none, [0, 1]⟩,
  ⟨some 98, .bin .geq (.t 97) (.c (.int .i64 2)), none, [2]⟩]
def r28_19 : List AOper := [
  ⟨some 99, .mv (.t 7), none, []⟩,
  ⟨some 100, .bin .add (.t 99) (.c (.int .i64 1)), none, [0]⟩,
  ⟨some 10, .mv (.t 100), none, [1, 0, 1]⟩]
def r28_20 : List AOper := [
  ⟨some 101, .mv (.t 10), none, []⟩,
  ⟨some 102, .mv (.t 2), none, []⟩,
  ⟨some 103, .bin .lss (.t 101) (.t 102), none, [0, 1]⟩]
def r28_22 : List AOper := [
  ⟨some 106, .mv (.t 0), none, []⟩,
  ⟨some 107, .mv (.t 10), none, []⟩,
  ⟨some 108, .iaddr 1 (.t 106) (.t 107), none, [0, 1]⟩,
  ⟨some 109, .load none (.t 108), none, [2]⟩,
  ⟨some 110, .mv (.t 0), none, []⟩,
  ⟨some 111, .mv (.t 10), none, []⟩,
  ⟨some 112, .bin .sub (.t 111) (.c (.int .i64 1)), none, [5]⟩,
  ⟨some 113, .iaddr 1 (.t 110) (.t 112), none, [4, 6]⟩,
  ⟨some 114, .load none (.t 113), none, [7]⟩,
  ⟨some 115, .callF 29 [(.t 109), (.t 114)], none, [3, 8]⟩,
  ⟨some 116, .un .not (.t 115), none, [9]⟩]
def r28_23 : List AOper := [
  ⟨some 117, .mv (.t 0), none, []⟩,
  ⟨some 118, .mv (.t 10), none, []⟩,
  ⟨some 119, .mv (.t 0), none, []⟩,
  ⟨some 120, .mv (.t 10), none, []⟩,
  ⟨some 121, .bin .sub (.t 120) (.c (.int .i64 1)), none, [3]⟩,
  ⟨some 122, .mv (.t 0), none, []⟩,
  ⟨some 123, .mv (.t 10), none, []⟩,
  ⟨some 124, .bin .sub (.t 123) (.c (.int .i64 1)), none, [6]⟩,
  ⟨some 125, .iaddr 1 (.t 122) (.t 124), none, [5, 7]⟩,
  ⟨some 126, .load none (.t 125), none, [8]⟩,
  ⟨some 127, .mv (.t 0), none, []⟩,
  ⟨some 128, .mv (.t 10), none, []⟩,
  ⟨some 129, .iaddr 1 (.t 127) (.t 128), none, [10, 11]⟩,
  ⟨some 130, .load none (.t 129), none, [12]⟩,
  ⟨some 131, .iaddr 1 (.t 117) (.t 118), none, [0, 1, 0, 1, 5, 6, 7, 8, 9, 13]⟩,
  ⟨none, .store 1 (.t 131) (.t 126), none, [14, 9, 0, 1, 5, 6, 7, 8, 9, 13]⟩,
  ⟨some 132, .iaddr 1 (.t 119) (.t 121), none, [2, 4, 0, 1, 2, 3, 4, 5, 6, 7, 8, 9, 10, 11, 12, 13, 14, 15]⟩,
  ⟨none, .store 1 (.t 132) (.t 130), none, [16, 13, 15, 0, 1, 2, 3, 4, 5, 6, 7, 8, 9, 10, 11, 12, 13, 14, 15]⟩]
def r28_21 : List AOper := [
  ⟨some 104, .mv (.t 10), none, []⟩,
  ⟨some 105, .bin .add (.t 104) (.c (.int .i64 1)), none, [0]⟩,
  ⟨some 10, .mv (.t 105), none, [1, 0, 1]⟩]
def l28_2 : ACode :=
  .seq (
  .seq (
  .region false r28_20 [0, 1, 2, 7, 8, 10, 103]) (
  .cond (.t 103) (
    .skip) (
    .exit 6))) (
  .seq (
  .block 7 (
    .seq (
    .seq (
    .region true r28_22 [0, 1, 2, 7, 8, 10, 116]) (
    .cond (.t 116) (
      .exit 6) (
      .skip))) (
    .region true r28_23 [0, 1, 2, 7, 8, 10]))) (
  .region false r28_21 [0, 1, 2, 7, 8, 10]))
def r28_4 : List AOper := [
  ⟨some 15, .mv (.t 8), none, []⟩,
  ⟨some 16, .bin .add (.t 15) (.c (.int .i64 1)), none, [0]⟩,
  ⟨some 8, .mv (.t 16), none, [1, 0, 1]⟩]
def l28_3 : ACode :=
  .seq (
  .seq (
  .region false r28_3 [0, 1, 2, 7, 8, 14]) (
  .cond (.t 14) (
    .skip) (
    .exit 0))) (
  .seq (
  .block 1 (
    .seq (
    .block 2 (
      .loop l28_0)) (
    .seq (
    .seq (
    .region false r28_7 [0, 1, 2, 7, 8, 37]) (
    .cond (.t 37) (
      .seq (
      .region false r28_8 [6]) (
      .ret)) (
      .skip))) (
    .seq (
    .seq (
    .region false r28_9 [0, 1, 2, 7, 8, 41]) (
    .cond (.t 41) (
      .seq (
      .region false r28_10 [6]) (
      .ret)) (
      .skip))) (
    .seq (
    .region true r28_11 [0, 1, 2, 7, 8]) (
    .seq (
    .seq (
    .region false r28_12 [0, 1, 2, 7, 8, 61]) (
    .cond (.t 61) (
      .seq (
      .region false r28_13 [0, 1, 2, 7, 8, 9]) (
      .block 4 (
        .loop l28_1))) (
      .skip))) (
    .seq (
    .region false r28_18 [0, 1, 2, 7, 8, 98]) (
    .cond (.t 98) (
      .seq (
      .region false r28_19 [0, 1, 2, 7, 8, 10]) (
      .block 6 (
        .loop l28_2))) (
      .skip))))))))) (
  .region false r28_4 [0, 1, 2, 7, 8]))
def r28_24 : List AOper := [
  ⟨some 6, .mv (.c (.bool false)), none, []⟩]
def m28_5 : List Nat := [0, 0, 3, 7, 15, 15, 63, 127, 15, 15, 527, 1807, 3855, 8191, 16383, 32767]
theorem d28_5 : okDraw r28_5 m28_5 = true := by kernel_rfl
def m28_11 : List Nat := [0, 0, 0, 0, 8, 0, 0, 64, 224, 480, 0, 0, 3072, 7168, 16355, 32739, 65535, 131071]
theorem d28_11 : okDraw r28_11 m28_11 = true := by kernel_rfl
def m28_16 : List Nat := [0, 0, 3, 7, 0, 0, 32, 112, 240, 511, 1023]
theorem d28_16 : okDraw r28_16 m28_16 = true := by kernel_rfl
def m28_17 : List Nat := [0, 0, 0, 0, 8, 0, 0, 64, 224, 480, 0, 0, 3072, 7168, 16355, 32739, 65535, 131071]
theorem d28_17 : okDraw r28_17 m28_17 = true := by kernel_rfl
def m28_22 : List Nat := [0, 0, 3, 7, 0, 0, 32, 112, 240, 511, 1023]
theorem d28_22 : okDraw r28_22 m28_22 = true := by kernel_rfl
def m28_23 : List Nat := [0, 0, 0, 0, 8, 0, 0, 64, 224, 480, 0, 0, 3072, 7168, 16355, 32739, 65535, 131071]
theorem d28_23 : okDraw r28_23 m28_23 = true := by kernel_rfl
def k28 : List (List Nat) := [[0, 1, 2], [0, 1, 2, 7], [0, 1, 2, 7, 8], [0, 1, 2, 7, 8, 14], [0, 1, 2, 7, 8], [0, 1, 2, 7, 8, 32], [0, 1, 2, 7, 8], [0, 1, 2, 7, 8, 37], [6], [0, 1, 2, 7, 8, 41], [6], [0, 1, 2, 7, 8], [0, 1, 2, 7, 8, 61], [0, 1, 2, 7, 8, 9], [0, 1, 2, 7, 8, 9, 65], [0, 1, 2, 7, 8, 9], [0, 1, 2, 7, 8, 9, 78], [0, 1, 2, 7, 8, 9], [0, 1, 2, 7, 8, 98], [0, 1, 2, 7, 8, 10], [0, 1, 2, 7, 8, 10, 103], [0, 1, 2, 7, 8, 10], [0, 1, 2, 7, 8, 10, 116], [0, 1, 2, 7, 8, 10], [6]]
def f28 : AFunc := { ntmps := 133, results := [.tmp 6], body := (
  .seq (
  .region false r28_0 [0, 1, 2]) (
  .seq (
  .region false r28_1 [0, 1, 2, 7]) (
  .seq (
  .seq (
  .region false r28_2 [0, 1, 2, 7, 8]) (
  .block 0 (
    .loop l28_3))) (
  .seq (
  .region false r28_24 [6]) (
  .ret))))) }
theorem c28 : cfunc Try.prog (kof k28) Try.f28 = some f28 := by kernel_rfl

/-- cmp.Less[string] -/
def r29_0 : List AOper := [
  ⟨some 4, .mv (.c (.bool false)), none, []⟩]
def r29_1 : List AOper := [
  ⟨some 5, .mv (.t 0), none, []⟩,
  ⟨some 6, .callF 39 [(.t 5)], none, [0]⟩,
  ⟨some 7, .mv (.t 6), none, [1, 1]⟩,
  ⟨some 8, .mv (.t 1), some (7, true), [2]⟩,
  ⟨some 9, .callF 39 [(.t 8)], some (7, true), [3, 2, 2]⟩,
  ⟨some 10, .un .not (.t 9), some (7, true), [4, 2]⟩,
  ⟨some 11, .pick (.t 7) (.t 10) (.c (.bool false)), none, [2, 5]⟩,
  ⟨some 12, .mv (.t 11), none, [6, 4]⟩,
  ⟨some 13, .mv (.t 0), some (12, false), [7]⟩,
  ⟨some 14, .mv (.t 1), some (12, false), [7]⟩,
  ⟨some 15, .bin .lss (.t 13) (.t 14), some (12, false), [8, 9, 7]⟩,
  ⟨some 16, .pick (.t 12) (.c (.bool true)) (.t 15), none, [7, 10]⟩,
  ⟨some 4, .mv (.t 16), none, [11, 7, 0, 1, 2, 3, 4, 5, 6, 7, 8, 9, 10, 11]⟩]
def k29 : List (List Nat) := [[0, 1], [4]]
def f29 : AFunc := { ntmps := 17, results := [.tmp 4], body := (
  .seq (
  .region false r29_0 [0, 1]) (
  .seq (
  .region false r29_1 [4]) (
  .ret))) }
theorem c29 : cfunc Try.prog (kof k29) Try.f29 = some f29 := by kernel_rfl

/-- slices.partitionEqualOrdered[string] -/
def r30_0 : List AOper := [
  ⟨some 8, .mv (.c (.int .i64 0)), none, []⟩]
def r30_1 : List AOper := [
  ⟨some 11, .mv (.t 0), none, []⟩,
  ⟨some 12, .mv (.t 1), none, []⟩,
  ⟨some 13, .mv (.t 0), none, []⟩,
  ⟨some 14, .mv (.t 3), none, []⟩,
  ⟨some 15, .mv (.t 0), none, []⟩,
  ⟨some 16, .mv (.t 3), none, []⟩,
  ⟨some 17, .iaddr 1 (.t 15) (.t 16), none, [4, 5]⟩,
  ⟨some 18, .load none (.t 17), none, [6]⟩,
  ⟨some 19, .mv (.t 0), none, []⟩,
  ⟨some 20, .mv (.t 1), none, []⟩,
  ⟨some 21, .iaddr 1 (.t 19) (.t 20), none, [8, 9]⟩,
  ⟨some 22, .load none (.t 21), none, [10]⟩,
  ⟨some 23, .iaddr 1 (.t 11) (.t 12), none, [0, 1, 0, 1, 4, 5, 6, 7, 11]⟩,
  ⟨none, .store 1 (.t 23) (.t 18), none, [12, 7, 0, 1, 4, 5, 6, 7, 11]⟩,
  ⟨some 24, .iaddr 1 (.t 13) (.t 14), none, [2, 3, 0, 1, 2, 3, 4, 5, 6, 7, 8, 9, 10, 11, 12, 13]⟩,
  ⟨none, .store 1 (.t 24) (.t 22), none, [14, 11, 13, 0, 1, 2, 3, 4, 5, 6, 7, 8, 9, 10, 11, 12, 13]⟩]
def r30_2 : List AOper := [
  ⟨some 25, .mv (.t 1), none, []⟩,
  ⟨some 26, .bin .add (.t 25) (.c (.int .i64 1)), none, [0]⟩,
  ⟨some 27, .mv (.t 2), none, []⟩,
  ⟨some 28, .bin .sub (.t 27) (.c (.int .i64 1)), none, [2]⟩,
  ⟨some 9, .mv (.t 26), none, [1, 0, 1]⟩,
  ⟨some 10, .mv (.t 28), none, [3, 4, 0, 1, 2, 3, 4]⟩]
def r30_3 : List AOper := [
  ⟨some 29, .mv (.t 9), none, []⟩,
  ⟨some 30, .mv (.t 10), none, []⟩,
  ⟨some 31, .bin .leq (.t 29) (.t 30), none, [0, 1]⟩,
  ⟨some 32, .mv (.t 31), none, [2]⟩,
  ⟨some 33, .mv (.t 0), some (32, true), [3]⟩,
  ⟨some 34, .mv (.t 1), some (32, true), [3]⟩,
  ⟨some 35, .iaddr 1 (.t 33) (.t 34), some (32, true), [4, 5, 3]⟩,
  ⟨some 36, .load none (.t 35), some (32, true), [6, 3]⟩,
  ⟨some 37, .mv (.t 0), some (32, true), [3]⟩,
  ⟨some 38, .mv (.t 9), some (32, true), [3]⟩,
  ⟨some 39, .iaddr 1 (.t 37) (.t 38), some (32, true), [8, 9, 3]⟩,
  ⟨some 40, .load none (.t 39), some (32, true), [10, 3]⟩,
  ⟨some 41, .callF 29 [(.t 36), (.t 40)], some (32, true), [7, 11, 3, 3]⟩,
  ⟨some 42, .un .not (.t 41), some (32, true), [12, 3]⟩,
  ⟨some 43, .pick (.t 32) (.t 42) (.c (.bool false)), none, [3, 13]⟩]
def r30_4 : List AOper := [
  ⟨some 44, .mv (.t 9), none, []⟩,
  ⟨some 45, .bin .add (.t 44) (.c (.int .i64 1)), none, [0]⟩,
  ⟨some 9, .mv (.t 45), none, [1, 0, 1]⟩]
def l30_0 : ACode :=
  .seq (
  .seq (
  .region true r30_3 [0, 1, 9, 10, 43]) (
  .cond (.t 43) (
    .skip) (
    .exit 2))) (
  .block 3 (
    .region false r30_4 [0, 1, 9, 10]))
def r30_5 : List AOper := [
  ⟨some 46, .mv (.t 9), none, []⟩,
  ⟨some 47, .mv (.t 10), none, []⟩,
  ⟨some 48, .bin .leq (.t 46) (.t 47), none, [0, 1]⟩,
  ⟨some 49, .mv (.t 48), none, [2]⟩,
  ⟨some 50, .mv (.t 0), some (49, true), [3]⟩,
  ⟨some 51, .mv (.t 1), some (49, true), [3]⟩,
  ⟨some 52, .iaddr 1 (.t 50) (.t 51), some (49, true), [4, 5, 3]⟩,
  ⟨some 53, .load none (.t 52), some (49, true), [6, 3]⟩,
  ⟨some 54, .mv (.t 0), some (49, true), [3]⟩,
  ⟨some 55, .mv (.t 10), some (49, true), [3]⟩,
  ⟨some 56, .iaddr 1 (.t 54) (.t 55), some (49, true), [8, 9, 3]⟩,
  ⟨some 57, .load none (.t 56), some (49, true), [10, 3]⟩,
  ⟨some 58, .callF 29 [(.t 53), (.t 57)], some (49, true), [7, 11, 3, 3]⟩,
  ⟨some 59, .pick (.t 49) (.t 58) (.c (.bool false)), none, [3, 12]⟩]
def r30_6 : List AOper := [
  ⟨some 60, .mv (.t 10), none, []⟩,
  ⟨some 61, .bin .sub (.t 60) (.c (.int .i64 1)), none, [0]⟩,
  ⟨some 10, .mv (.t 61), none, [1, 0, 1]⟩]
def l30_1 : ACode :=
  .seq (
  .seq (
  .region true r30_5 [0, 1, 9, 10, 59]) (
  .cond (.t 59) (
    .skip) (
    .exit 4))) (
  .block 5 (
    .region false r30_6 [0, 1, 9, 10]))
def r30_7 : List AOper := [
  ⟨some 62, .mv (.t 9), none, []⟩,
  ⟨some 63, .mv (.t 10), none, []⟩,
  ⟨some 64, .bin .gtr (.t 62) (.t 63), none, [0, 1]⟩]
def r30_8 : List AOper := [
  ⟨some 65, .mv (.t 0), none, []⟩,
  ⟨some 66, .mv (.t 9), none, []⟩,
  ⟨some 67, .mv (.t 0), none, []⟩,
  ⟨some 68, .mv (.t 10), none, []⟩,
  ⟨some 69, .mv (.t 0), none, []⟩,
  ⟨some 70, .mv (.t 10), none, []⟩,
  ⟨some 71, .iaddr 1 (.t 69) (.t 70), none, [4, 5]⟩,
  ⟨some 72, .load none (.t 71), none, [6]⟩,
  ⟨some 73, .mv (.t 0), none, []⟩,
  ⟨some 74, .mv (.t 9), none, []⟩,
  ⟨some 75, .iaddr 1 (.t 73) (.t 74), none, [8, 9]⟩,
  ⟨some 76, .load none (.t 75), none, [10]⟩,
  ⟨some 77, .iaddr 1 (.t 65) (.t 66), none, [0, 1, 0, 1, 4, 5, 6, 7, 11]⟩,
  ⟨none, .store 1 (.t 77) (.t 72), none, [12, 7, 0, 1, 4, 5, 6, 7, 11]⟩,
  ⟨some 78, .iaddr 1 (.t 67) (.t 68), none, [2, 3, 0, 1, 2, 3, 4, 5, 6, 7, 8, 9, 10, 11, 12, 13]⟩,
  ⟨none, .store 1 (.t 78) (.t 76), none, [14, 11, 13, 0, 1, 2, 3, 4, 5, 6, 7, 8, 9, 10, 11, 12, 13]⟩]
def r30_9 : List AOper := [
  ⟨some 79, .mv (.t 9), none, []⟩,
  ⟨some 80, .bin .add (.t 79) (.c (.int .i64 1)), none, [0]⟩,
  ⟨some 9, .mv (.t 80), none, [1, 0, 1]⟩]
def r30_10 : List AOper := [
  ⟨some 81, .mv (.t 10), none, []⟩,
  ⟨some 82, .bin .sub (.t 81) (.c (.int .i64 1)), none, [0]⟩,
  ⟨some 10, .mv (.t 82), none, [1, 0, 1]⟩]
def l30_2 : ACode :=
  .block 1 (
    .seq (
    .block 2 (
      .loop l30_0)) (
    .seq (
    .block 4 (
      .loop l30_1)) (
    .seq (
    .seq (
    .region false r30_7 [0, 1, 9, 10, 64]) (
    .cond (.t 64) (
      .exit 0) (
      .skip))) (
    .seq (
    .region true r30_8 [0, 1, 9, 10]) (
    .seq (
    .region false r30_9 [0, 1, 9, 10]) (
    .region false r30_10 [0, 1, 9, 10]))))))
def r30_11 : List AOper := [
  ⟨some 83, .mv (.t 9), none, []⟩,
  ⟨some 8, .mv (.t 83), none, [0, 0]⟩]
def m30_1 : List Nat := [0, 0, 0, 0, 0, 0, 48, 112, 0, 0, 768, 1792, 4083, 8179, 16383, 32767]
theorem d30_1 : okDraw r30_1 m30_1 = true := by kernel_rfl
def m30_3 : List Nat := [0, 0, 3, 7, 15, 15, 63, 127, 15, 15, 783, 1807, 4095, 8191, 16383]
theorem d30_3 : okDraw r30_3 m30_3 = true := by kernel_rfl
def m30_5 : List Nat := [0, 0, 3, 7, 15, 15, 63, 127, 15, 15, 783, 1807, 4095, 8191]
theorem d30_5 : okDraw r30_5 m30_5 = true := by kernel_rfl
def m30_8 : List Nat := [0, 0, 0, 0, 0, 0, 48, 112, 0, 0, 768, 1792, 4083, 8179, 16383, 32767]
theorem d30_8 : okDraw r30_8 m30_8 = true := by kernel_rfl
def k30 : List (List Nat) := [[0, 1, 2, 3], [0, 1, 2], [0, 1, 9, 10], [0, 1, 9, 10, 43], [0, 1, 9, 10], [0, 1, 9, 10, 59], [0, 1, 9, 10], [0, 1, 9, 10, 64], [0, 1, 9, 10], [0, 1, 9, 10], [0, 1, 9, 10], [8]]
def f30 : AFunc := { ntmps := 84, results := [.tmp 8], body := (
  .seq (
  .region false r30_0 [0, 1, 2, 3]) (
  .seq (
  .region true r30_1 [0, 1, 2]) (
  .seq (
  .region false r30_2 [0, 1, 9, 10]) (
  .seq (
  .block 0 (
    .loop l30_2)) (
  .seq (
  .region false r30_11 [8]) (
  .ret)))))) }
theorem c30 : cfunc Try.prog (kof k30) Try.f30 = some f30 := by kernel_rfl

/-- slices.partitionOrdered[string] -/
def r31_0 : List AOper := [
  ⟨some 8, .mv (.c (.int .i64 0)), none, []⟩,
  ⟨some 9, .mv (.c (.bool false)), none, [0]⟩]
def r31_1 : List AOper := [
  ⟨some 12, .mv (.t 0), none, []⟩,
  ⟨some 13, .mv (.t 1), none, []⟩,
  ⟨some 14, .mv (.t 0), none, []⟩,
  ⟨some 15, .mv (.t 3), none, []⟩,
  ⟨some 16, .mv (.t 0), none, []⟩,
  ⟨some 17, .mv (.t 3), none, []⟩,
  ⟨some 18, .iaddr 1 (.t 16) (.t 17), none, [4, 5]⟩,
  ⟨some 19, .load none (.t 18), none, [6]⟩,
  ⟨some 20, .mv (.t 0), none, []⟩,
  ⟨some 21, .mv (.t 1), none, []⟩,
  ⟨some 22, .iaddr 1 (.t 20) (.t 21), none, [8, 9]⟩,
  ⟨some 23, .load none (.t 22), none, [10]⟩,
  ⟨some 24, .iaddr 1 (.t 12) (.t 13), none, [0, 1, 0, 1, 4, 5, 6, 7, 11]⟩,
  ⟨none, .store 1 (.t 24) (.t 19), none, [12, 7, 0, 1, 4, 5, 6, 7, 11]⟩,
  ⟨some 25, .iaddr 1 (.t 14) (.t 15), none, [2, 3, 0, 1, 2, 3, 4, 5, 6, 7, 8, 9, 10, 11, 12, 13]⟩,
  ⟨none, .store 1 (.t 25) (.t 23), none, [14, 11, 13, 0, 1, 2, 3, 4, 5, 6, 7, 8, 9, 10, 11, 12, 13]⟩]
def r31_2 : List AOper := [
  ⟨some 26, .mv (.t 1), none, []⟩,
  ⟨some 27, .bin .add (.t 26) (.c (.int .i64 1)), none, [0]⟩,
  ⟨some 28, .mv (.t 2), none, []⟩,
  ⟨some 29, .bin .sub (.t 28) (.c (.int .i64 1)), none, [2]⟩,
  ⟨some 10, .mv (.t 27), none, [1, 0, 1]⟩,
  ⟨some 11, .mv (.t 29), none, [3, 4, 0, 1, 2, 3, 4]⟩]
def r31_3 : List AOper := [
  ⟨some 30, .mv (.t 10), none, []⟩,
  ⟨some 31, .mv (.t 11), none, []⟩,
  ⟨some 32, .bin .leq (.t 30) (.t 31), none, [0, 1]⟩,
  ⟨some 33, .mv (.t 32), none, [2]⟩,
  ⟨some 34, .mv (.t 0), some (33, true), [3]⟩,
  ⟨some 35, .mv (.t 10), some (33, true), [3]⟩,
  ⟨some 36, .iaddr 1 (.t 34) (.t 35), some (33, true), [4, 5, 3]⟩,
  ⟨some 37, .load none (.t 36), some (33, true), [6, 3]⟩,
  ⟨some 38, .mv (.t 0), some (33, true), [3]⟩,
  ⟨some 39, .mv (.t 1), some (33, true), [3]⟩,
  ⟨some 40, .iaddr 1 (.t 38) (.t 39), some (33, true), [8, 9, 3]⟩,
  ⟨some 41, .load none (.t 40), some (33, true), [10, 3]⟩,
  ⟨some 42, .callF 29 [(.t 37), (.t 41)], some (33, true), [7, 11, 3, 3]⟩,
  ⟨some 43, .pick (.t 33) (.t 42) (.c (.bool false)), none, [3, 12]⟩]
def r31_4 : List AOper := [
  ⟨some 44, .mv (.t 10), none, []⟩,
  ⟨some 45, .bin .add (.t 44) (.c (.int .i64 1)), none, [0]⟩,
  ⟨some 10, .mv (.t 45), none, [1, 0, 1]⟩]
def l31_0 : ACode :=
  .seq (
  .seq (
  .region true r31_3 [0, 1, 10, 11, 43]) (
  .cond (.t 43) (
    .skip) (
    .exit 0))) (
  .block 1 (
    .region false r31_4 [0, 1, 10, 11]))
def r31_5 : List AOper := [
  ⟨some 46, .mv (.t 10), none, []⟩,
  ⟨some 47, .mv (.t 11), none, []⟩,
  ⟨some 48, .bin .leq (.t 46) (.t 47), none, [0, 1]⟩,
  ⟨some 49, .mv (.t 48), none, [2]⟩,
  ⟨some 50, .mv (.t 0), some (49, true), [3]⟩,
  ⟨some 51, .mv (.t 11), some (49, true), [3]⟩,
  ⟨some 52, .iaddr 1 (.t 50) (.t 51), some (49, true), [4, 5, 3]⟩,
  ⟨some 53, .load none (.t 52), some (49, true), [6, 3]⟩,
  ⟨some 54, .mv (.t 0), some (49, true), [3]⟩,
  ⟨some 55, .mv (.t 1), some (49, true), [3]⟩,
  ⟨some 56, .iaddr 1 (.t 54) (.t 55), some (49, true), [8, 9, 3]⟩,
  ⟨some 57, .load none (.t 56), some (49, true), [10, 3]⟩,
  ⟨some 58, .callF 29 [(.t 53), (.t 57)], some (49, true), [7, 11, 3, 3]⟩,
  ⟨some 59, .un .not (.t 58), some (49, true), [12, 3]⟩,
  ⟨some 60, .pick (.t 49) (.t 59) (.c (.bool false)), none, [3, 13]⟩]
def r31_6 : List AOper := [
  ⟨some 61, .mv (.t 11), none, []⟩,
  ⟨some 62, .bin .sub (.t 61) (.c (.int .i64 1)), none, [0]⟩,
  ⟨some 11, .mv (.t 62), none, [1, 0, 1]⟩]
def l31_1 : ACode :=
  .seq (
  .seq (
  .region true r31_5 [0, 1, 10, 11, 60]) (
  .cond (.t 60) (
    .skip) (
    .exit 2))) (
  .block 3 (
    .region false r31_6 [0, 1, 10, 11]))
def r31_7 : List AOper := [
  ⟨some 63, .mv (.t 10), none, []⟩,
  ⟨some 64, .mv (.t 11), none, []⟩,
  ⟨some 65, .bin .gtr (.t 63) (.t 64), none, [0, 1]⟩]
def r31_8 : List AOper := [
  ⟨some 66, .mv (.t 0), none, []⟩,
  ⟨some 67, .mv (.t 11), none, []⟩,
  ⟨some 68, .mv (.t 0), none, []⟩,
  ⟨some 69, .mv (.t 1), none, []⟩,
  ⟨some 70, .mv (.t 0), none, []⟩,
  ⟨some 71, .mv (.t 1), none, []⟩,
  ⟨some 72, .iaddr 1 (.t 70) (.t 71), none, [4, 5]⟩,
  ⟨some 73, .load none (.t 72), none, [6]⟩,
  ⟨some 74, .mv (.t 0), none, []⟩,
  ⟨some 75, .mv (.t 11), none, []⟩,
  ⟨some 76, .iaddr 1 (.t 74) (.t 75), none, [8, 9]⟩,
  ⟨some 77, .load none (.t 76), none, [10]⟩,
  ⟨some 78, .iaddr 1 (.t 66) (.t 67), none, [0, 1, 0, 1, 4, 5, 6, 7, 11]⟩,
  ⟨none, .store 1 (.t 78) (.t 73), none, [12, 7, 0, 1, 4, 5, 6, 7, 11]⟩,
  ⟨some 79, .iaddr 1 (.t 68) (.t 69), none, [2, 3, 0, 1, 2, 3, 4, 5, 6, 7, 8, 9, 10, 11, 12, 13]⟩,
  ⟨none, .store 1 (.t 79) (.t 77), none, [14, 11, 13, 0, 1, 2, 3, 4, 5, 6, 7, 8, 9, 10, 11, 12, 13]⟩]
def r31_9 : List AOper := [
  ⟨some 80, .mv (.t 11), none, []⟩,
  ⟨some 8, .mv (.t 80), none, [0, 0]⟩,
  ⟨some 9, .mv (.c (.bool true)), none, [1, 0, 1]⟩]
def r31_10 : List AOper := [
  ⟨some 81, .mv (.t 0), none, []⟩,
  ⟨some 82, .mv (.t 10), none, []⟩,
  ⟨some 83, .mv (.t 0), none, []⟩,
  ⟨some 84, .mv (.t 11), none, []⟩,
  ⟨some 85, .mv (.t 0), none, []⟩,
  ⟨some 86, .mv (.t 11), none, []⟩,
  ⟨some 87, .iaddr 1 (.t 85) (.t 86), none, [4, 5]⟩,
  ⟨some 88, .load none (.t 87), none, [6]⟩,
  ⟨some 89, .mv (.t 0), none, []⟩,
  ⟨some 90, .mv (.t 10), none, []⟩,
  ⟨some 91, .iaddr 1 (.t 89) (.t 90), none, [8, 9]⟩,
  ⟨some 92, .load none (.t 91), none, [10]⟩,
  ⟨some 93, .iaddr 1 (.t 81) (.t 82), none, [0, 1, 0, 1, 4, 5, 6, 7, 11]⟩,
  ⟨none, .store 1 (.t 93) (.t 88), none, [12, 7, 0, 1, 4, 5, 6, 7, 11]⟩,
  ⟨some 94, .iaddr 1 (.t 83) (.t 84), none, [2, 3, 0, 1, 2, 3, 4, 5, 6, 7, 8, 9, 10, 11, 12, 13]⟩,
  ⟨none, .store 1 (.t 94) (.t 92), none, [14, 11, 13, 0, 1, 2, 3, 4, 5, 6, 7, 8, 9, 10, 11, 12, 13]⟩]
def r31_11 : List AOper := [
  ⟨some 95, .mv (.t 10), none, []⟩,
  ⟨some 96, .bin .add (.t 95) (.c (.int .i64 1)), none, [0]⟩,
  ⟨some 10, .mv (.t 96), none, [1, 0, 1]⟩]
def r31_12 : List AOper := [
  ⟨some 97, .mv (.t 11), none, []⟩,
  ⟨some 98, .bin .sub (.t 97) (.c (.int .i64 1)), none, [0]⟩,
  ⟨some 11, .mv (.t 98), none, [1, 0, 1]⟩]
def r31_13 : List AOper := [
  ⟨some 99, .mv (.t 10), none, []⟩,
  ⟨some 100, .mv (.t 11), none, []⟩,
  ⟨some 101, .bin .leq (.t 99) (.t 100), none, [0, 1]⟩,
  ⟨some 102, .mv (.t 101), none, [2]⟩,
  ⟨some 103, .mv (.t 0), some (102, true), [3]⟩,
  ⟨some 104, .mv (.t 10), some (102, true), [3]⟩,
  ⟨some 105, .iaddr 1 (.t 103) (.t 104), some (102, true), [4, 5, 3]⟩,
  ⟨some 106, .load none (.t 105), some (102, true), [6, 3]⟩,
  ⟨some 107, .mv (.t 0), some (102, true), [3]⟩,
  ⟨some 108, .mv (.t 1), some (102, true), [3]⟩,
  ⟨some 109, .iaddr 1 (.t 107) (.t 108), some (102, true), [8, 9, 3]⟩,
  ⟨some 110, .load none (.t 109), some (102, true), [10, 3]⟩,
  ⟨some 111, .callF 29 [(.t 106), (.t 110)], some (102, true), [7, 11, 3, 3]⟩,
  ⟨some 112, .pick (.t 102) (.t 111) (.c (.bool false)), none, [3, 12]⟩]
def r31_14 : List AOper := [
  ⟨some 113, .mv (.t 10), none, []⟩,
  ⟨some 114, .bin .add (.t 113) (.c (.int .i64 1)), none, [0]⟩,
  ⟨some 10, .mv (.t 114), none, [1, 0, 1]⟩]
def l31_2 : ACode :=
  .seq (
  .seq (
  .region true r31_13 [0, 1, 10, 11, 112]) (
  .cond (.t 112) (
    .skip) (
    .exit 6))) (
  .block 7 (
    .region false r31_14 [0, 1, 10, 11]))
def r31_15 : List AOper := [
  ⟨some 115, .mv (.t 10), none, []⟩,
  ⟨some 116, .mv (.t 11), none, []⟩,
  ⟨some 117, .bin .leq (.t 115) (.t 116), none, [0, 1]⟩,
  ⟨some 118, .mv (.t 117), none, [2]⟩,
  ⟨some 119, .mv (.t 0), some (118, true), [3]⟩,
  ⟨some 120, .mv (.t 11), some (118, true), [3]⟩,
  ⟨some 121, .iaddr 1 (.t 119) (.t 120), some (118, true), [4, 5, 3]⟩,
  ⟨some 122, .load none (.t 121), some (118, true), [6, 3]⟩,
  ⟨some 123, .mv (.t 0), some (118, true), [3]⟩,
  ⟨some 124, .mv (.t 1), some (118, true), [3]⟩,
  ⟨some 125, .iaddr 1 (.t 123) (.t 124), some (118, true), [8, 9, 3]⟩,
  ⟨some 126, .load none (.t 125), some (118, true), [10, 3]⟩,
  ⟨some 127, .callF 29 [(.t 122), (.t 126)], some (118, true), [7, 11, 3, 3]⟩,
  ⟨some 128, .un .not (.t 127), some (118, true), [12, 3]⟩,
  ⟨some 129, .pick (.t 118) (.t 128) (.c (.bool false)), none, [3, 13]⟩]
def r31_16 : List AOper := [
  ⟨some 130, .mv (.t 11), none, []⟩,
  ⟨some 131, .bin .sub (.t 130) (.c (.int .i64 1)), none, [0]⟩,
  ⟨some 11, .mv (.t 131), none, [1, 0, 1]⟩]
def l31_3 : ACode :=
  .seq (
  .seq (
  .region true r31_15 [0, 1, 10, 11, 129]) (
  .cond (.t 129) (
    .skip) (
    .exit 8))) (
  .block 9 (
    .region false r31_16 [0, 1, 10, 11]))
def r31_17 : List AOper := [
  ⟨some 132, .mv (.t 10), none, []⟩,
  ⟨some 133, .mv (.t 11), none, []⟩,
  ⟨some 134, .bin .gtr (.t 132) (.t 133), none, [0, 1]⟩]
def r31_18 : List AOper := [
  ⟨some 135, .mv (.t 0), none, []⟩,
  ⟨some 136, .mv (.t 10), none, []⟩,
  ⟨some 137, .mv (.t 0), none, []⟩,
  ⟨some 138, .mv (.t 11), none, []⟩,
  ⟨some 139, .mv (.t 0), none, []⟩,
  ⟨some 140, .mv (.t 11), none, []⟩,
  ⟨some 141, .iaddr 1 (.t 139) (.t 140), none, [4, 5]⟩,
  ⟨some 142, .load none (.t 141), none, [6]⟩,
  ⟨some 143, .mv (.t 0), none, []⟩,
  ⟨some 144, .mv (.t 10), none, []⟩,
  ⟨some 145, .iaddr 1 (.t 143) (.t 144), none, [8, 9]⟩,
  ⟨some 146, .load none (.t 145), none, [10]⟩,
  ⟨some 147, .iaddr 1 (.t 135) (.t 136), none, [0, 1, 0, 1, 4, 5, 6, 7, 11]⟩,
  ⟨none, .store 1 (.t 147) (.t 142), none, [12, 7, 0, 1, 4, 5, 6, 7, 11]⟩,
  ⟨some 148, .iaddr 1 (.t 137) (.t 138), none, [2, 3, 0, 1, 2, 3, 4, 5, 6, 7, 8, 9, 10, 11, 12, 13]⟩,
  ⟨none, .store 1 (.t 148) (.t 146), none, [14, 11, 13, 0, 1, 2, 3, 4, 5, 6, 7, 8, 9, 10, 11, 12, 13]⟩]
def r31_19 : List AOper := [
  ⟨some 149, .mv (.t 10), none, []⟩,
  ⟨some 150, .bin .add (.t 149) (.c (.int .i64 1)), none, [0]⟩,
  ⟨some 10, .mv (.t 150), none, [1, 0, 1]⟩]
def r31_20 : List AOper := [
  ⟨some 151, .mv (.t 11), none, []⟩,
  ⟨some 152, .bin .sub (.t 151) (.c (.int .i64 1)), none, [0]⟩,
  ⟨some 11, .mv (.t 152), none, [1, 0, 1]⟩]
def l31_4 : ACode :=
  .block 5 (
    .seq (
    .block 6 (
      .loop l31_2)) (
    .seq (
    .block 8 (
      .loop l31_3)) (
    .seq (
    .seq (
    .region false r31_17 [0, 1, 10, 11, 134]) (
    .cond (.t 134) (
      .exit 4) (
      .skip))) (
    .seq (
    .region true r31_18 [0, 1, 10, 11]) (
    .seq (
    .region false r31_19 [0, 1, 10, 11]) (
    .region false r31_20 [0, 1, 10, 11]))))))
def r31_21 : List AOper := [
  ⟨some 153, .mv (.t 0), none, []⟩,
  ⟨some 154, .mv (.t 11), none, []⟩,
  ⟨some 155, .mv (.t 0), none, []⟩,
  ⟨some 156, .mv (.t 1), none, []⟩,
  ⟨some 157, .mv (.t 0), none, []⟩,
  ⟨some 158, .mv (.t 1), none, []⟩,
  ⟨some 159, .iaddr 1 (.t 157) (.t 158), none, [4, 5]⟩,
  ⟨some 160, .load none (.t 159), none, [6]⟩,
  ⟨some 161, .mv (.t 0), none, []⟩,
  ⟨some 162, .mv (.t 11), none, []⟩,
  ⟨some 163, .iaddr 1 (.t 161) (.t 162), none, [8, 9]⟩,
  ⟨some 164, .load none (.t 163), none, [10]⟩,
  ⟨some 165, .iaddr 1 (.t 153) (.t 154), none, [0, 1, 0, 1, 4, 5, 6, 7, 11]⟩,
  ⟨none, .store 1 (.t 165) (.t 160), none, [12, 7, 0, 1, 4, 5, 6, 7, 11]⟩,
  ⟨some 166, .iaddr 1 (.t 155) (.t 156), none, [2, 3, 0, 1, 2, 3, 4, 5, 6, 7, 8, 9, 10, 11, 12, 13]⟩,
  ⟨none, .store 1 (.t 166) (.t 164), none, [14, 11, 13, 0, 1, 2, 3, 4, 5, 6, 7, 8, 9, 10, 11, 12, 13]⟩]
def r31_22 : List AOper := [
  ⟨some 167, .mv (.t 11), none, []⟩,
  ⟨some 8, .mv (.t 167), none, [0, 0]⟩,
  ⟨some 9, .mv (.c (.bool false)), none, [1, 0, 1]⟩]
def m31_1 : List Nat := [0, 0, 0, 0, 0, 0, 48, 112, 0, 0, 768, 1792, 4083, 8179, 16383, 32767]
theorem d31_1 : okDraw r31_1 m31_1 = true := by kernel_rfl
def m31_3 : List Nat := [0, 0, 3, 7, 15, 15, 63, 127, 15, 15, 783, 1807, 4095, 8191]
theorem d31_3 : okDraw r31_3 m31_3 = true := by kernel_rfl
def m31_5 : List Nat := [0, 0, 3, 7, 15, 15, 63, 127, 15, 15, 783, 1807, 4095, 8191, 16383]
theorem d31_5 : okDraw r31_5 m31_5 = true := by kernel_rfl
def m31_8 : List Nat := [0, 0, 0, 0, 0, 0, 48, 112, 0, 0, 768, 1792, 4083, 8179, 16383, 32767]
theorem d31_8 : okDraw r31_8 m31_8 = true := by kernel_rfl
def m31_10 : List Nat := [0, 0, 0, 0, 0, 0, 48, 112, 0, 0, 768, 1792, 4083, 8179, 16383, 32767]
theorem d31_10 : okDraw r31_10 m31_10 = true := by kernel_rfl
def m31_13 : List Nat := [0, 0, 3, 7, 15, 15, 63, 127, 15, 15, 783, 1807, 4095, 8191]
theorem d31_13 : okDraw r31_13 m31_13 = true := by kernel_rfl
def m31_15 : List Nat := [0, 0, 3, 7, 15, 15, 63, 127, 15, 15, 783, 1807, 4095, 8191, 16383]
theorem d31_15 : okDraw r31_15 m31_15 = true := by kernel_rfl
def m31_18 : List Nat := [0, 0, 0, 0, 0, 0, 48, 112, 0, 0, 768, 1792, 4083, 8179, 16383, 32767]
theorem d31_18 : okDraw r31_18 m31_18 = true := by kernel_rfl
def m31_21 : List Nat := [0, 0, 0, 0, 0, 0, 48, 112, 0, 0, 768, 1792, 4083, 8179, 16383, 32767]
theorem d31_21 : okDraw r31_21 m31_21 = true := by kernel_rfl
def k31 : List (List Nat) := [[0, 1, 2, 3], [0, 1, 2], [0, 1, 10, 11], [0, 1, 10, 11, 43], [0, 1, 10, 11], [0, 1, 10, 11, 60], [0, 1, 10, 11], [0, 1, 10, 11, 65], [11], [8, 9], [0, 1, 10, 11], [0, 1, 10, 11], [0, 1, 10, 11], [0, 1, 10, 11, 112], [0, 1, 10, 11], [0, 1, 10, 11, 129], [0, 1, 10, 11], [0, 1, 10, 11, 134], [0, 1, 10, 11], [0, 1, 10, 11], [0, 1, 10, 11], [11], [8, 9]]
def f31 : AFunc := { ntmps := 168, results := [.tmp 8, .tmp 9], body := (
  .seq (
  .region false r31_0 [0, 1, 2, 3]) (
  .seq (
  .region true r31_1 [0, 1, 2]) (
  .seq (
  .region false r31_2 [0, 1, 10, 11]) (
  .seq (
  .block 0 (
    .loop l31_0)) (
  .seq (
  .block 2 (
    .loop l31_1)) (
  .seq (
  .seq (
  .region false r31_7 [0, 1, 10, 11, 65]) (
  .cond (.t 65) (
    .seq (
    .region true r31_8 [11]) (
    .seq (
    .region false r31_9 [8, 9]) (
    .ret))) (
    .skip))) (
  .seq (
  .region true r31_10 [0, 1, 10, 11]) (
  .seq (
  .region false r31_11 [0, 1, 10, 11]) (
  .seq (
  .region false r31_12 [0, 1, 10, 11]) (
  .seq (
  .block 4 (
    .loop l31_4)) (
  .seq (
  .region true r31_21 [11]) (
  .seq (
  .region false r31_22 [8, 9]) (
  .ret))))))))))))) }
theorem c31 : cfunc Try.prog (kof k31) Try.f31 = some f31 := by kernel_rfl

/-- math/bits.Len32 -/
def r32_0 : List AOper := [
  ⟨some 2, .mv (.c (.int .i64 0)), none, []⟩]
def r32_1 : List AOper := [
  ⟨some 3, .mv (.t 0), none, []⟩,
  ⟨some 4, .bin .geq (.t 3) (.c (.int .u32 65536)), none, [0]⟩]
def r32_2 : List AOper := [
  ⟨some 5, .mv (.t 0), none, []⟩,
  ⟨some 6, .bin .shr (.t 5) (.c (.int .u64 16)), none, [0]⟩,
  ⟨some 0, .mv (.t 6), none, [1, 0, 1]⟩]
def r32_3 : List AOper := [
  ⟨some 2, .mv (.c (.int .i64 16)), none, []⟩]
def r32_4 : List AOper := [
  ⟨some 7, .mv (.t 0), none, []⟩,
  ⟨some 8, .bin .geq (.t 7) (.c (.int .u32 256)), none, [0]⟩]
def r32_5 : List AOper := [
  ⟨some 9, .mv (.t 0), none, []⟩,
  ⟨some 10, .bin .shr (.t 9) (.c (.int .u64 8)), none, [0]⟩,
  ⟨some 0, .mv (.t 10), none, [1, 0, 1]⟩]
def r32_6 : List AOper := [
  ⟨some 11, .mv (.t 2), none, []⟩,
  ⟨some 12, .bin .add (.t 11) (.c (.int .i64 8)), none, [0]⟩,
  ⟨some 2, .mv (.t 12), none, [1, 0, 1]⟩]
def r32_7 : List AOper := [
  ⟨some 13, .mv (.t 2), none, []⟩,
  ⟨some 14, .mv (.t 0), none, []⟩,
  ⟨some 15, .conv (.toInt .u8) (.t 14), none, [1]⟩,
  ⟨some 16, .idxS (.c (.str ⟨#[0, 1, 2, 2, 3, 3, 3, 3, 4, 4, 4, 4, 4, 4, 4, 4, 5, 5, 5, 5, 5, 5, 5, 5, 5, 5, 5, 5, 5, 5, 5, 5, 6, 6, 6, 6, 6, 6, 6, 6, 6, 6, 6, 6, 6, 6, 6, 6, 6, 6, 6, 6, 6, 6, 6, 6, 6, 6, 6, 6, 6, 6, 6, 6, 7, 7, 7, 7, 7, 7, 7, 7, 7, 7, 7, 7, 7, 7, 7, 7, 7, 7, 7, 7, 7, 7, 7, 7, 7, 7, 7, 7, 7, 7, 7, 7, 7, 7, 7, 7, 7, 7, 7, 7, 7, 7, 7, 7, 7, 7, 7, 7, 7, 7, 7, 7, 7, 7, 7, 7, 7, 7, 7, 7, 7, 7, 7, 7, 8, 8, 8, 8, 8, 8, 8, 8, 8, 8, 8, 8, 8, 8, 8, 8, 8, 8, 8, 8, 8, 8, 8, 8, 8, 8, 8, 8, 8, 8, 8, 8, 8, 8, 8, 8, 8, 8, 8, 8, 8, 8, 8, 8, 8, 8, 8, 8, 8, 8, 8, 8, 8, 8, 8, 8, 8, 8, 8, 8, 8, 8, 8, 8, 8, 8, 8, 8, 8, 8, 8, 8, 8, 8, 8, 8, 8, 8, 8, 8, 8, 8, 8, 8, 8, 8, 8, 8, 8, 8, 8, 8, 8, 8, 8, 8, 8, 8, 8, 8, 8, 8, 8, 8, 8, 8, 8, 8, 8, 8, 8, 8, 8, 8, 8, 8, 8, 8, 8, 8, 8, 8, 8, 8, 8, 8, 8, 8]⟩)) (.t 15), none, [2]⟩,
  ⟨some 17, .conv (.toInt .i64) (.t 16), none, [3]⟩,
  ⟨some 18, .bin .add (.t 13) (.t 17), none, [0, 4]⟩,
  ⟨some 2, .mv (.t 18), none, [5, 0, 1, 2, 3, 4, 5]⟩]
def k32 : List (List Nat) := [[0, 2], [0, 2, 4], [0], [0, 2], [0, 2, 8], [0, 2], [0, 2], [2]]
def f32 : AFunc := { ntmps := 19, results := [.tmp 2], body := (
  .seq (
  .region false r32_0 [0, 2]) (
  .seq (
  .seq (
  .region false r32_1 [0, 2, 4]) (
  .cond (.t 4) (
    .seq (
    .region false r32_2 [0]) (
    .region false r32_3 [0, 2])) (
    .skip))) (
  .seq (
  .seq (
  .region false r32_4 [0, 2, 8]) (
  .cond (.t 8) (
    .seq (
    .region false r32_5 [0, 2]) (
    .region false r32_6 [0, 2])) (
    .skip))) (
  .seq (
  .region false r32_7 [2]) (
  .ret))))) }
theorem c32 : cfunc Try.prog (kof k32) Try.f32 = some f32 := by kernel_rfl

/-- math/bits.Len64 -/
def r33_0 : List AOper := [
  ⟨some 2, .mv (.c (.int .i64 0)), none, []⟩]
def r33_1 : List AOper := [
  ⟨some 3, .mv (.t 0), none, []⟩,
  ⟨some 4, .bin .geq (.t 3) (.c (.int .u64 4294967296)), none, [0]⟩]
def r33_2 : List AOper := [
  ⟨some 5, .mv (.t 0), none, []⟩,
  ⟨some 6, .bin .shr (.t 5) (.c (.int .u64 32)), none, [0]⟩,
  ⟨some 0, .mv (.t 6), none, [1, 0, 1]⟩]
def r33_3 : List AOper := [
  ⟨some 2, .mv (.c (.int .i64 32)), none, []⟩]
def r33_4 : List AOper := [
  ⟨some 7, .mv (.t 0), none, []⟩,
  ⟨some 8, .bin .geq (.t 7) (.c (.int .u64 65536)), none, [0]⟩]
def r33_5 : List AOper := [
  ⟨some 9, .mv (.t 0), none, []⟩,
  ⟨some 10, .bin .shr (.t 9) (.c (.int .u64 16)), none, [0]⟩,
  ⟨some 0, .mv (.t 10), none, [1, 0, 1]⟩]
def r33_6 : List AOper := [
  ⟨some 11, .mv (.t 2), none, []⟩,
  ⟨some 12, .bin .add (.t 11) (.c (.int .i64 16)), none, [0]⟩,
  ⟨some 2, .mv (.t 12), none, [1, 0, 1]⟩]
def r33_7 : List AOper := [
  ⟨some 13, .mv (.t 0), none, []⟩,
  ⟨some 14, .bin .geq (.t 13) (.c (.int .u64 256)), none, [0]⟩]
def r33_8 : List AOper := [
  ⟨some 15, .mv (.t 0), none, []⟩,
  ⟨some 16, .bin .shr (.t 15) (.c (.int .u64 8)), none, [0]⟩,
  ⟨some 0, .mv (.t 16), none, [1, 0, 1]⟩]
def r33_9 : List AOper := [
  ⟨some 17, .mv (.t 2), none, []⟩,
  ⟨some 18, .bin .add (.t 17) (.c (.int .i64 8)), none, [0]⟩,
  ⟨some 2, .mv (.t 18), none, [1, 0, 1]⟩]
def r33_10 : List AOper := [
  ⟨some 19, .mv (.t 2), none, []⟩,
  ⟨some 20, .mv (.t 0), none, []⟩,
  ⟨some 21, .conv (.toInt .u8) (.t 20), none, [1]⟩,
  ⟨some 22, .idxS (.c (.str ⟨#[0, 1, 2, 2, 3, 3, 3, 3, 4, 4, 4, 4, 4, 4, 4, 4, 5, 5, 5, 5, 5, 5, 5, 5, 5, 5, 5, 5, 5, 5, 5, 5, 6, 6, 6, 6, 6, 6, 6, 6, 6, 6, 6, 6, 6, 6, 6, 6, 6, 6, 6, 6, 6, 6, 6, 6, 6, 6, 6, 6, 6, 6, 6, 6, 7, 7, 7, 7, 7, 7, 7, 7, 7, 7, 7, 7, 7, 7, 7, 7, 7, 7, 7, 7, 7, 7, 7, 7, 7, 7, 7, 7, 7, 7, 7, 7, 7, 7, 7, 7, 7, 7, 7, 7, 7, 7, 7, 7, 7, 7, 7, 7, 7, 7, 7, 7, 7, 7, 7, 7, 7, 7, 7, 7, 7, 7, 7, 7, 8, 8, 8, 8, 8, 8, 8, 8, 8, 8, 8, 8, 8, 8, 8, 8, 8, 8, 8, 8, 8, 8, 8, 8, 8, 8, 8, 8, 8, 8, 8, 8, 8, 8, 8, 8, 8, 8, 8, 8, 8, 8, 8, 8, 8, 8, 8, 8, 8, 8, 8, 8, 8, 8, 8, 8, 8, 8, 8, 8, 8, 8, 8, 8, 8, 8, 8, 8, 8, 8, 8, 8, 8, 8, 8, 8, 8, 8, 8, 8, 8, 8, 8, 8, 8, 8, 8, 8, 8, 8, 8, 8, 8, 8, 8, 8, 8, 8, 8, 8, 8, 8, 8, 8, 8, 8, 8, 8, 8, 8, 8, 8, 8, 8, 8, 8, 8, 8, 8, 8, 8, 8, 8, 8, 8, 8, 8, 8]⟩)) (.t 21), none, [2]⟩,
  ⟨some 23, .conv (.toInt .i64) (.t 22), none, [3]⟩,
  ⟨some 24, .bin .add (.t 19) (.t 23), none, [0, 4]⟩,
  ⟨some 2, .mv (.t 24), none, [5, 0, 1, 2, 3, 4, 5]⟩]
def k33 : List (List Nat) := [[0, 2], [0, 2, 4], [0], [0, 2], [0, 2, 8], [0, 2], [0, 2], [0, 2, 14], [0, 2], [0, 2], [2]]
def f33 : AFunc := { ntmps := 25, results := [.tmp 2], body := (
  .seq (
  .region false r33_0 [0, 2]) (
  .seq (
  .seq (
  .region false r33_1 [0, 2, 4]) (
  .cond (.t 4) (
    .seq (
    .region false r33_2 [0]) (
    .region false r33_3 [0, 2])) (
    .skip))) (
  .seq (
  .seq (
  .region false r33_4 [0, 2, 8]) (
  .cond (.t 8) (
    .seq (
    .region false r33_5 [0, 2]) (
    .region false r33_6 [0, 2])) (
    .skip))) (
  .seq (
  .seq (
  .region false r33_7 [0, 2, 14]) (
  .cond (.t 14) (
    .seq (
    .region false r33_8 [0, 2]) (
    .region false r33_9 [0, 2])) (
    .skip))) (
  .seq (
  .region false r33_10 [2]) (
  .ret)))))) }
theorem c33 : cfunc Try.prog (kof k33) Try.f33 = some f33 := by kernel_rfl

/-- slices.siftDownOrdered[string] -/
def r34_0 : List AOper := [
  ⟨some 10, .mv (.t 1), none, []⟩,
  ⟨some 8, .mv (.t 10), none, [0, 0]⟩]
def r34_1 : List AOper := [
  ⟨some 11, .mv (.t 8), none, []⟩,
  ⟨some 12, .bin .mul (.c (.int .i64 2)) (.t 11), none, [0]⟩,
  ⟨some 13, .bin .add (.t 12) (.c (.int .i64 1)), none, [1]⟩,
  ⟨some 9, .mv (.t 13), none, [2, 0, 1, 2]⟩]
def r34_2 : List AOper := [
  ⟨some 14, .mv (.t 9), none, []⟩,
  ⟨some 15, .mv (.t 2), none, []⟩,
  ⟨some 16, .bin .geq (.t 14) (.t 15), none, [0, 1]⟩]
def r34_3 : List AOper := [
  ⟨some 17, .mv (.t 9), none, []⟩,
  ⟨some 18, .bin .add (.t 17) (.c (.int .i64 1)), none, [0]⟩,
  ⟨some 19, .mv (.t 2), none, []⟩,
  ⟨some 20, .bin .lss (.t 18) (.t 19), none, [1, 2]⟩,
  ⟨some 21, .mv (.t 20), none, [3]⟩,
  ⟨some 22, .mv (.t 0), some (21, true), [4]⟩,
  ⟨some 23, .mv (.t 3), some (21, true), [4]⟩,
  ⟨some 24, .mv (.t 9), some (21, true), [4]⟩,
  ⟨some 25, .bin .add (.t 23) (.t 24), some (21, true), [6, 7, 4]⟩,
  ⟨some 26, .iaddr 1 (.t 22) (.t 25), some (21, true), [5, 8, 4]⟩,
  ⟨some 27, .load none (.t 26), some (21, true), [9, 4]⟩,
  ⟨some 28, .mv (.t 0), some (21, true), [4]⟩,
  ⟨some 29, .mv (.t 3), some (21, true), [4]⟩,
  ⟨some 30, .mv (.t 9), some (21, true), [4]⟩,
  ⟨some 31, .bin .add (.t 29) (.t 30), some (21, true), [12, 13, 4]⟩,
  ⟨some 32, .bin .add (.t 31) (.c (.int .i64 1)), some (21, true), [14, 4]⟩,
  ⟨some 33, .iaddr 1 (.t 28) (.t 32), some (21, true), [11, 15, 4]⟩,
  ⟨some 34, .load none (.t 33), some (21, true), [16, 4]⟩,
  ⟨some 35, .callF 29 [(.t 27), (.t 34)], some (21, true), [10, 17, 4, 4]⟩,
  ⟨some 36, .pick (.t 21) (.t 35) (.c (.bool false)), none, [4, 18]⟩]
def r34_4 : List AOper := [
  ⟨some 37, .mv (.t 9), none, []⟩,
  ⟨some 38, .bin .add (.t 37) (.c (.int .i64 1)), none, [0]⟩,
  ⟨some 9, .mv (.t 38), none, [1, 0, 1]⟩]
def r34_5 : List AOper := [
  ⟨some 39, .mv (.t 0), none, []⟩,
  ⟨some 40, .mv (.t 3), none, []⟩,
  ⟨some 41, .mv (.t 8), none, []⟩,
  ⟨some 42, .bin .add (.t 40) (.t 41), none, [1, 2]⟩,
  ⟨some 43, .iaddr 1 (.t 39) (.t 42), none, [0, 3]⟩,
  ⟨some 44, .load none (.t 43), none, [4]⟩,
  ⟨some 45, .mv (.t 0), none, []⟩,
  ⟨some 46, .mv (.t 3), none, []⟩,
  ⟨some 47, .mv (.t 9), none, []⟩,
  ⟨some 48, .bin .add (.t 46) (.t 47), none, [7, 8]⟩,
  ⟨some 49, .iaddr 1 (.t 45) (.t 48), none, [6, 9]⟩,
  ⟨some 50, .load none (.t 49), none, [10]⟩,
  ⟨some 51, .callF 29 [(.t 44), (.t 50)], none, [5, 11]⟩,
  ⟨some 52, .un .not (.t 51), none, [12]⟩]
def r34_6 : List AOper := [
  ⟨some 53, .mv (.t 0), none, []⟩,
  ⟨some 54, .mv (.t 3), none, []⟩,
  ⟨some 55, .mv (.t 8), none, []⟩,
  ⟨some 56, .bin .add (.t 54) (.t 55), none, [1, 2]⟩,
  ⟨some 57, .mv (.t 0), none, []⟩,
  ⟨some 58, .mv (.t 3), none, []⟩,
  ⟨some 59, .mv (.t 9), none, []⟩,
  ⟨some 60, .bin .add (.t 58) (.t 59), none, [5, 6]⟩,
  ⟨some 61, .mv (.t 0), none, []⟩,
  ⟨some 62, .mv (.t 3), none, []⟩,
  ⟨some 63, .mv (.t 9), none, []⟩,
  ⟨some 64, .bin .add (.t 62) (.t 63), none, [9, 10]⟩,
  ⟨some 65, .iaddr 1 (.t 61) (.t 64), none, [8, 11]⟩,
  ⟨some 66, .load none (.t 65), none, [12]⟩,
  ⟨some 67, .mv (.t 0), none, []⟩,
  ⟨some 68, .mv (.t 3), none, []⟩,
  ⟨some 69, .mv (.t 8), none, []⟩,
  ⟨some 70, .bin .add (.t 68) (.t 69), none, [15, 16]⟩,
  ⟨some 71, .iaddr 1 (.t 67) (.t 70), none, [14, 17]⟩,
  ⟨some 72, .load none (.t 71), none, [18]⟩,
  ⟨some 73, .iaddr 1 (.t 53) (.t 56), none, [0, 3, 0, 1, 2, 3, 8, 9, 10, 11, 12, 13, 19]⟩,
  ⟨none, .store 1 (.t 73) (.t 66), none, [20, 13, 0, 1, 2, 3, 8, 9, 10, 11, 12, 13, 19]⟩,
  ⟨some 74, .iaddr 1 (.t 57) (.t 60), none, [4, 7, 0, 1, 2, 3, 4, 5, 6, 7, 8, 9, 10, 11, 12, 13, 14, 15, 16, 17, 18, 19, 20, 21]⟩,
  ⟨none, .store 1 (.t 74) (.t 72), none, [22, 19, 21, 0, 1, 2, 3, 4, 5, 6, 7, 8, 9, 10, 11, 12, 13, 14, 15, 16, 17, 18, 19, 20, 21]⟩]
def r34_7 : List AOper := [
  ⟨some 75, .mv (.t 9), none, []⟩,
  ⟨some 8, .mv (.t 75), none, [0, 0]⟩]
def l34_0 : ACode :=
  .block 1 (
    .seq (
    .region false r34_1 [0, 2, 3, 8, 9]) (
    .seq (
    .seq (
    .region false r34_2 [0, 2, 3, 8, 9, 16]) (
    .cond (.t 16) (
      .exit 0) (
      .skip))) (
    .seq (
    .seq (
    .region true r34_3 [0, 2, 3, 8, 9, 36]) (
    .cond (.t 36) (
      .region false r34_4 [0, 2, 3, 8, 9]) (
      .skip))) (
    .seq (
    .seq (
    .region true r34_5 [0, 2, 3, 8, 9, 52]) (
    .cond (.t 52) (
      .ret) (
      .skip))) (
    .seq (
    .region true r34_6 [0, 2, 3, 9]) (
    .region false r34_7 [0, 2, 3, 8]))))))
def m34_3 : List Nat := [0, 1, 0, 7, 15, 31, 31, 31, 223, 511, 1023, 31, 31, 31, 12319, 28703, 63519, 129055, 262143, 524287]
theorem d34_3 : okDraw r34_3 m34_3 = true := by kernel_rfl
def m34_5 : List Nat := [0, 0, 0, 6, 15, 31, 0, 0, 0, 384, 960, 1984, 4095, 8191]
theorem d34_5 : okDraw r34_5 m34_5 = true := by kernel_rfl
def m34_6 : List Nat := [0, 0, 0, 6, 0, 0, 0, 96, 0, 0, 0, 1536, 3840, 7936, 0, 0, 0, 98304, 245760, 507904, 1048335, 2096911, 4194303, 8388607]
theorem d34_6 : okDraw r34_6 m34_6 = true := by kernel_rfl
def k34 : List (List Nat) := [[0, 2, 3, 8], [0, 2, 3, 8, 9], [0, 2, 3, 8, 9, 16], [0, 2, 3, 8, 9, 36], [0, 2, 3, 8, 9], [0, 2, 3, 8, 9, 52], [0, 2, 3, 9], [0, 2, 3, 8]]
def f34 : AFunc := { ntmps := 76, results := [], body := (
  .seq (
  .region false r34_0 [0, 2, 3, 8]) (
  .block 0 (
    .loop l34_0))) }
theorem c34 : cfunc Try.prog (kof k34) Try.f34 = some f34 := by kernel_rfl

/-- slices.nextPowerOfTwo -/
def r35_0 : List AOper := [
  ⟨some 2, .mv (.c (.int .u64 0)), none, []⟩]
def r35_1 : List AOper := [
  ⟨some 3, .mv (.t 0), none, []⟩,
  ⟨some 4, .conv (.toInt .u64) (.t 3), none, [0]⟩,
  ⟨some 5, .callF 22 [(.t 4)], none, [1]⟩,
  ⟨some 6, .bin .shl (.c (.int .u64 1)) (.t 5), none, [2]⟩,
  ⟨some 2, .mv (.t 6), none, [3, 2, 0, 1, 2, 3]⟩]
def k35 : List (List Nat) := [[0], [2]]
def f35 : AFunc := { ntmps := 7, results := [.tmp 2], body := (
  .seq (
  .region false r35_0 [0]) (
  .seq (
  .region false r35_1 [2]) (
  .ret))) }
theorem c35 : cfunc Try.prog (kof k35) Try.f35 = some f35 := by kernel_rfl

/-- (*slices.xorshift).Next -/
def r36_0 : List AOper := [
  ⟨some 2, .mv (.c (.int .u64 0)), none, []⟩]
def r36_1 : List AOper := [
  ⟨some 3, .mv (.t 0), none, []⟩,
  ⟨some 4, .nilchk (.t 3), none, [0]⟩,
  ⟨some 5, .load none (.t 4), none, [1]⟩,
  ⟨some 6, .mv (.t 0), none, []⟩,
  ⟨some 7, .nilchk (.t 6), none, [3]⟩,
  ⟨some 8, .load none (.t 7), none, [4]⟩,
  ⟨some 9, .bin .shl (.t 8) (.c (.int .u64 13)), none, [5]⟩,
  ⟨some 10, .bin .xor (.t 5) (.t 9), none, [2, 6]⟩,
  ⟨some 11, .nilchk (.t 3), none, [0, 0, 1, 2, 3, 4, 5, 6, 7]⟩,
  ⟨none, .store 1 (.t 11) (.t 10), none, [8, 7, 0, 1, 2, 3, 4, 5, 6, 7]⟩]
def r36_2 : List AOper := [
  ⟨some 12, .mv (.t 0), none, []⟩,
  ⟨some 13, .nilchk (.t 12), none, [0]⟩,
  ⟨some 14, .load none (.t 13), none, [1]⟩,
  ⟨some 15, .mv (.t 0), none, []⟩,
  ⟨some 16, .nilchk (.t 15), none, [3]⟩,
  ⟨some 17, .load none (.t 16), none, [4]⟩,
  ⟨some 18, .bin .shr (.t 17) (.c (.int .u64 7)), none, [5]⟩,
  ⟨some 19, .bin .xor (.t 14) (.t 18), none, [2, 6]⟩,
  ⟨some 20, .nilchk (.t 12), none, [0, 0, 1, 2, 3, 4, 5, 6, 7]⟩,
  ⟨none, .store 1 (.t 20) (.t 19), none, [8, 7, 0, 1, 2, 3, 4, 5, 6, 7]⟩]
def r36_3 : List AOper := [
  ⟨some 21, .mv (.t 0), none, []⟩,
  ⟨some 22, .nilchk (.t 21), none, [0]⟩,
  ⟨some 23, .load none (.t 22), none, [1]⟩,
  ⟨some 24, .mv (.t 0), none, []⟩,
  ⟨some 25, .nilchk (.t 24), none, [3]⟩,
  ⟨some 26, .load none (.t 25), none, [4]⟩,
  ⟨some 27, .bin .shl (.t 26) (.c (.int .u64 17)), none, [5]⟩,
  ⟨some 28, .bin .xor (.t 23) (.t 27), none, [2, 6]⟩,
  ⟨some 29, .nilchk (.t 21), none, [0, 0, 1, 2, 3, 4, 5, 6, 7]⟩,
  ⟨none, .store 1 (.t 29) (.t 28), none, [8, 7, 0, 1, 2, 3, 4, 5, 6, 7]⟩]
def r36_4 : List AOper := [
  ⟨some 30, .mv (.t 0), none, []⟩,
  ⟨some 31, .nilchk (.t 30), none, [0]⟩,
  ⟨some 32, .load none (.t 31), none, [1]⟩,
  ⟨some 2, .mv (.t 32), none, [2, 0, 1, 2]⟩]
def m36_1 : List Nat := [0, 1, 3, 0, 8, 24, 56, 127, 255, 511]
theorem d36_1 : okDraw r36_1 m36_1 = true := by kernel_rfl
def m36_2 : List Nat := [0, 1, 3, 0, 8, 24, 56, 127, 255, 511]
theorem d36_2 : okDraw r36_2 m36_2 = true := by kernel_rfl
def m36_3 : List Nat := [0, 1, 3, 0, 8, 24, 56, 127, 255, 511]
theorem d36_3 : okDraw r36_3 m36_3 = true := by kernel_rfl
def k36 : List (List Nat) := [[0], [0], [0], [0], [2]]
def f36 : AFunc := { ntmps := 33, results := [.tmp 2], body := (
  .seq (
  .region false r36_0 [0]) (
  .seq (
  .region true r36_1 [0]) (
  .seq (
  .region true r36_2 [0]) (
  .seq (
  .region true r36_3 [0]) (
  .seq (
  .region false r36_4 [2]) (
  .ret)))))) }
theorem c36 : cfunc Try.prog (kof k36) Try.f36 = some f36 := by kernel_rfl

/-- slices.medianAdjacentOrdered[string] -/
def r37_0 : List AOper := [
  ⟨some 6, .mv (.c (.int .i64 0)), none, []⟩]
def r37_1 : List AOper := [
  ⟨some 7, .mv (.t 0), none, []⟩,
  ⟨some 8, .mv (.t 1), none, []⟩,
  ⟨some 9, .bin .sub (.t 8) (.c (.int .i64 1)), none, [1]⟩,
  ⟨some 10, .mv (.t 1), none, []⟩,
  ⟨some 11, .mv (.t 1), none, []⟩,
  ⟨some 12, .bin .add (.t 11) (.c (.int .i64 1)), none, [4]⟩,
  ⟨some 13, .mv (.t 2), none, []⟩,
  ⟨some 14, .callF 38 [(.t 7), (.t 9), (.t 10), (.t 12), (.t 13)], none, [0, 2, 3, 5, 6]⟩,
  ⟨some 6, .mv (.t 14), none, [7, 7, 0, 1, 2, 3, 4, 5, 6, 7]⟩]
def k37 : List (List Nat) := [[0, 1, 2], [6]]
def f37 : AFunc := { ntmps := 15, results := [.tmp 6], body := (
  .seq (
  .region false r37_0 [0, 1, 2]) (
  .seq (
  .region false r37_1 [6]) (
  .ret))) }
theorem c37 : cfunc Try.prog (kof k37) Try.f37 = some f37 := by kernel_rfl

/-- slices.medianOrdered[string] -/
def r38_0 : List AOper := [
  ⟨some 10, .mv (.c (.int .i64 0)), none, []⟩]
def r38_1 : List AOper := [
  ⟨some 12, .mv (.t 0), none, []⟩,
  ⟨some 13, .mv (.t 1), none, []⟩,
  ⟨some 14, .mv (.t 2), none, []⟩,
  ⟨some 15, .mv (.t 4), none, []⟩,
  ⟨some 16, .callF 40 [(.t 12), (.t 13), (.t 14), (.t 15)], none, [0, 1, 2, 3]⟩,
  ⟨some 11, .mv (.t 16), none, [4]⟩,
  ⟨some 17, .extract (.t 11) 0, none, [5]⟩,
  ⟨some 18, .extract (.t 11) 1, none, [5]⟩,
  ⟨some 1, .mv (.t 17), none, [6, 4, 0, 1, 2, 3, 4, 5, 6]⟩,
  ⟨some 2, .mv (.t 18), none, [7, 8, 0, 1, 2, 3, 4, 5, 6, 7, 8]⟩]
def r38_2 : List AOper := [
  ⟨some 20, .mv (.t 0), none, []⟩,
  ⟨some 21, .mv (.t 2), none, []⟩,
  ⟨some 22, .mv (.t 3), none, []⟩,
  ⟨some 23, .mv (.t 4), none, []⟩,
  ⟨some 24, .callF 40 [(.t 20), (.t 21), (.t 22), (.t 23)], none, [0, 1, 2, 3]⟩,
  ⟨some 19, .mv (.t 24), none, [4]⟩,
  ⟨some 25, .extract (.t 19) 0, none, [5]⟩,
  ⟨some 26, .extract (.t 19) 1, none, [5]⟩,
  ⟨some 2, .mv (.t 25), none, [6, 4, 0, 1, 2, 3, 4, 5, 6]⟩,
  ⟨some 3, .mv (.t 26), none, [7, 8, 0, 1, 2, 3, 4, 5, 6, 7, 8]⟩]
def r38_3 : List AOper := [
  ⟨some 28, .mv (.t 0), none, []⟩,
  ⟨some 29, .mv (.t 1), none, []⟩,
  ⟨some 30, .mv (.t 2), none, []⟩,
  ⟨some 31, .mv (.t 4), none, []⟩,
  ⟨some 32, .callF 40 [(.t 28), (.t 29), (.t 30), (.t 31)], none, [0, 1, 2, 3]⟩,
  ⟨some 27, .mv (.t 32), none, [4]⟩,
  ⟨some 33, .extract (.t 27) 0, none, [5]⟩,
  ⟨some 34, .extract (.t 27) 1, none, [5]⟩,
  ⟨some 1, .mv (.t 33), none, [6, 4, 0, 1, 2, 3, 4, 5, 6]⟩,
  ⟨some 2, .mv (.t 34), none, [7, 8, 0, 1, 2, 3, 4, 5, 6, 7, 8]⟩]
def r38_4 : List AOper := [
  ⟨some 35, .mv (.t 2), none, []⟩,
  ⟨some 10, .mv (.t 35), none, [0, 0]⟩]
def k38 : List (List Nat) := [[0, 1, 2, 3, 4], [0, 1, 2, 3, 4], [0, 1, 2, 4], [2], [10]]
def f38 : AFunc := { ntmps := 36, results := [.tmp 10], body := (
  .seq (
  .region false r38_0 [0, 1, 2, 3, 4]) (
  .seq (
  .region false r38_1 [0, 1, 2, 3, 4]) (
  .seq (
  .region false r38_2 [0, 1, 2, 4]) (
  .seq (
  .region false r38_3 [2]) (
  .seq (
  .region false r38_4 [10]) (
  .ret)))))) }
theorem c38 : cfunc Try.prog (kof k38) Try.f38 = some f38 := by kernel_rfl

/-- cmp.isNaN[string] -/
def r39_0 : List AOper := [
  ⟨some 2, .mv (.c (.bool false)), none, []⟩]
def r39_1 : List AOper := [
  ⟨some 3, .mv (.t 0), none, []⟩,
  ⟨some 4, .mv (.t 0), none, []⟩,
  ⟨some 5, .bin .neq (.t 3) (.t 4), none, [0, 1]⟩,
  ⟨some 2, .mv (.t 5), none, [2, 0, 1, 2]⟩]
def k39 : List (List Nat) := [[0], [2]]
def f39 : AFunc := { ntmps := 6, results := [.tmp 2], body := (
  .seq (
  .region false r39_0 [0]) (
  .seq (
  .region false r39_1 [2]) (
  .ret))) }
theorem c39 : cfunc Try.prog (kof k39) Try.f39 = some f39 := by kernel_rfl


end Go.Am.Rn
