/- The functions, in the abstract machine's form (written by gen.py). -/
import Derived.Test.YtcmaphhbecjbjaaGreatDoorFnP
import Derived.Test.YtcmaphhbecjbjaaGreatDoorProg
set_option linter.unusedVariables false
namespace Go.Am.Rl
open Go.Proofs
set_option maxRecDepth 20000

/-- exitwave/exitwavelaw9.BifOrders -/
abbrev r4_0 : List AOper := [
  ⟨some 2, .box 25 (.t 0), none, []⟩,
  ⟨some 3, .box 25 (.t 1), none, []⟩,
  ⟨some 4, .mv (.c (.bool false)), none, []⟩]
abbrev r4_1 : List AOper := [
  ⟨some 16, .callF 6 [], none, []⟩,
  ⟨some 17, .un .not (.t 16), none, [0]⟩]
abbrev r4_2 : List AOper := [
  ⟨some 4, .mv (.c (.bool false)), none, []⟩]
abbrev r4_3 : List AOper := [
  ⟨some 18, .load (some 5) (.t 2), none, []⟩,
  ⟨some 19, .load (some 5) (.t 3), none, []⟩,
  ⟨some 20, .bslice 25 2 [.int .i64 0, .int .i64 0, .flt .f64 0, .str ⟨#[]⟩, .nils, .int .i64 0, .int .i64 0, .flt .f64 0, .str ⟨#[]⟩, .nils] [(0, 5, (.t 18)), (5, 5, (.t 19))], none, [0, 1]⟩,
  ⟨some 21, .callF 7 [(.t 20)], none, [2]⟩,
  ⟨some 22, .un .not (.t 21), none, [3]⟩]
abbrev r4_4 : List AOper := [
  ⟨some 4, .mv (.c (.bool true)), none, []⟩]
abbrev r4_5 : List AOper := [
  ⟨some 23, .load (some 5) (.t 2), none, []⟩,
  ⟨some 24, .load (some 5) (.t 3), none, []⟩,
  ⟨some 25, .bslice 25 2 [.int .i64 0, .int .i64 0, .flt .f64 0, .str ⟨#[]⟩, .nils, .int .i64 0, .int .i64 0, .flt .f64 0, .str ⟨#[]⟩, .nils] [(0, 5, (.t 23)), (5, 5, (.t 24))], none, [0, 1]⟩,
  ⟨some 5, .mv (.t 25), none, [2, 0, 1, 2]⟩]
abbrev r4_6 : List AOper := [
  ⟨some 6, .mv (.c (.int .i64 0)), none, []⟩]
abbrev r4_7 : List AOper := [
  ⟨some 26, .bslice 9 8 [.str ⟨#[]⟩, .str ⟨#[]⟩, .str ⟨#[]⟩, .str ⟨#[]⟩, .str ⟨#[]⟩, .str ⟨#[]⟩, .str ⟨#[]⟩, .str ⟨#[]⟩] [(0, 1, (.c (.str ⟨#[60]⟩))), (1, 1, (.c (.str ⟨#[61, 61]⟩))), (2, 1, (.c (.str ⟨#[62]⟩))), (3, 1, (.c (.str ⟨#[61, 60]⟩))), (4, 1, (.c (.str ⟨#[62, 61]⟩))), (5, 1, (.c (.str ⟨#[47, 61]⟩))), (6, 1, (.c (.str ⟨#[61, 58, 61]⟩))), (7, 1, (.c (.str ⟨#[61, 47, 61]⟩)))], none, []⟩,
  ⟨some 7, .mv (.t 26), none, [0, 0]⟩]
abbrev r4_8 : List AOper := [
  ⟨some 8, .mv (.c (.nils)), none, []⟩]
abbrev r4_9 : List AOper := [
  ⟨some 9, .mv (.c (.int .i64 0)), none, []⟩]
abbrev r4_10 : List AOper := [
  ⟨some 27, .mv (.t 9), none, []⟩,
  ⟨some 28, .mv (.t 7), none, []⟩,
  ⟨some 29, .len 1 (.t 28), none, [1]⟩,
  ⟨some 30, .bin .lss (.t 27) (.t 29), none, [0, 2]⟩]
abbrev r4_12 : List AOper := [
  ⟨some 34, .mv (.t 7), none, []⟩,
  ⟨some 35, .mv (.t 9), none, []⟩,
  ⟨some 36, .iaddr 1 (.t 34) (.t 35), none, [0, 1]⟩,
  ⟨some 37, .load none (.t 36), none, [2]⟩,
  ⟨some 38, .mv (.t 5), none, []⟩,
  ⟨some 39, .callF 11 [(.t 37), (.t 38)], none, [3, 4]⟩,
  ⟨some 33, .mv (.t 39), none, [5]⟩,
  ⟨some 40, .extract (.t 33) 0, none, [6]⟩,
  ⟨some 41, .extract (.t 33) 1, none, [6]⟩,
  ⟨some 10, .alloc 25 (.agg [.int .i64 0, .int .i64 0, .flt .f64 0, .str ⟨#[]⟩, .nils]), none, []⟩,
  ⟨none, .store 5 (.t 10) (.t 40), none, [9, 7, 5, 0, 1, 2, 3, 4, 5, 6, 7, 9]⟩,
  ⟨some 11, .mv (.t 41), none, [8, 10, 0, 1, 2, 3, 4, 5, 6, 7, 8, 9, 10]⟩]
abbrev r4_13 : List AOper := [
  ⟨some 42, .mv (.t 11), none, []⟩,
  ⟨some 43, .bin .neq (.t 42) (.c (.int .i64 0)), none, [0]⟩,
  ⟨some 44, .mv (.t 43), none, [1]⟩,
  ⟨some 45, .faddr 0 (.t 10), some (44, false), [2]⟩,
  ⟨some 46, .load none (.t 45), some (44, false), [3, 2]⟩,
  ⟨some 47, .bin .neq (.t 46) (.c (.int .i64 3)), some (44, false), [4, 2]⟩,
  ⟨some 48, .pick (.t 44) (.c (.bool true)) (.t 47), none, [2, 5]⟩,
  ⟨some 49, .mv (.t 48), none, [6, 2]⟩,
  ⟨some 50, .faddr 3 (.t 10), some (49, false), [7]⟩,
  ⟨some 51, .load none (.t 50), some (49, false), [8, 7]⟩,
  ⟨some 52, .bin .neq (.t 51) (.c (.str ⟨#[116, 114, 117, 101]⟩)), some (49, false), [9, 7]⟩,
  ⟨some 53, .mv (.t 52), some (49, false), [10, 7, 7]⟩,
  ⟨some 54, .faddr 3 (.t 10), some (53, true), [11]⟩,
  ⟨some 55, .load none (.t 54), some (53, true), [12, 11]⟩,
  ⟨some 56, .bin .neq (.t 55) (.c (.str ⟨#[102, 97, 108, 115, 101]⟩)), some (53, true), [13, 11]⟩,
  ⟨some 57, .pick (.t 53) (.t 56) (.c (.bool false)), some (49, false), [11, 14, 7]⟩,
  ⟨some 58, .pick (.t 49) (.c (.bool true)) (.t 57), none, [7, 15]⟩]
abbrev r4_14 : List AOper := [
  ⟨some 4, .mv (.c (.bool false)), none, []⟩]
abbrev r4_15 : List AOper := [
  ⟨some 59, .mv (.t 8), none, []⟩,
  ⟨some 60, .faddr 3 (.t 10), none, []⟩,
  ⟨some 61, .load none (.t 60), none, [1]⟩,
  ⟨some 62, .bin .eql (.t 61) (.c (.str ⟨#[116, 114, 117, 101]⟩)), none, [2]⟩,
  ⟨some 63, .bslice 4 1 [.bool false] [(0, 1, (.t 62))], none, [3]⟩,
  ⟨some 64, .app 4 1 1 (.t 59) (.t 63), none, [0, 4]⟩,
  ⟨some 8, .mv (.t 64), none, [5, 5, 0, 1, 2, 3, 4, 5]⟩]
abbrev r4_16 : List AOper := [
  ⟨some 65, .mv (.t 9), none, []⟩,
  ⟨some 66, .bin .lss (.t 65) (.c (.int .i64 3)), none, [0]⟩,
  ⟨some 67, .mv (.t 66), none, [1]⟩,
  ⟨some 68, .faddr 3 (.t 10), some (67, true), [2]⟩,
  ⟨some 69, .load none (.t 68), some (67, true), [3, 2]⟩,
  ⟨some 70, .bin .eql (.t 69) (.c (.str ⟨#[116, 114, 117, 101]⟩)), some (67, true), [4, 2]⟩,
  ⟨some 71, .pick (.t 67) (.t 70) (.c (.bool false)), none, [2, 5]⟩]
abbrev r4_17 : List AOper := [
  ⟨some 72, .mv (.t 6), none, []⟩,
  ⟨some 73, .bin .add (.t 72) (.c (.int .i64 1)), none, [0]⟩,
  ⟨some 6, .mv (.t 73), none, [1, 0, 1]⟩]
abbrev r4_11 : List AOper := [
  ⟨some 31, .mv (.t 9), none, []⟩,
  ⟨some 32, .bin .add (.t 31) (.c (.int .i64 1)), none, [0]⟩,
  ⟨some 9, .mv (.t 32), none, [1, 0, 1]⟩]
def l4_0 : ACode :=
  .seq (
  .seq (
  .region false r4_10 [2, 3, 5, 6, 7, 8, 9, 30]) (
  .cond (.t 30) (
    .skip) (
    .exit 0))) (
  .seq (
  .block 1 (
    .seq (
    .region false r4_12 [2, 3, 5, 6, 7, 8, 9, 10, 11]) (
    .seq (
    .seq (
    .region false r4_13 [2, 3, 5, 6, 7, 8, 9, 10, 58]) (
    .cond (.t 58) (
      .seq (
      .region false r4_14 [4]) (
      .ret)) (
      .skip))) (
    .seq (
    .region false r4_15 [2, 3, 5, 6, 7, 8, 9, 10]) (
    .seq (
    .region false r4_16 [2, 3, 5, 6, 7, 8, 9, 71]) (
    .cond (.t 71) (
      .region false r4_17 [2, 3, 5, 6, 7, 8, 9]) (
      .skip))))))) (
  .region false r4_11 [2, 3, 5, 6, 7, 8, 9]))
abbrev r4_18 : List AOper := [
  ⟨some 74, .mv (.t 6), none, []⟩,
  ⟨some 75, .bin .neq (.t 74) (.c (.int .i64 1)), none, [0]⟩,
  ⟨some 76, .mv (.t 75), none, [1]⟩,
  ⟨some 77, .mv (.t 8), some (76, false), [2]⟩,
  ⟨some 78, .iaddr 1 (.t 77) (.c (.int .i64 3)), some (76, false), [3, 2]⟩,
  ⟨some 79, .load none (.t 78), some (76, false), [4, 2]⟩,
  ⟨some 80, .mv (.t 8), some (76, false), [2]⟩,
  ⟨some 81, .iaddr 1 (.t 80) (.c (.int .i64 0)), some (76, false), [6, 2]⟩,
  ⟨some 82, .load none (.t 81), some (76, false), [7, 2]⟩,
  ⟨some 83, .mv (.t 82), some (76, false), [8, 2, 2]⟩,
  ⟨some 84, .mv (.t 8), some (83, false), [9]⟩,
  ⟨some 85, .iaddr 1 (.t 84) (.c (.int .i64 1)), some (83, false), [10, 9]⟩,
  ⟨some 86, .load none (.t 85), some (83, false), [11, 9]⟩,
  ⟨some 87, .pick (.t 83) (.c (.bool true)) (.t 86), some (76, false), [9, 12, 2]⟩,
  ⟨some 88, .eqB true (.t 79) (.t 87), some (76, false), [5, 13, 2]⟩,
  ⟨some 89, .pick (.t 76) (.c (.bool true)) (.t 88), none, [2, 14]⟩,
  ⟨some 90, .mv (.t 89), none, [15, 9]⟩,
  ⟨some 91, .mv (.t 8), some (90, false), [16]⟩,
  ⟨some 92, .iaddr 1 (.t 91) (.c (.int .i64 4)), some (90, false), [17, 16]⟩,
  ⟨some 93, .load none (.t 92), some (90, false), [18, 16]⟩,
  ⟨some 94, .mv (.t 8), some (90, false), [16]⟩,
  ⟨some 95, .iaddr 1 (.t 94) (.c (.int .i64 2)), some (90, false), [20, 16]⟩,
  ⟨some 96, .load none (.t 95), some (90, false), [21, 16]⟩,
  ⟨some 97, .mv (.t 96), some (90, false), [22, 16, 16]⟩,
  ⟨some 98, .mv (.t 8), some (97, false), [23]⟩,
  ⟨some 99, .iaddr 1 (.t 98) (.c (.int .i64 1)), some (97, false), [24, 23]⟩,
  ⟨some 100, .load none (.t 99), some (97, false), [25, 23]⟩,
  ⟨some 101, .pick (.t 97) (.c (.bool true)) (.t 100), some (90, false), [23, 26, 16]⟩,
  ⟨some 102, .eqB true (.t 93) (.t 101), some (90, false), [19, 27, 16]⟩,
  ⟨some 103, .pick (.t 90) (.c (.bool true)) (.t 102), none, [16, 28]⟩,
  ⟨some 104, .mv (.t 103), none, [29, 23]⟩,
  ⟨some 105, .mv (.t 8), some (104, false), [30]⟩,
  ⟨some 106, .iaddr 1 (.t 105) (.c (.int .i64 5)), some (104, false), [31, 30]⟩,
  ⟨some 107, .load none (.t 106), some (104, false), [32, 30]⟩,
  ⟨some 108, .mv (.t 8), some (104, false), [30]⟩,
  ⟨some 109, .iaddr 1 (.t 108) (.c (.int .i64 1)), some (104, false), [34, 30]⟩,
  ⟨some 110, .load none (.t 109), some (104, false), [35, 30]⟩,
  ⟨some 111, .eqB false (.t 107) (.t 110), some (104, false), [33, 36, 30]⟩,
  ⟨some 112, .pick (.t 104) (.c (.bool true)) (.t 111), none, [30, 37]⟩,
  ⟨some 113, .mv (.t 112), none, [38, 30]⟩,
  ⟨some 114, .mv (.t 8), some (113, false), [39]⟩,
  ⟨some 115, .iaddr 1 (.t 114) (.c (.int .i64 6)), some (113, false), [40, 39]⟩,
  ⟨some 116, .load none (.t 115), some (113, false), [41, 39]⟩,
  ⟨some 117, .mv (.t 116), some (113, false), [42, 39, 39]⟩,
  ⟨some 118, .mv (.t 8), some (117, true), [43]⟩,
  ⟨some 119, .iaddr 1 (.t 118) (.c (.int .i64 1)), some (117, true), [44, 43]⟩,
  ⟨some 120, .load none (.t 119), some (117, true), [45, 43]⟩,
  ⟨some 121, .un .not (.t 120), some (117, true), [46, 43]⟩,
  ⟨some 122, .pick (.t 117) (.t 121) (.c (.bool false)), some (113, false), [43, 47, 39]⟩,
  ⟨some 123, .pick (.t 113) (.c (.bool true)) (.t 122), none, [39, 48]⟩,
  ⟨some 124, .mv (.t 123), none, [49, 43]⟩,
  ⟨some 125, .mv (.t 8), some (124, false), [50]⟩,
  ⟨some 126, .iaddr 1 (.t 125) (.c (.int .i64 6)), some (124, false), [51, 50]⟩,
  ⟨some 127, .load none (.t 126), some (124, false), [52, 50]⟩,
  ⟨some 128, .mv (.t 8), some (124, false), [50]⟩,
  ⟨some 129, .iaddr 1 (.t 128) (.c (.int .i64 7)), some (124, false), [54, 50]⟩,
  ⟨some 130, .load none (.t 129), some (124, false), [55, 50]⟩,
  ⟨some 131, .eqB false (.t 127) (.t 130), some (124, false), [53, 56, 50]⟩,
  ⟨some 132, .pick (.t 124) (.c (.bool true)) (.t 131), none, [50, 57]⟩]
abbrev r4_19 : List AOper := [
  ⟨some 4, .mv (.c (.bool false)), none, []⟩]
abbrev r4_20 : List AOper := [
  ⟨some 134, .load (some 5) (.t 2), none, []⟩,
  ⟨some 135, .load (some 5) (.t 3), none, []⟩,
  ⟨some 136, .bslice 25 2 [.int .i64 0, .int .i64 0, .flt .f64 0, .str ⟨#[]⟩, .nils, .int .i64 0, .int .i64 0, .flt .f64 0, .str ⟨#[]⟩, .nils] [(0, 5, (.t 134)), (5, 5, (.t 135))], none, [0, 1]⟩,
  ⟨some 137, .callF 8 [(.c (.str ⟨#[109, 105, 110]⟩)), (.t 136)], none, [2]⟩,
  ⟨some 133, .mv (.t 137), none, [3]⟩,
  ⟨some 138, .extract (.t 133) 0, none, [4]⟩,
  ⟨some 139, .extract (.t 133) 1, none, [4]⟩,
  ⟨some 12, .alloc 25 (.agg [.int .i64 0, .int .i64 0, .flt .f64 0, .str ⟨#[]⟩, .nils]), none, []⟩,
  ⟨none, .store 5 (.t 12) (.t 138), none, [7, 5, 3, 0, 1, 2, 3, 4, 5, 7]⟩,
  ⟨some 13, .mv (.t 139), none, [6, 8, 0, 1, 2, 3, 4, 5, 6, 7, 8]⟩]
abbrev r4_21 : List AOper := [
  ⟨some 141, .load (some 5) (.t 2), none, []⟩,
  ⟨some 142, .load (some 5) (.t 3), none, []⟩,
  ⟨some 143, .bslice 25 2 [.int .i64 0, .int .i64 0, .flt .f64 0, .str ⟨#[]⟩, .nils, .int .i64 0, .int .i64 0, .flt .f64 0, .str ⟨#[]⟩, .nils] [(0, 5, (.t 141)), (5, 5, (.t 142))], none, [0, 1]⟩,
  ⟨some 144, .callF 8 [(.c (.str ⟨#[109, 97, 120]⟩)), (.t 143)], none, [2]⟩,
  ⟨some 140, .mv (.t 144), none, [3]⟩,
  ⟨some 145, .extract (.t 140) 0, none, [4]⟩,
  ⟨some 146, .extract (.t 140) 1, none, [4]⟩,
  ⟨some 14, .alloc 25 (.agg [.int .i64 0, .int .i64 0, .flt .f64 0, .str ⟨#[]⟩, .nils]), none, []⟩,
  ⟨none, .store 5 (.t 14) (.t 145), none, [7, 5, 3, 0, 1, 2, 3, 4, 5, 7]⟩,
  ⟨some 15, .mv (.t 146), none, [6, 8, 0, 1, 2, 3, 4, 5, 6, 7, 8]⟩]
abbrev r4_22 : List AOper := [
  ⟨some 147, .mv (.t 13), none, []⟩,
  ⟨some 148, .un .not (.t 147), none, [0]⟩,
  ⟨some 149, .mv (.t 148), none, [1]⟩,
  ⟨some 150, .mv (.t 15), some (149, false), [2]⟩,
  ⟨some 151, .un .not (.t 150), some (149, false), [3, 2]⟩,
  ⟨some 152, .pick (.t 149) (.c (.bool true)) (.t 151), none, [2, 4]⟩]
abbrev r4_23 : List AOper := [
  ⟨some 4, .mv (.c (.bool false)), none, []⟩]
abbrev r4_24 : List AOper := [
  ⟨some 153, .mv (.t 8), none, []⟩,
  ⟨some 154, .iaddr 1 (.t 153) (.c (.int .i64 2)), none, [0]⟩,
  ⟨some 155, .load none (.t 154), none, [1]⟩]
abbrev r4_25 : List AOper := [
  ⟨some 156, .load (some 5) (.t 12), none, []⟩,
  ⟨some 157, .load (some 5) (.t 3), none, []⟩,
  ⟨some 158, .callF 9 [(.t 156), (.t 157)], none, [0, 1]⟩,
  ⟨some 159, .mv (.t 158), none, [2, 2]⟩,
  ⟨some 160, .load (some 5) (.t 14), some (159, true), [3]⟩,
  ⟨some 161, .load (some 5) (.t 2), some (159, true), [3]⟩,
  ⟨some 162, .callF 9 [(.t 160), (.t 161)], some (159, true), [4, 5, 3, 3]⟩,
  ⟨some 163, .pick (.t 159) (.t 162) (.c (.bool false)), none, [3, 6]⟩,
  ⟨some 4, .mv (.t 163), none, [7, 6, 0, 1, 2, 3, 4, 5, 6, 7]⟩]
abbrev r4_26 : List AOper := [
  ⟨some 164, .load (some 5) (.t 12), none, []⟩,
  ⟨some 165, .load (some 5) (.t 2), none, []⟩,
  ⟨some 166, .callF 9 [(.t 164), (.t 165)], none, [0, 1]⟩,
  ⟨some 167, .mv (.t 166), none, [2, 2]⟩,
  ⟨some 168, .load (some 5) (.t 14), some (167, true), [3]⟩,
  ⟨some 169, .load (some 5) (.t 3), some (167, true), [3]⟩,
  ⟨some 170, .callF 9 [(.t 168), (.t 169)], some (167, true), [4, 5, 3, 3]⟩,
  ⟨some 171, .mv (.t 170), some (167, true), [6, 6, 3]⟩,
  ⟨some 172, .mv (.t 8), some (171, false), [7]⟩,
  ⟨some 173, .iaddr 1 (.t 172) (.c (.int .i64 1)), some (171, false), [8, 7]⟩,
  ⟨some 174, .load none (.t 173), some (171, false), [9, 7]⟩,
  ⟨some 175, .mv (.t 174), some (171, false), [10, 7, 7]⟩,
  ⟨some 176, .load (some 5) (.t 14), some (175, true), [11]⟩,
  ⟨some 177, .load (some 5) (.t 2), some (175, true), [11]⟩,
  ⟨some 178, .callF 9 [(.t 176), (.t 177)], some (175, true), [12, 13, 11, 11]⟩,
  ⟨some 179, .pick (.t 175) (.t 178) (.c (.bool false)), some (171, false), [11, 14, 7]⟩,
  ⟨some 180, .pick (.t 171) (.c (.bool true)) (.t 179), some (167, true), [7, 15, 3]⟩,
  ⟨some 181, .pick (.t 167) (.t 180) (.c (.bool false)), none, [3, 16]⟩,
  ⟨some 4, .mv (.t 181), none, [17, 14, 0, 1, 2, 3, 4, 5, 6, 7, 8, 9, 10, 11, 12, 13, 14, 15, 16, 17]⟩]
def m4_18 : List Nat := [0, 1, 3, 7, 15, 31, 7, 71, 199, 455, 967, 1991, 4039, 8135, 16383, 32767, 65535, 131071, 262143, 524287, 131071, 1179647, 3276799, 7471103, 15859711, 32636927, 66191359, 133300223, 268435455, 536870911, 1073741823, 2147483647, 4294967295, 8589934591, 2147483647, 19327352831, 53687091199, 137438953471, 274877906943, 549755813887, 1099511627775, 2199023255551, 4398046511103, 8796093022207, 17592186044415, 35184372088831, 70368744177663, 140737488355327, 281474976710655, 562949953421311, 1125899906842623, 2251799813685247, 4503599627370495, 9007199254740991, 2251799813685247, 20266198323167231, 56294995342131199, 144115188075855871, 288230376151711743]
theorem d4_18 : okDraw r4_18 m4_18 = true := by kernel_rfl
def k4 : List (List Nat) := [[2, 3], [2, 3, 17], [4], [2, 3, 22], [4], [2, 3, 5], [2, 3, 5, 6], [2, 3, 5, 6, 7], [2, 3, 5, 6, 7, 8], [2, 3, 5, 6, 7, 8, 9], [2, 3, 5, 6, 7, 8, 9, 30], [2, 3, 5, 6, 7, 8, 9], [2, 3, 5, 6, 7, 8, 9, 10, 11], [2, 3, 5, 6, 7, 8, 9, 10, 58], [4], [2, 3, 5, 6, 7, 8, 9, 10], [2, 3, 5, 6, 7, 8, 9, 71], [2, 3, 5, 6, 7, 8, 9], [2, 3, 8, 132], [4], [2, 3, 8, 12, 13], [2, 3, 8, 12, 13, 14, 15], [2, 3, 8, 12, 14, 152], [4], [2, 3, 8, 12, 14, 155], [4], [4]]
def f4 : AFunc := { ntmps := 182, results := [.tmp 4], body := (
  .seq (
  .region false r4_0 [2, 3]) (
  .seq (
  .seq (
  .region false r4_1 [2, 3, 17]) (
  .cond (.t 17) (
    .seq (
    .region false r4_2 [4]) (
    .ret)) (
    .skip))) (
  .seq (
  .seq (
  .region false r4_3 [2, 3, 22]) (
  .cond (.t 22) (
    .seq (
    .region false r4_4 [4]) (
    .ret)) (
    .skip))) (
  .seq (
  .region false r4_5 [2, 3, 5]) (
  .seq (
  .region false r4_6 [2, 3, 5, 6]) (
  .seq (
  .region false r4_7 [2, 3, 5, 6, 7]) (
  .seq (
  .region false r4_8 [2, 3, 5, 6, 7, 8]) (
  .seq (
  .seq (
  .region false r4_9 [2, 3, 5, 6, 7, 8, 9]) (
  .block 0 (
    .loop l4_0))) (
  .seq (
  .seq (
  .region true r4_18 [2, 3, 8, 132]) (
  .cond (.t 132) (
    .seq (
    .region false r4_19 [4]) (
    .ret)) (
    .skip))) (
  .seq (
  .region false r4_20 [2, 3, 8, 12, 13]) (
  .seq (
  .region false r4_21 [2, 3, 8, 12, 13, 14, 15]) (
  .seq (
  .seq (
  .region false r4_22 [2, 3, 8, 12, 14, 152]) (
  .cond (.t 152) (
    .seq (
    .region false r4_23 [4]) (
    .ret)) (
    .skip))) (
  .seq (
  .seq (
  .region false r4_24 [2, 3, 8, 12, 14, 155]) (
  .cond (.t 155) (
    .seq (
    .region false r4_25 [4]) (
    .ret)) (
    .skip))) (
  .seq (
  .region false r4_26 [4]) (
  .ret))))))))))))))) }
theorem c4 : cfunc Tryz.prog (kof k4) Tryz.f4 = some f4 := by kernel_rfl

/-- exitwave/bif.two$5 -/
abbrev r47_0 : List AOper := [
  ⟨some 2, .mv (.c (.bool false)), none, []⟩]
abbrev r47_1 : List AOper := [
  ⟨some 3, .mv (.t 0), none, []⟩,
  ⟨some 4, .bin .neq (.t 3) (.c (.int .i64 0)), none, [0]⟩,
  ⟨some 2, .mv (.t 4), none, [1, 0, 1]⟩]
def k47 : List (List Nat) := [[0], [2]]
def f47 : AFunc := { ntmps := 5, results := [.tmp 2], body := (
  .seq (
  .region false r47_0 [0]) (
  .seq (
  .region false r47_1 [2]) (
  .ret))) }
theorem c47 : cfunc Tryz.prog (kof k47) Tryz.f47 = some f47 := by kernel_rfl

/-- exitwave/bif.two$6 -/
abbrev r48_0 : List AOper := [
  ⟨some 2, .mv (.c (.bool false)), none, []⟩]
abbrev r48_1 : List AOper := [
  ⟨some 3, .mv (.t 0), none, []⟩,
  ⟨some 4, .bin .leq (.t 3) (.c (.int .i64 0)), none, [0]⟩,
  ⟨some 2, .mv (.t 4), none, [1, 0, 1]⟩]
def k48 : List (List Nat) := [[0], [2]]
def f48 : AFunc := { ntmps := 5, results := [.tmp 2], body := (
  .seq (
  .region false r48_0 [0]) (
  .seq (
  .region false r48_1 [2]) (
  .ret))) }
theorem c48 : cfunc Tryz.prog (kof k48) Tryz.f48 = some f48 := by kernel_rfl

/-- exitwave/bif.two$7 -/
abbrev r49_0 : List AOper := [
  ⟨some 2, .mv (.c (.bool false)), none, []⟩]
abbrev r49_1 : List AOper := [
  ⟨some 3, .mv (.t 0), none, []⟩,
  ⟨some 4, .bin .lss (.t 3) (.c (.int .i64 0)), none, [0]⟩,
  ⟨some 2, .mv (.t 4), none, [1, 0, 1]⟩]
def k49 : List (List Nat) := [[0], [2]]
def f49 : AFunc := { ntmps := 5, results := [.tmp 2], body := (
  .seq (
  .region false r49_0 [0]) (
  .seq (
  .region false r49_1 [2]) (
  .ret))) }
theorem c49 : cfunc Tryz.prog (kof k49) Tryz.f49 = some f49 := by kernel_rfl

/-- exitwave/bif.two$8 -/
abbrev r50_0 : List AOper := [
  ⟨some 2, .mv (.c (.bool false)), none, []⟩]
abbrev r50_1 : List AOper := [
  ⟨some 3, .mv (.t 0), none, []⟩,
  ⟨some 4, .bin .geq (.t 3) (.c (.int .i64 0)), none, [0]⟩,
  ⟨some 2, .mv (.t 4), none, [1, 0, 1]⟩]
def k50 : List (List Nat) := [[0], [2]]
def f50 : AFunc := { ntmps := 5, results := [.tmp 2], body := (
  .seq (
  .region false r50_0 [0]) (
  .seq (
  .region false r50_1 [2]) (
  .ret))) }
theorem c50 : cfunc Tryz.prog (kof k50) Tryz.f50 = some f50 := by kernel_rfl

/-- exitwave/bif.two$9 -/
abbrev r51_0 : List AOper := [
  ⟨some 2, .mv (.c (.bool false)), none, []⟩]
abbrev r51_1 : List AOper := [
  ⟨some 3, .mv (.t 0), none, []⟩,
  ⟨some 4, .bin .gtr (.t 3) (.c (.int .i64 0)), none, [0]⟩,
  ⟨some 2, .mv (.t 4), none, [1, 0, 1]⟩]
def k51 : List (List Nat) := [[0], [2]]
def f51 : AFunc := { ntmps := 5, results := [.tmp 2], body := (
  .seq (
  .region false r51_0 [0]) (
  .seq (
  .region false r51_1 [2]) (
  .ret))) }
theorem c51 : cfunc Tryz.prog (kof k51) Tryz.f51 = some f51 := by kernel_rfl

/-- (*exitwave/bif.call).min -/
abbrev r93_0 : List AOper := [
  ⟨some 2, .alloc 25 (.agg [.int .i64 0, .int .i64 0, .flt .f64 0, .str ⟨#[]⟩, .nils]), none, []⟩]
abbrev r93_1 : List AOper := [
  ⟨some 3, .mv (.t 0), none, []⟩,
  ⟨some 4, .nilchk (.t 3), none, [0]⟩,
  ⟨some 5, .faddr 0 (.t 4), none, [1]⟩,
  ⟨some 6, .load none (.t 5), none, [2]⟩,
  ⟨some 7, .iaddr 5 (.t 6) (.c (.int .i64 1)), none, [3]⟩,
  ⟨some 8, .load (some 5) (.t 7), none, [4]⟩,
  ⟨some 9, .mv (.t 0), none, []⟩,
  ⟨some 10, .nilchk (.t 9), none, [6]⟩,
  ⟨some 11, .faddr 0 (.t 10), none, [7]⟩,
  ⟨some 12, .load none (.t 11), none, [8]⟩,
  ⟨some 13, .iaddr 5 (.t 12) (.c (.int .i64 0)), none, [9]⟩,
  ⟨some 14, .load (some 5) (.t 13), none, [10]⟩,
  ⟨some 15, .callF 121 [(.t 8), (.t 14)], none, [5, 11]⟩]
abbrev r93_2 : List AOper := [
  ⟨some 16, .mv (.t 0), none, []⟩,
  ⟨some 17, .nilchk (.t 16), none, [0]⟩,
  ⟨some 18, .faddr 0 (.t 17), none, [1]⟩,
  ⟨some 19, .load none (.t 18), none, [2]⟩,
  ⟨some 20, .iaddr 5 (.t 19) (.c (.int .i64 1)), none, [3]⟩,
  ⟨some 21, .load (some 5) (.t 20), none, [4]⟩,
  ⟨none, .store 5 (.t 2) (.t 21), none, [5, 0, 1, 2, 3, 4, 5]⟩]
abbrev r93_3 : List AOper := [
  ⟨some 22, .mv (.t 0), none, []⟩,
  ⟨some 23, .nilchk (.t 22), none, [0]⟩,
  ⟨some 24, .faddr 0 (.t 23), none, [1]⟩,
  ⟨some 25, .load none (.t 24), none, [2]⟩,
  ⟨some 26, .iaddr 5 (.t 25) (.c (.int .i64 0)), none, [3]⟩,
  ⟨some 27, .load (some 5) (.t 26), none, [4]⟩,
  ⟨none, .store 5 (.t 2) (.t 27), none, [5, 0, 1, 2, 3, 4, 5]⟩]
def m93_1 : List Nat := [0, 1, 3, 7, 15, 31, 0, 64, 192, 448, 960, 1984, 4095]
theorem d93_1 : okDraw r93_1 m93_1 = true := by kernel_rfl
def k93 : List (List Nat) := [[0, 2], [0, 2, 15], [2], [2]]
def f93 : AFunc := { ntmps := 28, results := [.cell 2 (some 5)], body := (
  .seq (
  .region false r93_0 [0, 2]) (
  .seq (
  .seq (
  .region true r93_1 [0, 2, 15]) (
  .cond (.t 15) (
    .seq (
    .region false r93_2 [2]) (
    .ret)) (
    .skip))) (
  .seq (
  .region false r93_3 [2]) (
  .ret)))) }
theorem c93 : cfunc Tryz.prog (kof k93) Tryz.f93 = some f93 := by kernel_rfl

/-- (*exitwave/bif.call).max -/
abbrev r94_0 : List AOper := [
  ⟨some 2, .alloc 25 (.agg [.int .i64 0, .int .i64 0, .flt .f64 0, .str ⟨#[]⟩, .nils]), none, []⟩]
abbrev r94_1 : List AOper := [
  ⟨some 3, .mv (.t 0), none, []⟩,
  ⟨some 4, .nilchk (.t 3), none, [0]⟩,
  ⟨some 5, .faddr 0 (.t 4), none, [1]⟩,
  ⟨some 6, .load none (.t 5), none, [2]⟩,
  ⟨some 7, .iaddr 5 (.t 6) (.c (.int .i64 0)), none, [3]⟩,
  ⟨some 8, .load (some 5) (.t 7), none, [4]⟩,
  ⟨some 9, .mv (.t 0), none, []⟩,
  ⟨some 10, .nilchk (.t 9), none, [6]⟩,
  ⟨some 11, .faddr 0 (.t 10), none, [7]⟩,
  ⟨some 12, .load none (.t 11), none, [8]⟩,
  ⟨some 13, .iaddr 5 (.t 12) (.c (.int .i64 1)), none, [9]⟩,
  ⟨some 14, .load (some 5) (.t 13), none, [10]⟩,
  ⟨some 15, .callF 121 [(.t 8), (.t 14)], none, [5, 11]⟩]
abbrev r94_2 : List AOper := [
  ⟨some 16, .mv (.t 0), none, []⟩,
  ⟨some 17, .nilchk (.t 16), none, [0]⟩,
  ⟨some 18, .faddr 0 (.t 17), none, [1]⟩,
  ⟨some 19, .load none (.t 18), none, [2]⟩,
  ⟨some 20, .iaddr 5 (.t 19) (.c (.int .i64 1)), none, [3]⟩,
  ⟨some 21, .load (some 5) (.t 20), none, [4]⟩,
  ⟨none, .store 5 (.t 2) (.t 21), none, [5, 0, 1, 2, 3, 4, 5]⟩]
abbrev r94_3 : List AOper := [
  ⟨some 22, .mv (.t 0), none, []⟩,
  ⟨some 23, .nilchk (.t 22), none, [0]⟩,
  ⟨some 24, .faddr 0 (.t 23), none, [1]⟩,
  ⟨some 25, .load none (.t 24), none, [2]⟩,
  ⟨some 26, .iaddr 5 (.t 25) (.c (.int .i64 0)), none, [3]⟩,
  ⟨some 27, .load (some 5) (.t 26), none, [4]⟩,
  ⟨none, .store 5 (.t 2) (.t 27), none, [5, 0, 1, 2, 3, 4, 5]⟩]
def m94_1 : List Nat := [0, 1, 3, 7, 15, 31, 0, 64, 192, 448, 960, 1984, 4095]
theorem d94_1 : okDraw r94_1 m94_1 = true := by kernel_rfl
def k94 : List (List Nat) := [[0, 2], [0, 2, 15], [2], [2]]
def f94 : AFunc := { ntmps := 28, results := [.cell 2 (some 5)], body := (
  .seq (
  .region false r94_0 [0, 2]) (
  .seq (
  .seq (
  .region true r94_1 [0, 2, 15]) (
  .cond (.t 15) (
    .seq (
    .region false r94_2 [2]) (
    .ret)) (
    .skip))) (
  .seq (
  .region false r94_3 [2]) (
  .ret)))) }
theorem c94 : cfunc Tryz.prog (kof k94) Tryz.f94 = some f94 := by kernel_rfl

/-- exitwave/bif.below -/
abbrev r121_0 : List AOper := [
  ⟨some 2, .box 25 (.t 0), none, []⟩,
  ⟨some 3, .box 25 (.t 1), none, []⟩,
  ⟨some 4, .mv (.c (.bool false)), none, []⟩]
abbrev r121_1 : List AOper := [
  ⟨some 8, .load (some 5) (.t 2), none, []⟩,
  ⟨some 9, .load (some 5) (.t 3), none, []⟩,
  ⟨some 10, .callF 10 [(.t 8), (.t 9)], none, [0, 1]⟩,
  ⟨some 7, .mv (.t 10), none, [2]⟩,
  ⟨some 11, .extract (.t 7) 0, none, [3]⟩,
  ⟨some 12, .extract (.t 7) 1, none, [3]⟩,
  ⟨some 5, .mv (.t 11), none, [4, 2, 0, 1, 2, 3, 4]⟩,
  ⟨some 6, .mv (.t 12), none, [5, 6, 0, 1, 2, 3, 4, 5, 6]⟩]
abbrev r121_2 : List AOper := [
  ⟨some 13, .mv (.t 5), none, []⟩,
  ⟨some 14, .bin .lss (.t 13) (.c (.int .i64 0)), none, [0]⟩,
  ⟨some 4, .mv (.t 14), none, [1, 0, 1]⟩]
def k121 : List (List Nat) := [[2, 3], [5], [4]]
def f121 : AFunc := { ntmps := 15, results := [.tmp 4], body := (
  .seq (
  .region false r121_0 [2, 3]) (
  .seq (
  .region false r121_1 [5]) (
  .seq (
  .region false r121_2 [4]) (
  .ret)))) }
theorem c121 : cfunc Tryz.prog (kof k121) Tryz.f121 = some f121 := by kernel_rfl

/-- strings.Compare -/
abbrev r35_0 : List AOper := [
  ⟨some 4, .mv (.c (.int .i64 0)), none, []⟩]
abbrev r35_1 : List AOper := [
  ⟨some 5, .mv (.t 0), none, []⟩,
  ⟨some 6, .mv (.t 1), none, []⟩,
  ⟨some 7, .callF 67 [(.t 5), (.t 6)], none, [0, 1]⟩,
  ⟨some 4, .mv (.t 7), none, [2, 2, 0, 1, 2]⟩]
def k35 : List (List Nat) := [[0, 1], [4]]
def f35 : AFunc := { ntmps := 8, results := [.tmp 4], body := (
  .seq (
  .region false r35_0 [0, 1]) (
  .seq (
  .region false r35_1 [4]) (
  .ret))) }
theorem c35 : cfunc Tryz.prog (kof k35) Tryz.f35 = some f35 := by kernel_rfl

/-- internal/bytealg.CompareString -/
abbrev r67_0 : List AOper := [
  ⟨some 4, .mv (.c (.int .i64 0)), none, []⟩]
abbrev r67_1 : List AOper := [
  ⟨some 5, .mv (.t 0), none, []⟩,
  ⟨some 6, .mv (.t 1), none, []⟩,
  ⟨some 7, .ext 7 [(.t 5), (.t 6)], none, [0, 1]⟩,
  ⟨some 4, .mv (.t 7), none, [2, 2, 0, 1, 2]⟩]
def k67 : List (List Nat) := [[0, 1], [4]]
def f67 : AFunc := { ntmps := 8, results := [.tmp 4], body := (
  .seq (
  .region false r67_0 [0, 1]) (
  .seq (
  .region false r67_1 [4]) (
  .ret))) }
theorem c67 : cfunc Tryz.prog (kof k67) Tryz.f67 = some f67 := by kernel_rfl

/-- exitwave/term.lists -/
abbrev r36_0 : List AOper := [
  ⟨some 4, .mv (.c (.int .i64 0)), none, []⟩]
abbrev r36_1 : List AOper := [
  ⟨some 5, .mv (.t 0), none, []⟩,
  ⟨some 6, .mv (.t 1), none, []⟩,
  ⟨some 7, .callF 68 [(.t 5), (.t 6), (.c (.fn (.func 23) [] []))], none, [0, 1]⟩,
  ⟨some 4, .mv (.t 7), none, [2, 2, 0, 1, 2]⟩]
def k36 : List (List Nat) := [[0, 1], [4]]
def f36 : AFunc := { ntmps := 8, results := [.tmp 4], body := (
  .seq (
  .region false r36_0 [0, 1]) (
  .seq (
  .region false r36_1 [4]) (
  .ret))) }
theorem c36 : cfunc Tryz.prog (kof k36) Tryz.f36 = some f36 := by kernel_rfl

/-- slices.CompareFunc[[]exitwave/api.Term,[]exitwave/api.Term,exitwave/api.Term,exitwave/api.Term] -/
abbrev r68_0 : List AOper := [
  ⟨some 6, .mv (.c (.int .i64 0)), none, []⟩]
abbrev r68_1 : List AOper := [
  ⟨some 11, .mv (.t 0), none, []⟩,
  ⟨some 12, .len 1 (.t 11), none, [0]⟩,
  ⟨some 13, .mv (.c (.int .i64 0)), none, []⟩]
abbrev r68_2 : List AOper := [
  ⟨some 14, .bin .lss (.t 13) (.t 12), none, []⟩]
abbrev r68_3 : List AOper := [
  ⟨some 15, .mv (.t 13), none, []⟩,
  ⟨some 16, .iaddr 5 (.t 11) (.t 13), none, []⟩,
  ⟨some 17, .load (some 5) (.t 16), none, [1]⟩,
  ⟨some 8, .alloc 25 (.agg [.int .i64 0, .int .i64 0, .flt .f64 0, .str ⟨#[]⟩, .nils]), none, []⟩,
  ⟨some 7, .mv (.t 15), none, [0, 0, 1, 2, 3]⟩,
  ⟨none, .store 5 (.t 8) (.t 17), none, [3, 2, 4, 0, 1, 2, 3, 4]⟩]
abbrev r68_4 : List AOper := [
  ⟨some 18, .mv (.t 7), none, []⟩,
  ⟨some 19, .mv (.t 1), none, []⟩,
  ⟨some 20, .len 1 (.t 19), none, [1]⟩,
  ⟨some 21, .bin .geq (.t 18) (.t 20), none, [0, 2]⟩]
abbrev r68_5 : List AOper := [
  ⟨some 6, .mv (.c (.int .i64 1)), none, []⟩]
abbrev r68_6 : List AOper := [
  ⟨some 22, .mv (.t 1), none, []⟩,
  ⟨some 23, .mv (.t 7), none, []⟩,
  ⟨some 24, .iaddr 5 (.t 22) (.t 23), none, [0, 1]⟩,
  ⟨some 25, .load (some 5) (.t 24), none, [2]⟩,
  ⟨some 9, .alloc 25 (.agg [.int .i64 0, .int .i64 0, .flt .f64 0, .str ⟨#[]⟩, .nils]), none, []⟩,
  ⟨none, .store 5 (.t 9) (.t 25), none, [4, 3, 0, 1, 2, 3, 4]⟩]
abbrev r68_7 : List AOper := [
  ⟨some 26, .mv (.t 2), none, []⟩,
  ⟨some 27, .load (some 5) (.t 8), none, []⟩,
  ⟨some 28, .load (some 5) (.t 9), none, []⟩,
  ⟨some 29, .callV (.t 26) [(.t 27), (.t 28)], none, [0, 1, 2]⟩,
  ⟨some 10, .mv (.t 29), none, [3, 3, 0, 1, 2, 3]⟩]
abbrev r68_8 : List AOper := [
  ⟨some 30, .mv (.t 10), none, []⟩,
  ⟨some 31, .bin .neq (.t 30) (.c (.int .i64 0)), none, [0]⟩]
abbrev r68_9 : List AOper := [
  ⟨some 32, .mv (.t 10), none, []⟩,
  ⟨some 6, .mv (.t 32), none, [0, 0]⟩]
abbrev r68_10 : List AOper := [
  ⟨some 33, .bin .add (.t 13) (.c (.int .i64 1)), none, []⟩,
  ⟨some 13, .mv (.t 33), none, [0]⟩]
def l68_0 : ACode :=
  .seq (
  .region false r68_2 [0, 1, 2, 11, 12, 13, 14]) (
  .seq (
  .cond (.t 14) (
    .skip) (
    .exit 0)) (
  .seq (
  .block 1 (
    .seq (
    .region false r68_3 [0, 1, 2, 7, 8, 11, 12, 13]) (
    .seq (
    .seq (
    .region false r68_4 [0, 1, 2, 7, 8, 11, 12, 13, 21]) (
    .cond (.t 21) (
      .seq (
      .region false r68_5 [6]) (
      .ret)) (
      .skip))) (
    .seq (
    .region false r68_6 [0, 1, 2, 8, 9, 11, 12, 13]) (
    .seq (
    .region false r68_7 [0, 1, 2, 10, 11, 12, 13]) (
    .seq (
    .region false r68_8 [0, 1, 2, 10, 11, 12, 13, 31]) (
    .cond (.t 31) (
      .seq (
      .region false r68_9 [6]) (
      .ret)) (
      .skip)))))))) (
  .region false r68_10 [0, 1, 2, 11, 12, 13])))
abbrev r68_11 : List AOper := [
  ⟨some 34, .mv (.t 0), none, []⟩,
  ⟨some 35, .len 1 (.t 34), none, [0]⟩,
  ⟨some 36, .mv (.t 1), none, []⟩,
  ⟨some 37, .len 1 (.t 36), none, [2]⟩,
  ⟨some 38, .bin .lss (.t 35) (.t 37), none, [1, 3]⟩]
abbrev r68_12 : List AOper := [
  ⟨some 6, .mv (.c (.int .i64 (-1))), none, []⟩]
abbrev r68_13 : List AOper := [
  ⟨some 6, .mv (.c (.int .i64 0)), none, []⟩]
def k68 : List (List Nat) := [[0, 1, 2], [0, 1, 2, 11, 12, 13], [0, 1, 2, 11, 12, 13, 14], [0, 1, 2, 7, 8, 11, 12, 13], [0, 1, 2, 7, 8, 11, 12, 13, 21], [6], [0, 1, 2, 8, 9, 11, 12, 13], [0, 1, 2, 10, 11, 12, 13], [0, 1, 2, 10, 11, 12, 13, 31], [6], [0, 1, 2, 11, 12, 13], [38], [6], [6]]
def f68 : AFunc := { ntmps := 39, results := [.tmp 6], body := (
  .seq (
  .region false r68_0 [0, 1, 2]) (
  .seq (
  .seq (
  .region false r68_1 [0, 1, 2, 11, 12, 13]) (
  .block 0 (
    .loop l68_0))) (
  .seq (
  .seq (
  .region false r68_11 [38]) (
  .cond (.t 38) (
    .seq (
    .region false r68_12 [6]) (
    .ret)) (
    .skip))) (
  .seq (
  .region false r68_13 [6]) (
  .ret))))) }
theorem c68 : cfunc Tryz.prog (kof k68) Tryz.f68 = some f68 := by kernel_rfl

/-- slices.EqualFunc[[]exitwave/api.Term,[]exitwave/api.Term,exitwave/api.Term,exitwave/api.Term] -/
abbrev r106_0 : List AOper := [
  ⟨some 6, .mv (.c (.bool false)), none, []⟩]
abbrev r106_1 : List AOper := [
  ⟨some 10, .mv (.t 0), none, []⟩,
  ⟨some 11, .len 1 (.t 10), none, [0]⟩,
  ⟨some 12, .mv (.t 1), none, []⟩,
  ⟨some 13, .len 1 (.t 12), none, [2]⟩,
  ⟨some 14, .bin .neq (.t 11) (.t 13), none, [1, 3]⟩]
abbrev r106_2 : List AOper := [
  ⟨some 6, .mv (.c (.bool false)), none, []⟩]
abbrev r106_3 : List AOper := [
  ⟨some 15, .mv (.t 0), none, []⟩,
  ⟨some 16, .len 1 (.t 15), none, [0]⟩,
  ⟨some 17, .mv (.c (.int .i64 0)), none, []⟩]
abbrev r106_4 : List AOper := [
  ⟨some 18, .bin .lss (.t 17) (.t 16), none, []⟩]
abbrev r106_5 : List AOper := [
  ⟨some 19, .mv (.t 17), none, []⟩,
  ⟨some 20, .iaddr 5 (.t 15) (.t 17), none, []⟩,
  ⟨some 21, .load (some 5) (.t 20), none, [1]⟩,
  ⟨some 8, .alloc 25 (.agg [.int .i64 0, .int .i64 0, .flt .f64 0, .str ⟨#[]⟩, .nils]), none, []⟩,
  ⟨some 7, .mv (.t 19), none, [0, 0, 1, 2, 3]⟩,
  ⟨none, .store 5 (.t 8) (.t 21), none, [3, 2, 4, 0, 1, 2, 3, 4]⟩]
abbrev r106_6 : List AOper := [
  ⟨some 22, .mv (.t 1), none, []⟩,
  ⟨some 23, .mv (.t 7), none, []⟩,
  ⟨some 24, .iaddr 5 (.t 22) (.t 23), none, [0, 1]⟩,
  ⟨some 25, .load (some 5) (.t 24), none, [2]⟩,
  ⟨some 9, .alloc 25 (.agg [.int .i64 0, .int .i64 0, .flt .f64 0, .str ⟨#[]⟩, .nils]), none, []⟩,
  ⟨none, .store 5 (.t 9) (.t 25), none, [4, 3, 0, 1, 2, 3, 4]⟩]
abbrev r106_7 : List AOper := [
  ⟨some 26, .mv (.t 2), none, []⟩,
  ⟨some 27, .load (some 5) (.t 8), none, []⟩,
  ⟨some 28, .load (some 5) (.t 9), none, []⟩,
  ⟨some 29, .callV (.t 26) [(.t 27), (.t 28)], none, [0, 1, 2]⟩,
  ⟨some 30, .un .not (.t 29), none, [3]⟩]
abbrev r106_8 : List AOper := [
  ⟨some 6, .mv (.c (.bool false)), none, []⟩]
abbrev r106_9 : List AOper := [
  ⟨some 31, .bin .add (.t 17) (.c (.int .i64 1)), none, []⟩,
  ⟨some 17, .mv (.t 31), none, [0]⟩]
def l106_0 : ACode :=
  .seq (
  .region false r106_4 [1, 2, 15, 16, 17, 18]) (
  .seq (
  .cond (.t 18) (
    .skip) (
    .exit 0)) (
  .seq (
  .block 1 (
    .seq (
    .region false r106_5 [1, 2, 7, 8, 15, 16, 17]) (
    .seq (
    .region false r106_6 [1, 2, 8, 9, 15, 16, 17]) (
    .seq (
    .region false r106_7 [1, 2, 15, 16, 17, 30]) (
    .cond (.t 30) (
      .seq (
      .region false r106_8 [6]) (
      .ret)) (
      .skip)))))) (
  .region false r106_9 [1, 2, 15, 16, 17])))
abbrev r106_10 : List AOper := [
  ⟨some 6, .mv (.c (.bool true)), none, []⟩]
def k106 : List (List Nat) := [[0, 1, 2], [0, 1, 2, 14], [6], [1, 2, 15, 16, 17], [1, 2, 15, 16, 17, 18], [1, 2, 7, 8, 15, 16, 17], [1, 2, 8, 9, 15, 16, 17], [1, 2, 15, 16, 17, 30], [6], [1, 2, 15, 16, 17], [6]]
def f106 : AFunc := { ntmps := 32, results := [.tmp 6], body := (
  .seq (
  .region false r106_0 [0, 1, 2]) (
  .seq (
  .seq (
  .region false r106_1 [0, 1, 2, 14]) (
  .cond (.t 14) (
    .seq (
    .region false r106_2 [6]) (
    .ret)) (
    .skip))) (
  .seq (
  .seq (
  .region false r106_3 [1, 2, 15, 16, 17]) (
  .block 0 (
    .loop l106_0))) (
  .seq (
  .region false r106_10 [6]) (
  .ret))))) }
theorem c106 : cfunc Tryz.prog (kof k106) Tryz.f106 = some f106 := by kernel_rfl


end Go.Am.Rl
