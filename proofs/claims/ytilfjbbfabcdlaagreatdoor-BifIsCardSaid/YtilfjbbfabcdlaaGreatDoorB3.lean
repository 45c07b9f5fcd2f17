/- The law BifIs run outright at each name of a builtin. -/
import Derived.Test.YtilfjbbfabcdlaaGreatDoorB1
set_option linter.unusedVariables false
set_option linter.unusedSimpArgs false
set_option maxRecDepth 20000
namespace Go.Am.Rl
open Go.Proofs

def orc7 : Orc := fun f xs => match xs with
  | [] => if f = 7 then some (.bool true) else none
  | _ => none
theorem orc7_ok : orc7.Ok Tryz.prog := by
  intro f xs r h H
  unfold orc7 at h
  split at h
  · split at h
    · rename_i e; subst e; injection h with h; subst h
      obtain ⟨r, H1, ⟨rfl, rfl⟩, hd⟩ := g7 H
      exact hd
    · cases h
  · cases h
def tab6 : Tab := (6, f6) :: tab
theorem tab6_ok : tab6.Ok Tryz.prog := ⟨⟨Tryz.f6, kof k6, by kernel_rfl, c6, by kernel_rfl⟩, tab_ok⟩
def run6 (n : Int) : Bool := names.all fun w => match xclosed tab6 orc7 100000 100 szs 6 [.str w, .int .i64 n] with
  | some (.bool b) => b
  | _ => false
theorem run6_0 : run6 (Int.ofNat 0) = true := by kernel_rfl
theorem run6_1 : run6 (Int.ofNat 1) = true := by kernel_rfl
theorem run6_2 : run6 (Int.ofNat 2) = true := by kernel_rfl
theorem run6_3 : run6 (Int.ofNat 3) = true := by kernel_rfl
theorem run6_m (m : Nat) : run6 (Int.ofNat (m + 4)) = true := by kernel_rfl
theorem run6_n (m : Nat) : run6 (Int.negSucc m) = true := by kernel_rfl
theorem run6_all : ∀ n, run6 n = true
  | .ofNat 0 => run6_0
  | .ofNat 1 => run6_1
  | .ofNat 2 => run6_2
  | .ofNat 3 => run6_3
  | .ofNat (m + 4) => run6_m m
  | .negSucc m => run6_n m
end Go.Am.Rl
