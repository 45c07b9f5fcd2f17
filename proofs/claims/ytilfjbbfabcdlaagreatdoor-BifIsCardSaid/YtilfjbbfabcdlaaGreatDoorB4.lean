/- The law BifIs: it answers true. -/
import Derived.Test.YtilfjbbfabcdlaaGreatDoorB2
import Derived.Test.YtilfjbbfabcdlaaGreatDoorB3
set_option linter.unusedVariables false
set_option linter.unusedSimpArgs false
set_option maxRecDepth 20000
namespace Go.Am.Rl
open Go.Proofs

theorem g6 (H : AHeap) (s : ByteArray) (n : Int) : DCall Tryz.prog 6 [.str s, .int .i64 n] H fun a H' => a = .bool true := by
  cases h : isName s with
  | false => exact g6n h
  | true =>
    have := List.all_eq_true.mp (run6_all n) s (isName_eq h)
    split at this
    · rename_i b hx
      subst this
      exact (xclosed_sound mixed tab6_ok orc7_ok hx H).dcall.mono fun a H' ⟨e, _⟩ => e
    · cases this
end Go.Am.Rl
