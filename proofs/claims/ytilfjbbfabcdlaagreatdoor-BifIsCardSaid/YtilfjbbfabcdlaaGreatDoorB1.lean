/- Names of builtins: those of the document, run outright; all others. -/
import Derived.Test.YtilfjbbfabcdlaaGreatDoorB0
set_option linter.unusedVariables false
set_option linter.unusedSimpArgs false
set_option maxRecDepth 20000
namespace Go.Am.Rl
open Go.Proofs

def names : List ByteArray := [⟨#[97, 98, 115]⟩, ⟨#[102, 108, 111, 97, 116]⟩, ⟨#[116, 114, 117, 110, 99]⟩, ⟨#[114, 111, 117, 110, 100]⟩, ⟨#[102, 108, 111, 111, 114]⟩, ⟨#[99, 101, 105, 108]⟩, ⟨#[104, 100]⟩, ⟨#[116, 108]⟩, ⟨#[108, 101, 110, 103, 116, 104]⟩, ⟨#[116, 117, 112, 108, 101, 95, 115, 105, 122, 101]⟩, ⟨#[105, 115, 95, 97, 116, 111, 109]⟩, ⟨#[105, 115, 95, 105, 110, 116, 101, 103, 101, 114]⟩, ⟨#[105, 115, 95, 102, 108, 111, 97, 116]⟩, ⟨#[105, 115, 95, 110, 117, 109, 98, 101, 114]⟩, ⟨#[105, 115, 95, 108, 105, 115, 116]⟩, ⟨#[105, 115, 95, 116, 117, 112, 108, 101]⟩, ⟨#[105, 115, 95, 112, 105, 100]⟩, ⟨#[105, 115, 95, 114, 101, 102, 101, 114, 101, 110, 99, 101]⟩, ⟨#[105, 115, 95, 98, 111, 111, 108, 101, 97, 110]⟩, ⟨#[105, 115, 95, 102, 117, 110, 99, 116, 105, 111, 110]⟩, ⟨#[101, 108, 101, 109, 101, 110, 116]⟩, ⟨#[109, 105, 110]⟩, ⟨#[109, 97, 120]⟩, ⟨#[115, 101, 116, 101, 108, 101, 109, 101, 110, 116]⟩, ⟨#[116, 117, 112, 108, 101, 95, 116, 111, 95, 108, 105, 115, 116]⟩, ⟨#[108, 105, 115, 116, 95, 116, 111, 95, 116, 117, 112, 108, 101]⟩, ⟨#[97, 116, 111, 109, 95, 116, 111, 95, 108, 105, 115, 116]⟩, ⟨#[108, 105, 115, 116, 95, 116, 111, 95, 97, 116, 111, 109]⟩, ⟨#[105, 110, 116, 101, 103, 101, 114, 95, 116, 111, 95, 108, 105, 115, 116]⟩, ⟨#[108, 105, 115, 116, 95, 116, 111, 95, 105, 110, 116, 101, 103, 101, 114]⟩, ⟨#[102, 108, 111, 97, 116, 95, 116, 111, 95, 108, 105, 115, 116]⟩, ⟨#[98, 105, 116, 115]⟩, ⟨#[114, 101, 118, 101, 114, 115, 101]⟩, ⟨#[115, 111, 114, 116]⟩, ⟨#[115, 105, 122, 101]⟩, ⟨#[109, 101, 109, 98, 101, 114]⟩, ⟨#[110, 116, 104]⟩]
def isName (s : ByteArray) : Bool := names.any fun w => s.toList == w.toList

theorem nots {s : ByteArray} (h : isName s = false) : (s.toList == (⟨#[97, 98, 115]⟩ : ByteArray).toList) = false ∧ (s.toList == (⟨#[102, 108, 111, 97, 116]⟩ : ByteArray).toList) = false ∧ (s.toList == (⟨#[116, 114, 117, 110, 99]⟩ : ByteArray).toList) = false ∧ (s.toList == (⟨#[114, 111, 117, 110, 100]⟩ : ByteArray).toList) = false ∧ (s.toList == (⟨#[102, 108, 111, 111, 114]⟩ : ByteArray).toList) = false ∧ (s.toList == (⟨#[99, 101, 105, 108]⟩ : ByteArray).toList) = false ∧ (s.toList == (⟨#[104, 100]⟩ : ByteArray).toList) = false ∧ (s.toList == (⟨#[116, 108]⟩ : ByteArray).toList) = false ∧ (s.toList == (⟨#[108, 101, 110, 103, 116, 104]⟩ : ByteArray).toList) = false ∧ (s.toList == (⟨#[116, 117, 112, 108, 101, 95, 115, 105, 122, 101]⟩ : ByteArray).toList) = false ∧ (s.toList == (⟨#[105, 115, 95, 97, 116, 111, 109]⟩ : ByteArray).toList) = false ∧ (s.toList == (⟨#[105, 115, 95, 105, 110, 116, 101, 103, 101, 114]⟩ : ByteArray).toList) = false ∧ (s.toList == (⟨#[105, 115, 95, 102, 108, 111, 97, 116]⟩ : ByteArray).toList) = false ∧ (s.toList == (⟨#[105, 115, 95, 110, 117, 109, 98, 101, 114]⟩ : ByteArray).toList) = false ∧ (s.toList == (⟨#[105, 115, 95, 108, 105, 115, 116]⟩ : ByteArray).toList) = false ∧ (s.toList == (⟨#[105, 115, 95, 116, 117, 112, 108, 101]⟩ : ByteArray).toList) = false ∧ (s.toList == (⟨#[105, 115, 95, 112, 105, 100]⟩ : ByteArray).toList) = false ∧ (s.toList == (⟨#[105, 115, 95, 114, 101, 102, 101, 114, 101, 110, 99, 101]⟩ : ByteArray).toList) = false ∧ (s.toList == (⟨#[105, 115, 95, 98, 111, 111, 108, 101, 97, 110]⟩ : ByteArray).toList) = false ∧ (s.toList == (⟨#[105, 115, 95, 102, 117, 110, 99, 116, 105, 111, 110]⟩ : ByteArray).toList) = false ∧ (s.toList == (⟨#[101, 108, 101, 109, 101, 110, 116]⟩ : ByteArray).toList) = false ∧ (s.toList == (⟨#[109, 105, 110]⟩ : ByteArray).toList) = false ∧ (s.toList == (⟨#[109, 97, 120]⟩ : ByteArray).toList) = false ∧ (s.toList == (⟨#[115, 101, 116, 101, 108, 101, 109, 101, 110, 116]⟩ : ByteArray).toList) = false ∧ (s.toList == (⟨#[116, 117, 112, 108, 101, 95, 116, 111, 95, 108, 105, 115, 116]⟩ : ByteArray).toList) = false ∧ (s.toList == (⟨#[108, 105, 115, 116, 95, 116, 111, 95, 116, 117, 112, 108, 101]⟩ : ByteArray).toList) = false ∧ (s.toList == (⟨#[97, 116, 111, 109, 95, 116, 111, 95, 108, 105, 115, 116]⟩ : ByteArray).toList) = false ∧ (s.toList == (⟨#[108, 105, 115, 116, 95, 116, 111, 95, 97, 116, 111, 109]⟩ : ByteArray).toList) = false ∧ (s.toList == (⟨#[105, 110, 116, 101, 103, 101, 114, 95, 116, 111, 95, 108, 105, 115, 116]⟩ : ByteArray).toList) = false ∧ (s.toList == (⟨#[108, 105, 115, 116, 95, 116, 111, 95, 105, 110, 116, 101, 103, 101, 114]⟩ : ByteArray).toList) = false ∧ (s.toList == (⟨#[102, 108, 111, 97, 116, 95, 116, 111, 95, 108, 105, 115, 116]⟩ : ByteArray).toList) = false ∧ (s.toList == (⟨#[98, 105, 116, 115]⟩ : ByteArray).toList) = false ∧ (s.toList == (⟨#[114, 101, 118, 101, 114, 115, 101]⟩ : ByteArray).toList) = false ∧ (s.toList == (⟨#[115, 111, 114, 116]⟩ : ByteArray).toList) = false ∧ (s.toList == (⟨#[115, 105, 122, 101]⟩ : ByteArray).toList) = false ∧ (s.toList == (⟨#[109, 101, 109, 98, 101, 114]⟩ : ByteArray).toList) = false ∧ (s.toList == (⟨#[110, 116, 104]⟩ : ByteArray).toList) = false := by
  simpa only [isName, names, List.any_cons, List.any_nil, Bool.or_eq_false_iff, and_true] using h
theorem g84n {H : AHeap} {s : ByteArray} (h : isName s = false) : DCall Tryz.prog 84 [.str s] H fun a H' => a = .nils ∧ H' = H := by
  obtain ⟨h0, h1, h2, h3, h4, h5, h6, h7, h8, h9, h10, h11, h12, h13, h14, h15, h16, h17, h18, h19, h20, h21, h22, h23, h24, h25, h26, h27, h28, h29, h30, h31, h32, h33, h34, h35, h36⟩ := nots h
  refine DCall.of_body (fn := Tryz.f84) (by kernel_rfl) c84 (by kernel_rfl) (by simp [f84]) ?_
  unfold f84
  simp only []
  refine DR.go rfl ?_
  simp -dsimp only [SZ, EZ, astep, aun, AVal.cells, seval]
  refine DR.go rfl ?_
  simp -dsimp only [SZ, EZ, astep, aun, AVal.cells, seval]
  refine DR.go rfl ?_
  simp -dsimp only [SZ, EZ, astep, aun, AVal.cells, seval, h23, abin]
  refine DR.ne rfl rfl ?_
  refine DR.go rfl ?_
  simp -dsimp only [SZ, EZ, astep, aun, AVal.cells, seval, h24, abin]
  refine DR.ne rfl rfl ?_
  refine DR.go rfl ?_
  simp -dsimp only [SZ, EZ, astep, aun, AVal.cells, seval, h25, abin]
  refine DR.ne rfl rfl ?_
  refine DR.go rfl ?_
  simp -dsimp only [SZ, EZ, astep, aun, AVal.cells, seval, h26, abin]
  refine DR.ne rfl rfl ?_
  refine DR.go rfl ?_
  simp -dsimp only [SZ, EZ, astep, aun, AVal.cells, seval, h27, abin]
  refine DR.ne rfl rfl ?_
  refine DR.go rfl ?_
  simp -dsimp only [SZ, EZ, astep, aun, AVal.cells, seval, h28, abin]
  refine DR.ne rfl rfl ?_
  refine DR.go rfl ?_
  simp -dsimp only [SZ, EZ, astep, aun, AVal.cells, seval, h29, abin]
  refine DR.ne rfl rfl ?_
  refine DR.go rfl ?_
  simp -dsimp only [SZ, EZ, astep, aun, AVal.cells, seval, h30, abin]
  refine DR.ne rfl rfl ?_
  refine DR.go rfl ?_
  simp -dsimp only [SZ, EZ, astep, aun, AVal.cells, seval, h31, abin]
  refine DR.ne rfl rfl ?_
  refine DR.go rfl ?_
  simp -dsimp only [SZ, EZ, astep, aun, AVal.cells, seval, h32, abin]
  refine DR.ne rfl rfl ?_
  refine DR.go rfl ?_
  simp -dsimp only [SZ, EZ, astep, aun, AVal.cells, seval, h33, abin]
  refine DR.ne rfl rfl ?_
  refine DR.go rfl ?_
  simp -dsimp only [SZ, EZ, astep, aun, AVal.cells, seval, h35, abin]
  refine DR.ne rfl rfl ?_
  refine DR.go rfl ?_
  simp -dsimp only [SZ, EZ, astep, aun, AVal.cells, seval, h36, abin]
  refine DR.ne rfl rfl ?_
  refine DR.go rfl ?_
  simp -dsimp only [SZ, EZ, astep, aun, AVal.cells, seval, h34, abin]
  refine DR.ne rfl rfl ?_
  refine DR.go rfl ?_
  simp -dsimp only [SZ, EZ, astep, aun, AVal.cells, seval]
  refine DR.nm rfl ?_
  exact DR.ret ⟨_, by simp [aresult, ares, Env.get] <;> rfl, rfl, rfl⟩
theorem g82n {H : AHeap} {s : ByteArray} (h : isName s = false) : DCall Tryz.prog 82 [.str s] H fun a H' => a = .nilf ∧ H' = H := by
  obtain ⟨h0, h1, h2, h3, h4, h5, h6, h7, h8, h9, h10, h11, h12, h13, h14, h15, h16, h17, h18, h19, h20, h21, h22, h23, h24, h25, h26, h27, h28, h29, h30, h31, h32, h33, h34, h35, h36⟩ := nots h
  refine DCall.of_body (fn := Tryz.f82) (by kernel_rfl) c82 (by kernel_rfl) (by simp [f82]) ?_
  unfold f82
  simp only []
  refine DR.go rfl ?_
  simp -dsimp only [SZ, EZ, astep, aun, AVal.cells, seval]
  refine DR.go rfl ?_
  simp -dsimp only [SZ, EZ, astep, aun, AVal.cells, seval]
  refine DR.go rfl ?_
  simp -dsimp only [SZ, EZ, astep, aun, AVal.cells, seval]
  refine DR.go rfl ?_
  simp -dsimp only [SZ, EZ, astep, aun, AVal.cells, seval, h10, abin]
  refine DR.ne rfl rfl ?_
  refine DR.go rfl ?_
  simp -dsimp only [SZ, EZ, astep, aun, AVal.cells, seval, h11, abin]
  refine DR.ne rfl rfl ?_
  refine DR.go rfl ?_
  simp -dsimp only [SZ, EZ, astep, aun, AVal.cells, seval, h12, abin]
  refine DR.ne rfl rfl ?_
  refine DR.go rfl ?_
  simp -dsimp only [SZ, EZ, astep, aun, AVal.cells, seval, h13, abin]
  refine DR.ne rfl rfl ?_
  refine DR.go rfl ?_
  simp -dsimp only [SZ, EZ, astep, aun, AVal.cells, seval, h14, abin]
  refine DR.ne rfl rfl ?_
  refine DR.go rfl ?_
  simp -dsimp only [SZ, EZ, astep, aun, AVal.cells, seval, h15, abin]
  refine DR.ne rfl rfl ?_
  refine DR.go rfl ?_
  simp -dsimp only [SZ, EZ, astep, aun, AVal.cells, seval, h16, abin]
  refine DR.ne rfl rfl ?_
  refine DR.go rfl ?_
  simp -dsimp only [SZ, EZ, astep, aun, AVal.cells, seval, h17, abin]
  refine DR.ne rfl rfl ?_
  refine DR.go rfl ?_
  simp -dsimp only [SZ, EZ, astep, aun, AVal.cells, seval, h18, abin]
  refine DR.ne rfl rfl ?_
  refine DR.go rfl ?_
  simp -dsimp only [SZ, EZ, astep, aun, AVal.cells, seval]
  refine DR.nm rfl ?_
  exact DR.ret ⟨_, by simp [aresult, ares, Env.get] <;> rfl, rfl, rfl⟩
end Go.Am.Rl

