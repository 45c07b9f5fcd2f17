/- The law BifKinds behind 'right': what is run. -/
import Derived.Test.YtilfjbbfabcdlaaGreatDoorB8
import Derived.Test.YtilfjbbfabcdlaaGreatDoorAmS
set_option linter.unusedVariables false
set_option linter.unusedSimpArgs false
set_option maxRecDepth 20000
namespace Go.Am.Rl
open Go.Proofs

def tabK : Tab := (9, f9) :: (78, f78) :: (83, f83) :: (113, f113) :: (114, f114) :: (115, f115) :: (150, f150) :: tab
theorem tabK_ok : tabK.Ok Tryz.prog := ⟨⟨Tryz.f9, kof k9, by kernel_rfl, c9, by kernel_rfl⟩, ⟨Tryz.f78, kof k78, by kernel_rfl, c78, by kernel_rfl⟩, ⟨Tryz.f83, kof k83, by kernel_rfl, c83, by kernel_rfl⟩, ⟨Tryz.f113, kof k113, by kernel_rfl, c113, by kernel_rfl⟩, ⟨Tryz.f114, kof k114, by kernel_rfl, c114, by kernel_rfl⟩, ⟨Tryz.f115, kof k115, by kernel_rfl, c115, by kernel_rfl⟩, ⟨Tryz.f150, kof k150, by kernel_rfl, c150, by kernel_rfl⟩, tab_ok⟩
def behind : ACode → ACode
  | .seq _ y => y
  | c => c
def rest3 : ACode := behind (behind (behind f3.body))
/-- The texts of an atom are neither 'true' nor 'false', where that is asked. -/
def ov3 : FuncId → Nat → Option Bool := fun f d => if f = 115 then (if d = 9 ∨ d = 13 then some false else none) else if f = 3 then (if d = 103 ∨ d = 107 then some false else none) else none
def ov0 : FuncId → Nat → Option Bool := fun _ _ => none
def yes : AOut → Bool
  | .ret (.bool b) => b
  | _ => false
def T3 : Env := [(1, .ptr 0 0), (18, .bool false)]
def H3 (c : List AVal) : AHeap := (AHeap.empty.push (.cells 25 c)).push (.cells 25 c)
def fin3 (ov : FuncId → Nat → Option Bool) (c : List AVal) : Prop := grun (gcall tabK orc7 ov 100000 60) (ov 3) 100000 [.code rest3] [] T3 (H3 c) fun e ds T H => gleave (xcalld tabK (xcall tabK orc7 100000 60) 100000) f3.results ds e T H fun o _ => yes o = true
abbrev c5 (k n : Int) (f : Nat) (s : ByteArray) (r : AVal) : List AVal := [.int .i64 k, .int .i64 n, .flt .f64 f, .str s, r]
abbrev Eq8 (v : AVal) (p : Prop) : Prop := v = v ∧ v = v ∧ v = v ∧ v = v ∧ v = v ∧ v = v ∧ v = v ∧ v = v ∧ p
end Go.Am.Rl
