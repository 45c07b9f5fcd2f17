/- Terms looked at by the document's own functions: they tell something; a right term is of a kind. -/
import Derived.Test.YtcmaphhbecjbjaaGreatDoorFnK
import Derived.Test.YtcmaphhbecjbjaaGreatDoorBL
import Derived.Test.YtcmaphhbecjbjaaGreatDoorAmS
set_option linter.unusedVariables false
set_option linter.unusedSimpArgs false
set_option maxRecDepth 20000
namespace Go.Am.Rl
open Go.Proofs

theorem sub_some (f : Nat) : ∃ v, abin .sub (.flt .f64 f) (.flt .f64 f) = some v ∧ ∃ b, abin .eql v (.flt .f64 0) = some (.bool b) := by
  cases h : FloatKind.f64.format.sub f f with
  | none => exact ⟨.nan .f64, by simp [abin, h, flOr], _, rfl⟩
  | some r => exact ⟨.flt .f64 r, by simp [abin, h, flOr], _, rfl⟩
theorem g163 (f : Nat) {H : AHeap} : DCall Tryz.prog 167 [.flt .f64 f] H fun r H' => (∃ b, r = .bool b) ∧ H' = H := by
  obtain ⟨v, hv, b, hb⟩ := sub_some f
  refine DCall.of_body (fn := Tryz.f167) (by kernel_rfl) c167 (by kernel_rfl) (by simp [f167]) ?_
  unfold f167
  simp only []
  refine DR.go rfl ?_
  simp -dsimp only [SZ, EZ, astep, aun, AVal.cells, seval]
  refine DR.go rfl ?_
  simp -dsimp only [SZ, EZ, astep, aun, AVal.cells, seval, hv, hb]
  refine DR.nm rfl ?_
  exact DR.ret ⟨_, by simp [aresult, ares, Env.get] <;> rfl, ⟨_, rfl⟩, rfl⟩
/-- A float that is finite or not. -/
def fin163 : CallK := fun f xs H F => match xs with
  | [.flt .f64 _] => match Nat.beq f 167 with
    | true => match F (.bool true) H with
      | true => F (.bool false) H
      | false => false
    | false => false
  | _ => false
theorem fin163_ok : fin163.Ok Tryz.prog := by
  intro f xs H F h Q hF
  unfold fin163 at h
  split at h
  · rename_i x
    split at h
    · rename_i e
      have e := Nat.eq_of_beq_eq_true e
      subst e
      split at h
      · rename_i h1
        refine (g163 x).mono ?_
        rintro r H' ⟨⟨b, rfl⟩, rfl⟩
        cases b with
        | true => exact hF _ _ h1
        | false => exact hF _ _ h
      · cases h
    · cases h
  · cases h
def symR : FuncId → List Nat := fun f => if f = 100 then [6, 7, 8, 10, 11, 13, 19] else if f = 101 then [15, 19, 30, 37, 41, 46, 57, 63, 67, 72, 84, 88] else if f = 143 then [5, 10, 14, 17, 21, 30, 34] else if f = 144 then [5] else []
def tabR : Tab := [(100, f100), (101, f101), (143, f143), (144, f144)]
theorem tabR_ok : tabR.Ok Tryz.prog := ⟨⟨Tryz.f100, kof k100, by kernel_rfl, c100, by kernel_rfl⟩, ⟨Tryz.f101, kof k101, by kernel_rfl, c101, by kernel_rfl⟩, ⟨Tryz.f143, kof k143, by kernel_rfl, c143, by kernel_rfl⟩, ⟨Tryz.f144, kof k144, by kernel_rfl, c144, by kernel_rfl⟩, trivial⟩
def runR (f : FuncId) (xs : List AVal) (F : AVal → AHeap → Bool) : Bool := pcall tabR symR fin163 1000 4 f xs AHeap.empty F
theorem runR_sound {f : FuncId} {xs : List AVal} {F : AVal → AHeap → Bool} (h : runR f xs F = true) : DCall Tryz.prog f xs AHeap.empty fun r H' => F r H' = true := pcall_sound mixed tabR_ok fin163_ok 4 f xs AHeap.empty F h fun _ _ h => h
abbrev T5 (k n : Int) (f : Nat) (s : ByteArray) (r : AVal) : List AVal := [.agg [.int .i64 k, .int .i64 n, .flt .f64 f, .str s, r]]
theorem e85a (k n : Int) (f : Nat) (s : ByteArray) : runR 100 (T5 k n f s .nils) (fun r _ => isI r) = true := by kernel_rfl
theorem e85b (k n : Int) (f : Nat) (s : ByteArray) (cs : List AVal) (m : Nat) : runR 100 (T5 k n f s (.ros cs m)) (fun r _ => isI r) = true := by kernel_rfl
theorem e86a0 (n : Int) (f : Nat) (s : ByteArray) : runR 101 (T5 (Int.ofNat 1) n f s .nils) (fun r _ => isB r) = true := by kernel_rfl
theorem e86b0 (n : Int) (f : Nat) (s : ByteArray) (cs : List AVal) (m : Nat) : runR 101 (T5 (Int.ofNat 1) n f s (.ros cs m)) (fun r _ => isB r) = true := by kernel_rfl
theorem e86a1 (n : Int) (f : Nat) (s : ByteArray) : runR 101 (T5 (Int.ofNat 2) n f s .nils) (fun r _ => isB r) = true := by kernel_rfl
theorem e86b1 (n : Int) (f : Nat) (s : ByteArray) (cs : List AVal) (m : Nat) : runR 101 (T5 (Int.ofNat 2) n f s (.ros cs m)) (fun r _ => isB r) = true := by kernel_rfl
theorem e86a2 (n : Int) (f : Nat) (s : ByteArray) : runR 101 (T5 (Int.ofNat 3) n f s .nils) (fun r _ => isB r) = true := by kernel_rfl
theorem e86b2 (n : Int) (f : Nat) (s : ByteArray) (cs : List AVal) (m : Nat) : runR 101 (T5 (Int.ofNat 3) n f s (.ros cs m)) (fun r _ => isB r) = true := by kernel_rfl
theorem e86a3 (n : Int) (f : Nat) (s : ByteArray) : runR 101 (T5 (Int.ofNat 4) n f s .nils) (fun r _ => isB r) = true := by kernel_rfl
theorem e86b3 (n : Int) (f : Nat) (s : ByteArray) (cs : List AVal) (m : Nat) : runR 101 (T5 (Int.ofNat 4) n f s (.ros cs m)) (fun r _ => isB r) = true := by kernel_rfl
theorem e86a4 (n : Int) (f : Nat) (s : ByteArray) : runR 101 (T5 (Int.ofNat 5) n f s .nils) (fun r _ => isB r) = true := by kernel_rfl
theorem e86b4 (n : Int) (f : Nat) (s : ByteArray) (cs : List AVal) (m : Nat) : runR 101 (T5 (Int.ofNat 5) n f s (.ros cs m)) (fun r _ => isB r) = true := by kernel_rfl
theorem e86a5 (n : Int) (f : Nat) (s : ByteArray) : runR 101 (T5 (Int.ofNat 6) n f s .nils) (fun r _ => isB r) = true := by kernel_rfl
theorem e86b5 (n : Int) (f : Nat) (s : ByteArray) (cs : List AVal) (m : Nat) : runR 101 (T5 (Int.ofNat 6) n f s (.ros cs m)) (fun r _ => isB r) = true := by kernel_rfl
theorem e86a6 (n : Int) (f : Nat) (s : ByteArray) : runR 101 (T5 (Int.ofNat 7) n f s .nils) (fun r _ => isB r) = true := by kernel_rfl
theorem e86b6 (n : Int) (f : Nat) (s : ByteArray) (cs : List AVal) (m : Nat) : runR 101 (T5 (Int.ofNat 7) n f s (.ros cs m)) (fun r _ => isB r) = true := by kernel_rfl
theorem e86a7 (n : Int) (f : Nat) (s : ByteArray) : runR 101 (T5 (Int.ofNat 8) n f s .nils) (fun r _ => isB r) = true := by kernel_rfl
theorem e86b7 (n : Int) (f : Nat) (s : ByteArray) (cs : List AVal) (m : Nat) : runR 101 (T5 (Int.ofNat 8) n f s (.ros cs m)) (fun r _ => isB r) = true := by kernel_rfl
theorem e86a8 (n : Int) (f : Nat) (s : ByteArray) : runR 101 (T5 (Int.ofNat 0) n f s .nils) (fun r _ => r.eqb (.bool false)) = true := by kernel_rfl
theorem e86b8 (n : Int) (f : Nat) (s : ByteArray) (cs : List AVal) (m : Nat) : runR 101 (T5 (Int.ofNat 0) n f s (.ros cs m)) (fun r _ => r.eqb (.bool false)) = true := by kernel_rfl
theorem e86a9 (m0 : Nat) (n : Int) (f : Nat) (s : ByteArray) : runR 101 (T5 (Int.ofNat (m0 + 9)) n f s .nils) (fun r _ => r.eqb (.bool false)) = true := by kernel_rfl
theorem e86b9 (m0 : Nat) (n : Int) (f : Nat) (s : ByteArray) (cs : List AVal) (m : Nat) : runR 101 (T5 (Int.ofNat (m0 + 9)) n f s (.ros cs m)) (fun r _ => r.eqb (.bool false)) = true := by kernel_rfl
theorem e86a10 (m0 : Nat) (n : Int) (f : Nat) (s : ByteArray) : runR 101 (T5 (Int.negSucc m0) n f s .nils) (fun r _ => r.eqb (.bool false)) = true := by kernel_rfl
theorem e86b10 (m0 : Nat) (n : Int) (f : Nat) (s : ByteArray) (cs : List AVal) (m : Nat) : runR 101 (T5 (Int.negSucc m0) n f s (.ros cs m)) (fun r _ => r.eqb (.bool false)) = true := by kernel_rfl
end Go.Am.Rl

