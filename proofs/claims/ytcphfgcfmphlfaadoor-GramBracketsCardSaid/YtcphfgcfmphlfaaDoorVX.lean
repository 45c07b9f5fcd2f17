/- Parts: V0, V1. -/
import Derived.Test.YtcphfgcfmphlfaaDoorFA
import Derived.Test.YtcphfgcfmphlfaaDoorAmQ
set_option maxRecDepth 20000
set_option linter.unusedVariables false
set_option linter.unusedSimpArgs false
namespace Go.Am.Rl
open Go.Proofs
def tab:Tab:=[(9,f9),(17,f17),(18,f18),(19,f19),(24,f24),(25,f25),(26,f26),(27,f27),(28,f28),(29,f29),(30,f30),(31,f31),(32,f32),(40,f40),(41,f41),(42,f42),(43,f43),(44,f44),(47,f47),(48,f48),(50,f50),(51,f51),(52,f52),(56,f56),(57,f57),(58,f58),(59,f59),(64,f64),(65,f65),(66,f66)]
theorem tab_ok:tab.Ok Tryd.prog:=⟨⟨Tryd.f9,kof k9,by kernel_rfl,c9,by kernel_rfl⟩,⟨Tryd.f17,kof k17,by kernel_rfl,c17,by kernel_rfl⟩,⟨Tryd.f18,kof k18,by kernel_rfl,c18,by kernel_rfl⟩,⟨Tryd.f19,kof k19,by kernel_rfl,c19,by kernel_rfl⟩,⟨Tryd.f24,kof k24,by kernel_rfl,c24,by kernel_rfl⟩,⟨Tryd.f25,kof k25,by kernel_rfl,c25,by kernel_rfl⟩,⟨Tryd.f26,kof k26,by kernel_rfl,c26,by kernel_rfl⟩,⟨Tryd.f27,kof k27,by kernel_rfl,c27,by kernel_rfl⟩,⟨Tryd.f28,kof k28,by kernel_rfl,c28,by kernel_rfl⟩,⟨Tryd.f29,kof k29,by kernel_rfl,c29,by kernel_rfl⟩,⟨Tryd.f30,kof k30,by kernel_rfl,c30,by kernel_rfl⟩,⟨Tryd.f31,kof k31,by kernel_rfl,c31,by kernel_rfl⟩,⟨Tryd.f32,kof k32,by kernel_rfl,c32,by kernel_rfl⟩,⟨Tryd.f40,kof k40,by kernel_rfl,c40,by kernel_rfl⟩,⟨Tryd.f41,kof k41,by kernel_rfl,c41,by kernel_rfl⟩,⟨Tryd.f42,kof k42,by kernel_rfl,c42,by kernel_rfl⟩,⟨Tryd.f43,kof k43,by kernel_rfl,c43,by kernel_rfl⟩,⟨Tryd.f44,kof k44,by kernel_rfl,c44,by kernel_rfl⟩,⟨Tryd.f47,kof k47,by kernel_rfl,c47,by kernel_rfl⟩,⟨Tryd.f48,kof k48,by kernel_rfl,c48,by kernel_rfl⟩,⟨Tryd.f50,kof k50,by kernel_rfl,c50,by kernel_rfl⟩,⟨Tryd.f51,kof k51,by kernel_rfl,c51,by kernel_rfl⟩,⟨Tryd.f52,kof k52,by kernel_rfl,c52,by kernel_rfl⟩,⟨Tryd.f56,kof k56,by kernel_rfl,c56,by kernel_rfl⟩,⟨Tryd.f57,kof k57,by kernel_rfl,c57,by kernel_rfl⟩,⟨Tryd.f58,kof k58,by kernel_rfl,c58,by kernel_rfl⟩,⟨Tryd.f59,kof k59,by kernel_rfl,c59,by kernel_rfl⟩,⟨Tryd.f64,kof k64,by kernel_rfl,c64,by kernel_rfl⟩,⟨Tryd.f65,kof k65,by kernel_rfl,c65,by kernel_rfl⟩,⟨Tryd.f66,kof k66,by kernel_rfl,c66,by kernel_rfl⟩,trivial⟩
theorem mixed:Tryd.prog.follows .mixedOrders=true:=by kernel_rfl
def sz1:TypeId→Nat:=fun _=>1
end Go.Am.Rl
namespace Go.Am.Rl
open Go.Proofs
def kept (s:ByteArray):Bool:=(s.toList==(⟨#[97,102,116,101,114]⟩:ByteArray).toList) || (s.toList==(⟨#[97,110,100,97,108,115,111]⟩:ByteArray).toList) || (s.toList==(⟨#[98,101,103,105,110]⟩:ByteArray).toList) || (s.toList==(⟨#[99,97,115,101]⟩:ByteArray).toList) || (s.toList==(⟨#[99,97,116,99,104]⟩:ByteArray).toList) || (s.toList==(⟨#[100,105,118]⟩:ByteArray).toList) || (s.toList==(⟨#[101,110,100]⟩:ByteArray).toList) || (s.toList==(⟨#[102,117,110]⟩:ByteArray).toList) || (s.toList==(⟨#[110,111,116]⟩:ByteArray).toList) || (s.toList==(⟨#[111,102]⟩:ByteArray).toList) || (s.toList==(⟨#[111,114,101,108,115,101]⟩:ByteArray).toList) || (s.toList==(⟨#[114,101,99,101,105,118,101]⟩:ByteArray).toList) || (s.toList==(⟨#[114,101,109]⟩:ByteArray).toList) || (s.toList==(⟨#[116,114,121]⟩:ByteArray).toList) || (s.toList==(⟨#[119,104,101,110]⟩:ByteArray).toList)
theorem g32 {H:AHeap} (s:ByteArray):DCall Tryd.prog 32 [.str s] H fun a H'=>H'=H∧a = .bool (kept s):=by
 refine DCall.of_body (fn:=Tryd.f32) (by kernel_rfl) c32 (by kernel_rfl) (by simp [f32]) ?_
 unfold f32
 simp only []
 refine DR.nm rfl ?_
 refine DR.ops ?_
 simp -dsimp only [r32_0,SZ,EZ,astep,aun,AVal.cells,seval]
 refine DR.nm rfl ?_
 refine DR.ops ?_
 simp -dsimp only [r32_1,SZ,EZ,astep,aun,AVal.cells,seval]
 refine DR.nm rfl ?_
 refine DR.ops ?_
 simp -dsimp only [r32_2,SZ,EZ,astep,aun,AVal.cells,seval,abin]
 by_cases h0:(s.toList==(⟨#[97,102,116,101,114]⟩:ByteArray).toList)=true
 ·rw [h0]
  refine DR.yes rfl ?_
  refine DR.nm rfl ?_
  refine DR.yes rfl ?_
  refine DR.nm rfl ?_
  refine DR.ops ?_
  simp -dsimp only [r32_17,SZ,EZ,astep,aun,AVal.cells,seval]
  refine DR.nm rfl ?_
  exact DR.ret ⟨_,by simp [aresult,ares,Env.get] <;> rfl,rfl,by simp only [kept,h0,Bool.or_true,Bool.true_or,Bool.or_false,Bool.false_or]⟩
 rw [Bool.not_eq_true] at h0
 rw [h0]
 refine DR.no rfl ?_
 refine DR.nm rfl ?_
 refine DR.ops ?_
 simp -dsimp only [r32_3,SZ,EZ,astep,aun,AVal.cells,seval,abin]
 by_cases h1:(s.toList==(⟨#[97,110,100,97,108,115,111]⟩:ByteArray).toList)=true
 ·rw [h1]
  refine DR.yes rfl ?_
  refine DR.nm rfl ?_
  refine DR.yes rfl ?_
  refine DR.nm rfl ?_
  refine DR.ops ?_
  simp -dsimp only [r32_17,SZ,EZ,astep,aun,AVal.cells,seval]
  refine DR.nm rfl ?_
  exact DR.ret ⟨_,by simp [aresult,ares,Env.get] <;> rfl,rfl,by simp only [kept,h0,h1,Bool.or_true,Bool.true_or,Bool.or_false,Bool.false_or]⟩
 rw [Bool.not_eq_true] at h1
 rw [h1]
 refine DR.no rfl ?_
 refine DR.nm rfl ?_
 refine DR.ops ?_
 simp -dsimp only [r32_4,SZ,EZ,astep,aun,AVal.cells,seval,abin]
 by_cases h2:(s.toList==(⟨#[98,101,103,105,110]⟩:ByteArray).toList)=true
 ·rw [h2]
  refine DR.yes rfl ?_
  refine DR.nm rfl ?_
  refine DR.yes rfl ?_
  refine DR.nm rfl ?_
  refine DR.ops ?_
  simp -dsimp only [r32_17,SZ,EZ,astep,aun,AVal.cells,seval]
  refine DR.nm rfl ?_
  exact DR.ret ⟨_,by simp [aresult,ares,Env.get] <;> rfl,rfl,by simp only [kept,h0,h1,h2,Bool.or_true,Bool.true_or,Bool.or_false,Bool.false_or]⟩
 rw [Bool.not_eq_true] at h2
 rw [h2]
 refine DR.no rfl ?_
 refine DR.nm rfl ?_
 refine DR.ops ?_
 simp -dsimp only [r32_5,SZ,EZ,astep,aun,AVal.cells,seval,abin]
 by_cases h3:(s.toList==(⟨#[99,97,115,101]⟩:ByteArray).toList)=true
 ·rw [h3]
  refine DR.yes rfl ?_
  refine DR.nm rfl ?_
  refine DR.yes rfl ?_
  refine DR.nm rfl ?_
  refine DR.ops ?_
  simp -dsimp only [r32_17,SZ,EZ,astep,aun,AVal.cells,seval]
  refine DR.nm rfl ?_
  exact DR.ret ⟨_,by simp [aresult,ares,Env.get] <;> rfl,rfl,by simp only [kept,h0,h1,h2,h3,Bool.or_true,Bool.true_or,Bool.or_false,Bool.false_or]⟩
 rw [Bool.not_eq_true] at h3
 rw [h3]
 refine DR.no rfl ?_
 refine DR.nm rfl ?_
 refine DR.ops ?_
 simp -dsimp only [r32_6,SZ,EZ,astep,aun,AVal.cells,seval,abin]
 by_cases h4:(s.toList==(⟨#[99,97,116,99,104]⟩:ByteArray).toList)=true
 ·rw [h4]
  refine DR.yes rfl ?_
  refine DR.nm rfl ?_
  refine DR.yes rfl ?_
  refine DR.nm rfl ?_
  refine DR.ops ?_
  simp -dsimp only [r32_17,SZ,EZ,astep,aun,AVal.cells,seval]
  refine DR.nm rfl ?_
  exact DR.ret ⟨_,by simp [aresult,ares,Env.get] <;> rfl,rfl,by simp only [kept,h0,h1,h2,h3,h4,Bool.or_true,Bool.true_or,Bool.or_false,Bool.false_or]⟩
 rw [Bool.not_eq_true] at h4
 rw [h4]
 refine DR.no rfl ?_
 refine DR.nm rfl ?_
 refine DR.ops ?_
 simp -dsimp only [r32_7,SZ,EZ,astep,aun,AVal.cells,seval,abin]
 by_cases h5:(s.toList==(⟨#[100,105,118]⟩:ByteArray).toList)=true
 ·rw [h5]
  refine DR.yes rfl ?_
  refine DR.nm rfl ?_
  refine DR.yes rfl ?_
  refine DR.nm rfl ?_
  refine DR.ops ?_
  simp -dsimp only [r32_17,SZ,EZ,astep,aun,AVal.cells,seval]
  refine DR.nm rfl ?_
  exact DR.ret ⟨_,by simp [aresult,ares,Env.get] <;> rfl,rfl,by simp only [kept,h0,h1,h2,h3,h4,h5,Bool.or_true,Bool.true_or,Bool.or_false,Bool.false_or]⟩
 rw [Bool.not_eq_true] at h5
 rw [h5]
 refine DR.no rfl ?_
 refine DR.nm rfl ?_
 refine DR.ops ?_
 simp -dsimp only [r32_8,SZ,EZ,astep,aun,AVal.cells,seval,abin]
 by_cases h6:(s.toList==(⟨#[101,110,100]⟩:ByteArray).toList)=true
 ·rw [h6]
  refine DR.yes rfl ?_
  refine DR.nm rfl ?_
  refine DR.yes rfl ?_
  refine DR.nm rfl ?_
  refine DR.ops ?_
  simp -dsimp only [r32_17,SZ,EZ,astep,aun,AVal.cells,seval]
  refine DR.nm rfl ?_
  exact DR.ret ⟨_,by simp [aresult,ares,Env.get] <;> rfl,rfl,by simp only [kept,h0,h1,h2,h3,h4,h5,h6,Bool.or_true,Bool.true_or,Bool.or_false,Bool.false_or]⟩
 rw [Bool.not_eq_true] at h6
 rw [h6]
 refine DR.no rfl ?_
 refine DR.nm rfl ?_
 refine DR.ops ?_
 simp -dsimp only [r32_9,SZ,EZ,astep,aun,AVal.cells,seval,abin]
 by_cases h7:(s.toList==(⟨#[102,117,110]⟩:ByteArray).toList)=true
 ·rw [h7]
  refine DR.yes rfl ?_
  refine DR.nm rfl ?_
  refine DR.yes rfl ?_
  refine DR.nm rfl ?_
  refine DR.ops ?_
  simp -dsimp only [r32_17,SZ,EZ,astep,aun,AVal.cells,seval]
  refine DR.nm rfl ?_
  exact DR.ret ⟨_,by simp [aresult,ares,Env.get] <;> rfl,rfl,by simp only [kept,h0,h1,h2,h3,h4,h5,h6,h7,Bool.or_true,Bool.true_or,Bool.or_false,Bool.false_or]⟩
 rw [Bool.not_eq_true] at h7
 rw [h7]
 refine DR.no rfl ?_
 refine DR.nm rfl ?_
 refine DR.ops ?_
 simp -dsimp only [r32_10,SZ,EZ,astep,aun,AVal.cells,seval,abin]
 by_cases h8:(s.toList==(⟨#[110,111,116]⟩:ByteArray).toList)=true
 ·rw [h8]
  refine DR.yes rfl ?_
  refine DR.nm rfl ?_
  refine DR.yes rfl ?_
  refine DR.nm rfl ?_
  refine DR.ops ?_
  simp -dsimp only [r32_17,SZ,EZ,astep,aun,AVal.cells,seval]
  refine DR.nm rfl ?_
  exact DR.ret ⟨_,by simp [aresult,ares,Env.get] <;> rfl,rfl,by simp only [kept,h0,h1,h2,h3,h4,h5,h6,h7,h8,Bool.or_true,Bool.true_or,Bool.or_false,Bool.false_or]⟩
 rw [Bool.not_eq_true] at h8
 rw [h8]
 refine DR.no rfl ?_
 refine DR.nm rfl ?_
 refine DR.ops ?_
 simp -dsimp only [r32_11,SZ,EZ,astep,aun,AVal.cells,seval,abin]
 by_cases h9:(s.toList==(⟨#[111,102]⟩:ByteArray).toList)=true
 ·rw [h9]
  refine DR.yes rfl ?_
  refine DR.nm rfl ?_
  refine DR.yes rfl ?_
  refine DR.nm rfl ?_
  refine DR.ops ?_
  simp -dsimp only [r32_17,SZ,EZ,astep,aun,AVal.cells,seval]
  refine DR.nm rfl ?_
  exact DR.ret ⟨_,by simp [aresult,ares,Env.get] <;> rfl,rfl,by simp only [kept,h0,h1,h2,h3,h4,h5,h6,h7,h8,h9,Bool.or_true,Bool.true_or,Bool.or_false,Bool.false_or]⟩
 rw [Bool.not_eq_true] at h9
 rw [h9]
 refine DR.no rfl ?_
 refine DR.nm rfl ?_
 refine DR.ops ?_
 simp -dsimp only [r32_12,SZ,EZ,astep,aun,AVal.cells,seval,abin]
 by_cases h10:(s.toList==(⟨#[111,114,101,108,115,101]⟩:ByteArray).toList)=true
 ·rw [h10]
  refine DR.yes rfl ?_
  refine DR.nm rfl ?_
  refine DR.yes rfl ?_
  refine DR.nm rfl ?_
  refine DR.ops ?_
  simp -dsimp only [r32_17,SZ,EZ,astep,aun,AVal.cells,seval]
  refine DR.nm rfl ?_
  exact DR.ret ⟨_,by simp [aresult,ares,Env.get] <;> rfl,rfl,by simp only [kept,h0,h1,h2,h3,h4,h5,h6,h7,h8,h9,h10,Bool.or_true,Bool.true_or,Bool.or_false,Bool.false_or]⟩
 rw [Bool.not_eq_true] at h10
 rw [h10]
 refine DR.no rfl ?_
 refine DR.nm rfl ?_
 refine DR.ops ?_
 simp -dsimp only [r32_13,SZ,EZ,astep,aun,AVal.cells,seval,abin]
 by_cases h11:(s.toList==(⟨#[114,101,99,101,105,118,101]⟩:ByteArray).toList)=true
 ·rw [h11]
  refine DR.yes rfl ?_
  refine DR.nm rfl ?_
  refine DR.yes rfl ?_
  refine DR.nm rfl ?_
  refine DR.ops ?_
  simp -dsimp only [r32_17,SZ,EZ,astep,aun,AVal.cells,seval]
  refine DR.nm rfl ?_
  exact DR.ret ⟨_,by simp [aresult,ares,Env.get] <;> rfl,rfl,by simp only [kept,h0,h1,h2,h3,h4,h5,h6,h7,h8,h9,h10,h11,Bool.or_true,Bool.true_or,Bool.or_false,Bool.false_or]⟩
 rw [Bool.not_eq_true] at h11
 rw [h11]
 refine DR.no rfl ?_
 refine DR.nm rfl ?_
 refine DR.ops ?_
 simp -dsimp only [r32_14,SZ,EZ,astep,aun,AVal.cells,seval,abin]
 by_cases h12:(s.toList==(⟨#[114,101,109]⟩:ByteArray).toList)=true
 ·rw [h12]
  refine DR.yes rfl ?_
  refine DR.nm rfl ?_
  refine DR.yes rfl ?_
  refine DR.nm rfl ?_
  refine DR.ops ?_
  simp -dsimp only [r32_17,SZ,EZ,astep,aun,AVal.cells,seval]
  refine DR.nm rfl ?_
  exact DR.ret ⟨_,by simp [aresult,ares,Env.get] <;> rfl,rfl,by simp only [kept,h0,h1,h2,h3,h4,h5,h6,h7,h8,h9,h10,h11,h12,Bool.or_true,Bool.true_or,Bool.or_false,Bool.false_or]⟩
 rw [Bool.not_eq_true] at h12
 rw [h12]
 refine DR.no rfl ?_
 refine DR.nm rfl ?_
 refine DR.ops ?_
 simp -dsimp only [r32_15,SZ,EZ,astep,aun,AVal.cells,seval,abin]
 by_cases h13:(s.toList==(⟨#[116,114,121]⟩:ByteArray).toList)=true
 ·rw [h13]
  refine DR.yes rfl ?_
  refine DR.nm rfl ?_
  refine DR.yes rfl ?_
  refine DR.nm rfl ?_
  refine DR.ops ?_
  simp -dsimp only [r32_17,SZ,EZ,astep,aun,AVal.cells,seval]
  refine DR.nm rfl ?_
  exact DR.ret ⟨_,by simp [aresult,ares,Env.get] <;> rfl,rfl,by simp only [kept,h0,h1,h2,h3,h4,h5,h6,h7,h8,h9,h10,h11,h12,h13,Bool.or_true,Bool.true_or,Bool.or_false,Bool.false_or]⟩
 rw [Bool.not_eq_true] at h13
 rw [h13]
 refine DR.no rfl ?_
 refine DR.nm rfl ?_
 refine DR.ops ?_
 simp -dsimp only [r32_16,SZ,EZ,astep,aun,AVal.cells,seval,abin]
 by_cases h14:(s.toList==(⟨#[119,104,101,110]⟩:ByteArray).toList)=true
 ·rw [h14]
  refine DR.nm rfl ?_
  refine DR.yes rfl ?_
  refine DR.nm rfl ?_
  refine DR.ops ?_
  simp -dsimp only [r32_17,SZ,EZ,astep,aun,AVal.cells,seval]
  refine DR.nm rfl ?_
  exact DR.ret ⟨_,by simp [aresult,ares,Env.get] <;> rfl,rfl,by simp only [kept,h0,h1,h2,h3,h4,h5,h6,h7,h8,h9,h10,h11,h12,h13,h14,Bool.or_true,Bool.true_or,Bool.or_false,Bool.false_or]⟩
 rw [Bool.not_eq_true] at h14
 rw [h14]
 refine DR.nm rfl ?_
 refine DR.no rfl ?_
 refine DR.nm rfl ?_
 refine DR.ops ?_
 simp -dsimp only [r32_18,SZ,EZ,astep,aun,AVal.cells,seval]
 refine DR.nm rfl ?_
 exact DR.ret ⟨_,by simp [aresult,ares,Env.get] <;> rfl,rfl,by simp only [kept,h0,h1,h2,h3,h4,h5,h6,h7,h8,h9,h10,h11,h12,h13,h14,Bool.or_true,Bool.true_or,Bool.or_false,Bool.false_or]⟩
end Go.Am.Rl
