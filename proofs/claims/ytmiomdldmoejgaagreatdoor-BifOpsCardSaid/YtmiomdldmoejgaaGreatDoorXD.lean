/- Parts: NB, NC, RA, NG, NH. -/
import Derived.Test.YtmiomdldmoejgaaGreatDoorXC
import Derived.Test.YtmiomdldmoejgaaGreatDoorFnR
import Derived.Test.YtmiomdldmoejgaaGreatDoorXA
import Derived.Test.YtmiomdldmoejgaaGreatDoorXB
set_option linter.unusedVariables false
set_option linter.unusedSimpArgs false
set_option maxRecDepth 20000
namespace Go.Am.Rl
open Go.Proofs
abbrev o_add:ByteArray:=⟨#[43]⟩
abbrev o_sub:ByteArray:=⟨#[45]⟩
abbrev o_mul:ByteArray:=⟨#[42]⟩
abbrev o_quo:ByteArray:=⟨#[47]⟩
abbrev o_div:ByteArray:=⟨#[100,105,118]⟩
abbrev o_rem:ByteArray:=⟨#[114,101,109]⟩
def timesR (a b:Int):Res:=if 4611686018427387904 < a.natAbs * b.natAbs then (none,12) else intR (a * b)
def exactR (sg:ByteArray) (a b:Int):Res:=if sg=o_add then intR (a+b) else if sg=o_sub then intR (a - b) else timesR a b
def dividedR (sg:ByteArray) (a b:Int):Res:=if b=0 then (none,11) else if sg=o_div then intR (a.tdiv b) else intR (a.tmod b)
def floatingR (sg:ByteArray) (x y:Nat):Res:=
 if sg=o_add then fltR (flOr .f64 (FloatKind.f64.format.add x y)) else if sg=o_sub then fltR (flOr .f64 (FloatKind.f64.format.sub x y)) else if sg=o_mul then fltR (flOr .f64 (FloatKind.f64.format.mul x y))
 else if (FloatKind.f64.format.order y 0==some .eq)=true then (none,11) else fltR (flOr .f64 (FloatKind.f64.format.div x y))
abbrev rng (a:Int):Prop:= -576460752303423488≤a∧a≤576460752303423487
theorem sgT {s u:ByteArray} (h:s=u):abin .eql (.str s) (.str u)=some (.bool true):=by rw [eql_strs]; simp [h]
theorem sgF {s u:ByteArray} (h:s≠u):abin .eql (.str s) (.str u)=some (.bool false):=by rw [eql_strs]; simp [h]
theorem addI {a b:Int} (ha:rng a) (hb:rng b):abin .add (.int .i64 a) (.int .i64 b)=some (.int .i64 (a+b)):=by
 show some (AVal.int .i64 (IntKind.i64.wrap (a+b)))=_
 rw [IntKind.wrap_i64,show (a+b+9223372036854775808) % 18446744073709551616 - 9223372036854775808=a+b by omega]
theorem subI {a b:Int} (ha:rng a) (hb:rng b):abin .sub (.int .i64 a) (.int .i64 b)=some (.int .i64 (a - b)):=by
 show some (AVal.int .i64 (IntKind.i64.wrap (a - b)))=_
 rw [IntKind.wrap_i64,show (a - b+9223372036854775808) % 18446744073709551616 - 9223372036854775808=a - b by omega]
theorem quoI {a b:Int} (ha:rng a) (hb:rng b) (h0:b≠0):abin .quo (.int .i64 a) (.int .i64 b)=some (.int .i64 (a.tdiv b)):=by
 have e:abin .quo (.int .i64 a) (.int .i64 b)=if b=0 then none else some (.int .i64 (IntKind.i64.wrap (a.tdiv b))):=rfl
 have hle:(a.tdiv b).natAbs≤a.natAbs:=by rw [Int.natAbs_tdiv]; exact Nat.div_le_self _ _
 rw [e,if_neg h0,IntKind.wrap_i64,show (a.tdiv b+9223372036854775808) % 18446744073709551616 - 9223372036854775808=a.tdiv b by omega]
theorem remI {a b:Int} (h0:b≠0):abin .rem (.int .i64 a) (.int .i64 b)=some (.int .i64 (a.tmod b)):=by
 have e:abin .rem (.int .i64 a) (.int .i64 b)=if b=0 then none else some (.int .i64 (a.tmod b)):=rfl
 rw [e,if_neg h0]
theorem sum_nn {a b d:Ieee.Datum} (h:a.sum b=some d):∀ s t,d≠.nan s t:=by
 intro s t e
 subst e
 cases a <;> cases b <;> simp only [Ieee.Datum.sum] at h <;> first | (cases h; done) | (split at h <;> cases h) | (injection h with h; cases h)
theorem product_nn {a b d:Ieee.Datum} (h:a.product b=some d):∀ s t,d≠.nan s t:=by
 intro s t e
 subst e
 cases a <;> cases b <;> simp only [Ieee.Datum.product] at h <;> first | (cases h; done) | (split at h <;> cases h) | (injection h with h; cases h)
theorem quotient_nn {n:Nat} {a b d:Ieee.Datum} (h:a.quotient n b=some d):∀ s t,d≠.nan s t:=by
 intro s t e
 subst e
 cases a <;> cases b <;> simp only [Ieee.Datum.quotient] at h <;> first | (cases h; done) | (repeat' (first | (cases h; done) | split at h))
abbrev okF (v:AVal):Prop:=v = .nan .f64∨∃ f,v = .flt .f64 f∧f < 18446744073709551616
theorem okF_map {o:Option Ieee.Datum} (h:∀ d,o=some d→∀ s t,d≠.nan s t):okF (flOr .f64 (o.map FloatKind.f64.format.write)):=by
 cases o with
 | none=>exact .inl rfl
 | some d=>exact .inr ⟨_,rfl,write_lt (h d rfl)⟩
theorem okF_add (x y:Nat):okF (flOr .f64 (FloatKind.f64.format.add x y)):=okF_map fun d h=>sum_nn h
theorem okF_sub (x y:Nat):okF (flOr .f64 (FloatKind.f64.format.sub x y)):=okF_map fun d h=>sum_nn h
theorem okF_mul (x y:Nat):okF (flOr .f64 (FloatKind.f64.format.mul x y)):=okF_map fun d h=>product_nn h
theorem okF_div (x y:Nat):okF (flOr .f64 (FloatKind.f64.format.div x y)):=okF_map fun d h=>quotient_nn h
theorem g73 {sg:ByteArray} {a b:Int} (ha:rng a) (hb:rng b) (H:AHeap):DCall Tryz.prog 77 [.str sg,.int .i64 a,.int .i64 b] H fun r H'=>r=NR (dividedR sg a b)∧H'=H:=by
 refine NR_closed rfl ?_ H
 have hz:z25=[.int .i64 0,.int .i64 0,.flt .f64 0,.str ⟨#[]⟩,.nils]:=rfl
 obtain ⟨H1,hH1,g1,n1,f1⟩:=psh AHeap.empty (.cells 27 z25)
 refine DCall.of_body (fn:=Tryz.f77) (by kernel_rfl) c77 (by kernel_rfl) (by simp [f77]) ?_
 unfold f77
 simp only []
 refine Dg rfl ?_
 simp -dsimp only [SE,astep,seval,← hz,← hH1]
 by_cases h0:b=0
 ·have c0:=eqlT h0
  refine Dg rfl ?_
  simp -dsimp only [SE,astep,seval,c0]
  refine Dy rfl rfl ?_
  have s1:=store_all (n:=5) g1 (new:=z25) rfl rfl rfl
  obtain ⟨H9,hH9,g9,n9,f9⟩:=upd g1 (.cells 27 z25)
  have l9:=load_all (n:=5) g9 rfl
  refine Dg rfl ?_
  simp -dsimp only [SE,astep,seval,Env.parts,afill,← hz,s1,← hH9]
  refine Dm rfl ?_
  exact DR.ret ⟨NR (none,11),by simp [aresult,ares,Env.get,l9],by unfold dividedR; rw [if_pos h0]⟩
 have c0:=eqlF h0
 refine Dg rfl ?_
 simp -dsimp only [SE,astep,seval,c0]
 refine Dn rfl rfl ?_
 by_cases hd:sg=o_div
 ·have c1:=sgT hd
  refine Dg rfl ?_
  simp -dsimp only [SE,astep,seval,c1]
  refine Dy rfl rfl ?_
  refine Dg rfl ?_
  simp -dsimp only [SE,astep,seval,quoI ha hb h0]
  have e:dividedR sg a b=intR (a.tdiv b):=by unfold dividedR; rw [if_neg h0,if_pos hd]
  rw [e]
  refine (g79 (a.tdiv b) H1).mono ?_
  rintro r H' ⟨rfl,he⟩
  obtain rfl:=he.symm
  have s1:=store_all (n:=5) g1 (new:=cel (intR (a.tdiv b))) (cel_len _) (cel_ones _) rfl
  obtain ⟨H9,hH9,g9,n9,f9⟩:=upd g1 (.cells 27 (cel (intR (a.tdiv b))))
  have l9:=load_all (n:=5) g9 (cel_len _)
  have i0:([.agg (cel (intR (a.tdiv b))),.int .i64 (intR (a.tdiv b)).2]:List AVal)[0]? = some (.agg (cel (intR (a.tdiv b)))):=rfl
  have i1:([.agg (cel (intR (a.tdiv b))),.int .i64 (intR (a.tdiv b)).2]:List AVal)[1]? = some (.int .i64 (intR (a.tdiv b)).2):=rfl
  simp -dsimp only [SE,astep,seval,i0,i1,s1,← hH9]
  refine Dm rfl ?_
  exact DR.ret ⟨NR (intR (a.tdiv b)),by simp [aresult,ares,Env.get,l9],rfl⟩
 ·have c1:=sgF hd
  refine Dg rfl ?_
  simp -dsimp only [SE,astep,seval,c1]
  refine Dn rfl rfl ?_
  refine Dg rfl ?_
  simp -dsimp only [SE,astep,seval,remI h0]
  have e:dividedR sg a b=intR (a.tmod b):=by unfold dividedR; rw [if_neg h0,if_neg hd]
  rw [e]
  refine (g79 (a.tmod b) H1).mono ?_
  rintro r H' ⟨rfl,he⟩
  obtain rfl:=he.symm
  have s1:=store_all (n:=5) g1 (new:=cel (intR (a.tmod b))) (cel_len _) (cel_ones _) rfl
  obtain ⟨H9,hH9,g9,n9,f9⟩:=upd g1 (.cells 27 (cel (intR (a.tmod b))))
  have l9:=load_all (n:=5) g9 (cel_len _)
  have i0:([.agg (cel (intR (a.tmod b))),.int .i64 (intR (a.tmod b)).2]:List AVal)[0]? = some (.agg (cel (intR (a.tmod b)))):=rfl
  have i1:([.agg (cel (intR (a.tmod b))),.int .i64 (intR (a.tmod b)).2]:List AVal)[1]? = some (.int .i64 (intR (a.tmod b)).2):=rfl
  simp -dsimp only [SE,astep,seval,i0,i1,s1,← hH9]
  refine Dm rfl ?_
  exact DR.ret ⟨NR (intR (a.tmod b)),by simp [aresult,ares,Env.get,l9],rfl⟩
theorem mul_sign {a b:Int}:a * b=if (decide (a < 0))=(decide (b < 0)) then ((a.natAbs * b.natAbs:Nat):Int) else - ((a.natAbs * b.natAbs:Nat):Int):=by
 have ea:a=(a.natAbs:Int)∨a = - (a.natAbs:Int):=Int.natAbs_eq a
 have eb:b=(b.natAbs:Int)∨b = - (b.natAbs:Int):=Int.natAbs_eq b
 rw [Int.natCast_mul]
 by_cases h1:a < 0 <;> by_cases h2:b < 0
 ·rw [if_pos (by simp [h1,h2])]
  rw [show a = - (a.natAbs:Int) by omega,show b = - (b.natAbs:Int) by omega,Int.neg_mul_neg,Int.natAbs_neg,Int.natAbs_neg,Int.natAbs_natCast,Int.natAbs_natCast]
 ·rw [if_neg (by simp [h1,h2])]
  rw [show a = - (a.natAbs:Int) by omega,show b=(b.natAbs:Int) by omega,Int.neg_mul,Int.natAbs_neg,Int.natAbs_natCast,Int.natAbs_natCast]
 ·rw [if_neg (by simp [h1,h2])]
  rw [show a=(a.natAbs:Int) by omega,show b = - (b.natAbs:Int) by omega,Int.mul_neg,Int.natAbs_neg,Int.natAbs_natCast,Int.natAbs_natCast]
 ·rw [if_pos (by simp [h1,h2])]
  rw [show a=(a.natAbs:Int) by omega,show b=(b.natAbs:Int) by omega,Int.natAbs_natCast,Int.natAbs_natCast]
theorem g108 {a b:Int} (ha:rng a) (hb:rng b) (H:AHeap):DCall Tryz.prog 121 [.int .i64 a,.int .i64 b] H fun r H'=>r=NR (timesR a b)∧H'=H:=by
 refine NR_closed rfl ?_ H
 have hz:z25=[.int .i64 0,.int .i64 0,.flt .f64 0,.str ⟨#[]⟩,.nils]:=rfl
 obtain ⟨H1,hH1,g1,n1,f1⟩:=psh AHeap.empty (.cells 27 z25)
 obtain ⟨p,hp⟩:∃ p,p=a.natAbs * b.natAbs:=⟨_,rfl⟩
 have hpl:p≤576460752303423488 * 576460752303423488:=by rw [hp]; exact Nat.mul_le_mul (by omega) (by omega)
 have iy0:([u64 (p / 18446744073709551616),u64 (p % 18446744073709551616)]:List AVal)[0]? = some (u64 (p / 18446744073709551616)):=rfl
 have iy1:([u64 (p / 18446744073709551616),u64 (p % 18446744073709551616)]:List AVal)[1]? = some (u64 (p % 18446744073709551616)):=rfl
 refine DCall.of_body (fn:=Tryz.f121) (by kernel_rfl) c121 (by kernel_rfl) (by simp [f121]) ?_
 unfold f121
 simp only []
 refine Dg rfl ?_
 simp -dsimp only [SE,astep,seval,← hz,← hH1]
 refine Dg rfl ?_
 simp -dsimp only [SE,astep,seval]
 refine (g149 (n:=a) (by omega) H1).mono ?_
 rintro r H' ⟨rfl,he⟩
 obtain rfl:=he.symm
 simp -dsimp only [SE,astep,seval]
 refine (g149 (n:=b) (by omega) H1).mono ?_
 rintro r H' ⟨rfl,he⟩
 obtain rfl:=he.symm
 simp -dsimp only [SE,astep,seval]
 refine (g148 (x:=a.natAbs) (y:=b.natAbs) (by omega) (by omega) H1).mono ?_
 rintro r H' ⟨rfl,he⟩
 obtain rfl:=he.symm
 rw [← hp]
 simp -dsimp only [SE,astep,seval,iy0,iy1]
 by_cases hbig:4611686018427387904 < p
 ·have e:timesR a b=(none,12):=by unfold timesR; rw [← hp,if_pos hbig]
  rw [e]
  by_cases hh:0 < p / 18446744073709551616
  ·have c1:abin .gtr (u64 (p / 18446744073709551616)) (.int .u64 0)=some (.bool true):=by simp [abin]; omega
   refine Dg rfl ?_
   simp -dsimp only [SE,astep,seval,c1]
   refine Dy rfl rfl ?_
   have s1:=store_all (n:=5) g1 (new:=z25) rfl rfl rfl
   obtain ⟨H9,hH9,g9,n9,f9⟩:=upd g1 (.cells 27 z25)
   have l9:=load_all (n:=5) g9 rfl
   refine Dg rfl ?_
   simp -dsimp only [SE,astep,seval,Env.parts,afill,← hz,s1,← hH9]
   refine Dm rfl ?_
   exact DR.ret ⟨NR (none,12),by simp [aresult,ares,Env.get,l9],rfl⟩
  ·have c1:abin .gtr (u64 (p / 18446744073709551616)) (.int .u64 0)=some (.bool false):=by simp [abin]; omega
   have c2:abin .gtr (u64 (p % 18446744073709551616)) (.int .u64 4611686018427387904)=some (.bool true):=by simp [abin]; omega
   refine Dg rfl ?_
   simp -dsimp only [SE,astep,seval,c1,c2]
   refine Dy rfl rfl ?_
   have s1:=store_all (n:=5) g1 (new:=z25) rfl rfl rfl
   obtain ⟨H9,hH9,g9,n9,f9⟩:=upd g1 (.cells 27 z25)
   have l9:=load_all (n:=5) g9 rfl
   refine Dg rfl ?_
   simp -dsimp only [SE,astep,seval,Env.parts,afill,← hz,s1,← hH9]
   refine Dm rfl ?_
   exact DR.ret ⟨NR (none,12),by simp [aresult,ares,Env.get,l9],rfl⟩
 have c1:abin .gtr (u64 (p / 18446744073709551616)) (.int .u64 0)=some (.bool false):=by simp [abin]; omega
 have c2:abin .gtr (u64 (p % 18446744073709551616)) (.int .u64 4611686018427387904)=some (.bool false):=by simp [abin]; omega
 have hpm:p % 18446744073709551616=p:=by omega
 have e:timesR a b=intR (a * b):=by unfold timesR; rw [← hp,if_neg hbig]
 rw [e]
 refine Dg rfl ?_
 simp -dsimp only [SE,astep,seval,c1,c2]
 refine Dn rfl rfl ?_
 have ms:=mul_sign (a:=a) (b:=b)
 rw [← hp] at ms
 have d1:abin .lss (.int .i64 a) (.int .i64 0)=some (.bool (decide (a < 0))):=rfl
 have d2:abin .lss (.int .i64 b) (.int .i64 0)=some (.bool (decide (b < 0))):=rfl
 have wp:IntKind.i64.wrap ((p % 18446744073709551616:Nat):Int)=(p:Int):=by rw [hpm,IntKind.wrap_i64]; omega
 have wn:IntKind.i64.wrap (- (p:Int)) = - (p:Int):=by rw [IntKind.wrap_i64]; omega
 have x1:(true ^^ (true==true))=false:=rfl
 have x2:(true ^^ (false==false))=false:=rfl
 have x3:(true ^^ (true==false))=true:=rfl
 have x4:(true ^^ (false==true))=true:=rfl
 have pos:decide (a < 0)=decide (b < 0)→DCall Tryz.prog 83 [.int .i64 (p:Int)] H1 fun r H'=>r=NR (intR (a * b))∧H'=H1:=fun h=>by rw [ms,if_pos h]; exact g79 _ H1
 have neg:¬ decide (a < 0)=decide (b < 0)→DCall Tryz.prog 83 [.int .i64 (- (p:Int))] H1 fun r H'=>r=NR (intR (a * b))∧H'=H1:=fun h=>by rw [ms,if_neg h]; exact g79 _ H1
 cases ha':decide (a < 0) <;> cases hb':decide (b < 0) <;> rw [ha'] at d1 <;> rw [hb'] at d2
 ·refine Dg rfl ?_
  simp -dsimp only [SE,astep,seval,d1,d2,x1,x2,x3,x4]
  refine Dn rfl rfl ?_
  refine Dg rfl ?_
  simp -dsimp only [SE,astep,seval,wp]
  refine (pos (by rw [ha',hb'])).mono ?_
  rintro r H' ⟨rfl,he⟩
  obtain rfl:=he.symm
  have s1:=store_all (n:=5) g1 (new:=cel (intR (a * b))) (cel_len _) (cel_ones _) rfl
  obtain ⟨H9,hH9,g9,n9,f9⟩:=upd g1 (.cells 27 (cel (intR (a * b))))
  have l9:=load_all (n:=5) g9 (cel_len _)
  have i0:([.agg (cel (intR (a * b))),.int .i64 (intR (a * b)).2]:List AVal)[0]? = some (.agg (cel (intR (a * b)))):=rfl
  have i1:([.agg (cel (intR (a * b))),.int .i64 (intR (a * b)).2]:List AVal)[1]? = some (.int .i64 (intR (a * b)).2):=rfl
  simp -dsimp only [SE,astep,seval,i0,i1,s1,← hH9]
  refine Dm rfl ?_
  exact DR.ret ⟨NR (intR (a * b)),by simp [aresult,ares,Env.get,l9],rfl⟩
 ·refine Dg rfl ?_
  simp -dsimp only [SE,astep,seval,d1,d2,x1,x2,x3,x4]
  refine Dy rfl rfl ?_
  refine Dg rfl ?_
  simp -dsimp only [SE,astep,seval,wp,wn,Int.zero_sub]
  refine (neg (by rw [ha',hb']; decide)).mono ?_
  rintro r H' ⟨rfl,he⟩
  obtain rfl:=he.symm
  have s1:=store_all (n:=5) g1 (new:=cel (intR (a * b))) (cel_len _) (cel_ones _) rfl
  obtain ⟨H9,hH9,g9,n9,f9⟩:=upd g1 (.cells 27 (cel (intR (a * b))))
  have l9:=load_all (n:=5) g9 (cel_len _)
  have i0:([.agg (cel (intR (a * b))),.int .i64 (intR (a * b)).2]:List AVal)[0]? = some (.agg (cel (intR (a * b)))):=rfl
  have i1:([.agg (cel (intR (a * b))),.int .i64 (intR (a * b)).2]:List AVal)[1]? = some (.int .i64 (intR (a * b)).2):=rfl
  simp -dsimp only [SE,astep,seval,i0,i1,s1,← hH9]
  refine Dm rfl ?_
  exact DR.ret ⟨NR (intR (a * b)),by simp [aresult,ares,Env.get,l9],rfl⟩
 ·refine Dg rfl ?_
  simp -dsimp only [SE,astep,seval,d1,d2,x1,x2,x3,x4]
  refine Dy rfl rfl ?_
  refine Dg rfl ?_
  simp -dsimp only [SE,astep,seval,wp,wn,Int.zero_sub]
  refine (neg (by rw [ha',hb']; decide)).mono ?_
  rintro r H' ⟨rfl,he⟩
  obtain rfl:=he.symm
  have s1:=store_all (n:=5) g1 (new:=cel (intR (a * b))) (cel_len _) (cel_ones _) rfl
  obtain ⟨H9,hH9,g9,n9,f9⟩:=upd g1 (.cells 27 (cel (intR (a * b))))
  have l9:=load_all (n:=5) g9 (cel_len _)
  have i0:([.agg (cel (intR (a * b))),.int .i64 (intR (a * b)).2]:List AVal)[0]? = some (.agg (cel (intR (a * b)))):=rfl
  have i1:([.agg (cel (intR (a * b))),.int .i64 (intR (a * b)).2]:List AVal)[1]? = some (.int .i64 (intR (a * b)).2):=rfl
  simp -dsimp only [SE,astep,seval,i0,i1,s1,← hH9]
  refine Dm rfl ?_
  exact DR.ret ⟨NR (intR (a * b)),by simp [aresult,ares,Env.get,l9],rfl⟩
 ·refine Dg rfl ?_
  simp -dsimp only [SE,astep,seval,d1,d2,x1,x2,x3,x4]
  refine Dn rfl rfl ?_
  refine Dg rfl ?_
  simp -dsimp only [SE,astep,seval,wp]
  refine (pos (by rw [ha',hb'])).mono ?_
  rintro r H' ⟨rfl,he⟩
  obtain rfl:=he.symm
  have s1:=store_all (n:=5) g1 (new:=cel (intR (a * b))) (cel_len _) (cel_ones _) rfl
  obtain ⟨H9,hH9,g9,n9,f9⟩:=upd g1 (.cells 27 (cel (intR (a * b))))
  have l9:=load_all (n:=5) g9 (cel_len _)
  have i0:([.agg (cel (intR (a * b))),.int .i64 (intR (a * b)).2]:List AVal)[0]? = some (.agg (cel (intR (a * b)))):=rfl
  have i1:([.agg (cel (intR (a * b))),.int .i64 (intR (a * b)).2]:List AVal)[1]? = some (.int .i64 (intR (a * b)).2):=rfl
  simp -dsimp only [SE,astep,seval,i0,i1,s1,← hH9]
  refine Dm rfl ?_
  exact DR.ret ⟨NR (intR (a * b)),by simp [aresult,ares,Env.get,l9],rfl⟩
theorem g74 {sg:ByteArray} {a b:Int} (ha:rng a) (hb:rng b) (H:AHeap):DCall Tryz.prog 78 [.str sg,.int .i64 a,.int .i64 b] H fun r H'=>r=NR (exactR sg a b)∧H'=H:=by
 refine NR_closed rfl ?_ H
 have hz:z25=[.int .i64 0,.int .i64 0,.flt .f64 0,.str ⟨#[]⟩,.nils]:=rfl
 obtain ⟨H1,hH1,g1,n1,f1⟩:=psh AHeap.empty (.cells 27 z25)
 refine DCall.of_body (fn:=Tryz.f78) (by kernel_rfl) c78 (by kernel_rfl) (by simp [f78]) ?_
 unfold f78
 simp only []
 refine Dg rfl ?_
 simp -dsimp only [SE,astep,seval,← hz,← hH1]
 refine Dg rfl ?_
 simp -dsimp only [SE,astep,seval]
 by_cases h1:sg=o_add
 ·have c1:=sgT h1
  have e:exactR sg a b=intR (a+b):=by unfold exactR; rw [if_pos h1]
  rw [e]
  refine Dg rfl ?_
  simp -dsimp only [SE,astep,seval,c1]
  refine Dy rfl rfl ?_
  refine Dg rfl ?_
  simp -dsimp only [SE,astep,seval,addI ha hb]
  refine (g79 (a+b) H1).mono ?_
  rintro r H' ⟨rfl,he⟩
  obtain rfl:=he.symm
  have s1:=store_all (n:=5) g1 (new:=cel (intR (a+b))) (cel_len _) (cel_ones _) rfl
  obtain ⟨H9,hH9,g9,n9,f9⟩:=upd g1 (.cells 27 (cel (intR (a+b))))
  have l9:=load_all (n:=5) g9 (cel_len _)
  have i0:([.agg (cel (intR (a+b))),.int .i64 (intR (a+b)).2]:List AVal)[0]? = some (.agg (cel (intR (a+b)))):=rfl
  have i1:([.agg (cel (intR (a+b))),.int .i64 (intR (a+b)).2]:List AVal)[1]? = some (.int .i64 (intR (a+b)).2):=rfl
  simp -dsimp only [SE,astep,seval,i0,i1,s1,← hH9]
  refine Dm rfl ?_
  exact DR.ret ⟨NR (intR (a+b)),by simp [aresult,ares,Env.get,l9],rfl⟩
 have c1:=sgF h1
 refine Dg rfl ?_
 simp -dsimp only [SE,astep,seval,c1]
 refine Dn rfl rfl ?_
 by_cases h2:sg=o_sub
 ·have c2:=sgT h2
  have e:exactR sg a b=intR (a - b):=by unfold exactR; rw [if_neg h1,if_pos h2]
  rw [e]
  refine Dg rfl ?_
  simp -dsimp only [SE,astep,seval,c2]
  refine Dy rfl rfl ?_
  refine Dg rfl ?_
  simp -dsimp only [SE,astep,seval,subI ha hb]
  refine (g79 (a - b) H1).mono ?_
  rintro r H' ⟨rfl,he⟩
  obtain rfl:=he.symm
  have s1:=store_all (n:=5) g1 (new:=cel (intR (a - b))) (cel_len _) (cel_ones _) rfl
  obtain ⟨H9,hH9,g9,n9,f9⟩:=upd g1 (.cells 27 (cel (intR (a - b))))
  have l9:=load_all (n:=5) g9 (cel_len _)
  have i0:([.agg (cel (intR (a - b))),.int .i64 (intR (a - b)).2]:List AVal)[0]? = some (.agg (cel (intR (a - b)))):=rfl
  have i1:([.agg (cel (intR (a - b))),.int .i64 (intR (a - b)).2]:List AVal)[1]? = some (.int .i64 (intR (a - b)).2):=rfl
  simp -dsimp only [SE,astep,seval,i0,i1,s1,← hH9]
  refine Dm rfl ?_
  exact DR.ret ⟨NR (intR (a - b)),by simp [aresult,ares,Env.get,l9],rfl⟩
 have c2:=sgF h2
 have e:exactR sg a b=timesR a b:=by unfold exactR; rw [if_neg h1,if_neg h2]
 rw [e]
 refine Dg rfl ?_
 simp -dsimp only [SE,astep,seval,c2]
 refine Dn rfl rfl ?_
 refine Dg rfl ?_
 simp -dsimp only [SE,astep,seval]
 refine (g108 ha hb H1).mono ?_
 rintro r H' ⟨rfl,he⟩
 obtain rfl:=he.symm
 have s1:=store_all (n:=5) g1 (new:=cel (timesR a b)) (cel_len _) (cel_ones _) rfl
 obtain ⟨H9,hH9,g9,n9,f9⟩:=upd g1 (.cells 27 (cel (timesR a b)))
 have l9:=load_all (n:=5) g9 (cel_len _)
 have i0:([.agg (cel (timesR a b)),.int .i64 (timesR a b).2]:List AVal)[0]? = some (.agg (cel (timesR a b))):=rfl
 have i1:([.agg (cel (timesR a b)),.int .i64 (timesR a b).2]:List AVal)[1]? = some (.int .i64 (timesR a b).2):=rfl
 simp -dsimp only [SE,astep,seval,i0,i1,s1,← hH9]
 refine Dm rfl ?_
 exact DR.ret ⟨NR (timesR a b),by simp [aresult,ares,Env.get,l9],rfl⟩
theorem g75 {sg:ByteArray} (x y:Nat) (H:AHeap):DCall Tryz.prog 79 [.str sg,.flt .f64 x,.flt .f64 y] H fun r H'=>r=NR (floatingR sg x y)∧H'=H:=by
 refine NR_closed rfl ?_ H
 have hz:z25=[.int .i64 0,.int .i64 0,.flt .f64 0,.str ⟨#[]⟩,.nils]:=rfl
 obtain ⟨H1,hH1,g1,n1,f1⟩:=psh AHeap.empty (.cells 27 z25)
 refine DCall.of_body (fn:=Tryz.f79) (by kernel_rfl) c79 (by kernel_rfl) (by simp [f79]) ?_
 unfold f79
 simp only []
 refine Dg rfl ?_
 simp -dsimp only [SE,astep,seval,← hz,← hH1]
 refine Dg rfl ?_
 simp -dsimp only [SE,astep,seval]
 by_cases h1:sg=o_add
 ·have c1:=sgT h1
  have e:floatingR sg x y=fltR (flOr .f64 (FloatKind.f64.format.add x y)):=by unfold floatingR; rw [if_pos h1]
  have a1:abin .add (.flt .f64 x) (.flt .f64 y)=some (flOr .f64 (FloatKind.f64.format.add x y)):=rfl
  rw [e]
  refine Dg rfl ?_
  simp -dsimp only [SE,astep,seval,c1]
  refine Dy rfl rfl ?_
  refine Dg rfl ?_
  simp -dsimp only [SE,astep,seval,a1]
  refine (g80 (okF_add x y) H1).mono ?_
  rintro r H' ⟨rfl,he⟩
  obtain rfl:=he.symm
  have s1:=store_all (n:=5) g1 (new:=cel (fltR (flOr .f64 (FloatKind.f64.format.add x y)))) (cel_len _) (cel_ones _) rfl
  obtain ⟨H9,hH9,g9,n9,f9⟩:=upd g1 (.cells 27 (cel (fltR (flOr .f64 (FloatKind.f64.format.add x y)))))
  have l9:=load_all (n:=5) g9 (cel_len _)
  have i0:([.agg (cel (fltR (flOr .f64 (FloatKind.f64.format.add x y)))),.int .i64 (fltR (flOr .f64 (FloatKind.f64.format.add x y))).2]:List AVal)[0]? = some (.agg (cel (fltR (flOr .f64 (FloatKind.f64.format.add x y))))):=rfl
  have i1:([.agg (cel (fltR (flOr .f64 (FloatKind.f64.format.add x y)))),.int .i64 (fltR (flOr .f64 (FloatKind.f64.format.add x y))).2]:List AVal)[1]? = some (.int .i64 (fltR (flOr .f64 (FloatKind.f64.format.add x y))).2):=rfl
  simp -dsimp only [SE,astep,seval,i0,i1,s1,← hH9]
  refine Dm rfl ?_
  exact DR.ret ⟨NR (fltR (flOr .f64 (FloatKind.f64.format.add x y))),by simp [aresult,ares,Env.get,l9],rfl⟩
 have c1:=sgF h1
 refine Dg rfl ?_
 simp -dsimp only [SE,astep,seval,c1]
 refine Dn rfl rfl ?_
 by_cases h2:sg=o_sub
 ·have c2:=sgT h2
  have e:floatingR sg x y=fltR (flOr .f64 (FloatKind.f64.format.sub x y)):=by unfold floatingR; rw [if_neg h1,if_pos h2]
  have a2:abin .sub (.flt .f64 x) (.flt .f64 y)=some (flOr .f64 (FloatKind.f64.format.sub x y)):=rfl
  rw [e]
  refine Dg rfl ?_
  simp -dsimp only [SE,astep,seval,c2]
  refine Dy rfl rfl ?_
  refine Dg rfl ?_
  simp -dsimp only [SE,astep,seval,a2]
  refine (g80 (okF_sub x y) H1).mono ?_
  rintro r H' ⟨rfl,he⟩
  obtain rfl:=he.symm
  have s1:=store_all (n:=5) g1 (new:=cel (fltR (flOr .f64 (FloatKind.f64.format.sub x y)))) (cel_len _) (cel_ones _) rfl
  obtain ⟨H9,hH9,g9,n9,f9⟩:=upd g1 (.cells 27 (cel (fltR (flOr .f64 (FloatKind.f64.format.sub x y)))))
  have l9:=load_all (n:=5) g9 (cel_len _)
  have i0:([.agg (cel (fltR (flOr .f64 (FloatKind.f64.format.sub x y)))),.int .i64 (fltR (flOr .f64 (FloatKind.f64.format.sub x y))).2]:List AVal)[0]? = some (.agg (cel (fltR (flOr .f64 (FloatKind.f64.format.sub x y))))):=rfl
  have i1:([.agg (cel (fltR (flOr .f64 (FloatKind.f64.format.sub x y)))),.int .i64 (fltR (flOr .f64 (FloatKind.f64.format.sub x y))).2]:List AVal)[1]? = some (.int .i64 (fltR (flOr .f64 (FloatKind.f64.format.sub x y))).2):=rfl
  simp -dsimp only [SE,astep,seval,i0,i1,s1,← hH9]
  refine Dm rfl ?_
  exact DR.ret ⟨NR (fltR (flOr .f64 (FloatKind.f64.format.sub x y))),by simp [aresult,ares,Env.get,l9],rfl⟩
 have c2:=sgF h2
 refine Dg rfl ?_
 simp -dsimp only [SE,astep,seval,c2]
 refine Dn rfl rfl ?_
 by_cases h3:sg=o_mul
 ·have c3:=sgT h3
  have e:floatingR sg x y=fltR (flOr .f64 (FloatKind.f64.format.mul x y)):=by unfold floatingR; rw [if_neg h1,if_neg h2,if_pos h3]
  have a3:abin .mul (.flt .f64 x) (.flt .f64 y)=some (flOr .f64 (FloatKind.f64.format.mul x y)):=rfl
  rw [e]
  refine Dg rfl ?_
  simp -dsimp only [SE,astep,seval,c3]
  refine Dy rfl rfl ?_
  refine Dg rfl ?_
  simp -dsimp only [SE,astep,seval,a3]
  refine (g80 (okF_mul x y) H1).mono ?_
  rintro r H' ⟨rfl,he⟩
  obtain rfl:=he.symm
  have s1:=store_all (n:=5) g1 (new:=cel (fltR (flOr .f64 (FloatKind.f64.format.mul x y)))) (cel_len _) (cel_ones _) rfl
  obtain ⟨H9,hH9,g9,n9,f9⟩:=upd g1 (.cells 27 (cel (fltR (flOr .f64 (FloatKind.f64.format.mul x y)))))
  have l9:=load_all (n:=5) g9 (cel_len _)
  have i0:([.agg (cel (fltR (flOr .f64 (FloatKind.f64.format.mul x y)))),.int .i64 (fltR (flOr .f64 (FloatKind.f64.format.mul x y))).2]:List AVal)[0]? = some (.agg (cel (fltR (flOr .f64 (FloatKind.f64.format.mul x y))))):=rfl
  have i1:([.agg (cel (fltR (flOr .f64 (FloatKind.f64.format.mul x y)))),.int .i64 (fltR (flOr .f64 (FloatKind.f64.format.mul x y))).2]:List AVal)[1]? = some (.int .i64 (fltR (flOr .f64 (FloatKind.f64.format.mul x y))).2):=rfl
  simp -dsimp only [SE,astep,seval,i0,i1,s1,← hH9]
  refine Dm rfl ?_
  exact DR.ret ⟨NR (fltR (flOr .f64 (FloatKind.f64.format.mul x y))),by simp [aresult,ares,Env.get,l9],rfl⟩
 have c3:=sgF h3
 refine Dg rfl ?_
 simp -dsimp only [SE,astep,seval,c3]
 refine Dn rfl rfl ?_
 have c4:abin .eql (.flt .f64 y) (.flt .f64 0)=some (.bool (FloatKind.f64.format.order y 0==some .eq)):=rfl
 cases hq:(FloatKind.f64.format.order y 0==some .eq) with
 | true=>
  rw [hq] at c4
  refine Dg rfl ?_
  simp -dsimp only [SE,astep,seval,c4]
  refine Dy rfl rfl ?_
  have s1:=store_all (n:=5) g1 (new:=z25) rfl rfl rfl
  obtain ⟨H9,hH9,g9,n9,f9⟩:=upd g1 (.cells 27 z25)
  have l9:=load_all (n:=5) g9 rfl
  refine Dg rfl ?_
  simp -dsimp only [SE,astep,seval,Env.parts,afill,← hz,s1,← hH9]
  refine Dm rfl ?_
  exact DR.ret ⟨NR (none,11),by simp [aresult,ares,Env.get,l9],by unfold floatingR; rw [if_neg h1,if_neg h2,if_neg h3,if_pos hq]⟩
 | false=>
  rw [hq] at c4
  have e:floatingR sg x y=fltR (flOr .f64 (FloatKind.f64.format.div x y)):=by unfold floatingR; rw [if_neg h1,if_neg h2,if_neg h3,if_neg (by rw [hq]; decide)]
  have a4:abin .quo (.flt .f64 x) (.flt .f64 y)=some (flOr .f64 (FloatKind.f64.format.div x y)):=rfl
  rw [e]
  refine Dg rfl ?_
  simp -dsimp only [SE,astep,seval,c4]
  refine Dn rfl rfl ?_
  refine Dg rfl ?_
  simp -dsimp only [SE,astep,seval,a4]
  refine (g80 (okF_div x y) H1).mono ?_
  rintro r H' ⟨rfl,he⟩
  obtain rfl:=he.symm
  have s1:=store_all (n:=5) g1 (new:=cel (fltR (flOr .f64 (FloatKind.f64.format.div x y)))) (cel_len _) (cel_ones _) rfl
  obtain ⟨H9,hH9,g9,n9,f9⟩:=upd g1 (.cells 27 (cel (fltR (flOr .f64 (FloatKind.f64.format.div x y)))))
  have l9:=load_all (n:=5) g9 (cel_len _)
  have i0:([.agg (cel (fltR (flOr .f64 (FloatKind.f64.format.div x y)))),.int .i64 (fltR (flOr .f64 (FloatKind.f64.format.div x y))).2]:List AVal)[0]? = some (.agg (cel (fltR (flOr .f64 (FloatKind.f64.format.div x y))))):=rfl
  have i1:([.agg (cel (fltR (flOr .f64 (FloatKind.f64.format.div x y)))),.int .i64 (fltR (flOr .f64 (FloatKind.f64.format.div x y))).2]:List AVal)[1]? = some (.int .i64 (fltR (flOr .f64 (FloatKind.f64.format.div x y))).2):=rfl
  simp -dsimp only [SE,astep,seval,i0,i1,s1,← hH9]
  refine Dm rfl ?_
  exact DR.ret ⟨NR (fltR (flOr .f64 (FloatKind.f64.format.div x y))),by simp [aresult,ares,Env.get,l9],rfl⟩
end Go.Am.Rl
namespace Go.Am.Rl
open Go.Proofs
def isNb (t:TM):Bool:=decide (t.k=1∨t.k=2)
def kk (t:TM):Int:=if isNb t=true then t.k else 0
def nn (t:TM):Int:=if isNb t=true then t.n else 0
def ff (t:TM):Nat:=if isNb t=true then t.f else 0
abbrev of3 (t:TM):List AVal:=[.int .i64 (kk t),.int .i64 (nn t),.int .u64 (ff t:Nat)]
theorem of3_yes {t:TM} (h:isNb t=true):of3 t=n3 t:=by unfold of3 kk nn ff; rw [h]; rfl
theorem of3_no {t:TM} (h:isNb t=false):of3 t=z3:=by unfold of3 kk nn ff; rw [h]; rfl
theorem TM.f_lt {t:TM} (ok:t.ok):t.f < 18446744073709551616:=by
 cases t with
 | mk k n f s nl l=>
  have:=ok.2.2.1
  show f < 18446744073709551616
  simpa [Lit.wf] using this
theorem pl_rng {t:TM} (hf:fine t) (h:isNb t=true):t.s=⟨#[]⟩∧t.l=[]∧((t.k=1∧rng t.n∧t.f=0)∨(t.k=2∧t.n=0∧fin64 t.f=true)):=by
 have hk:t.k=1∨t.k=2:=by simpa [isNb] using h
 rcases ((fine_eq t).mp hf).1 with ⟨h1,h2,h3,h4,h5⟩ | ⟨h1,h2,h3,h4,h5⟩ | ⟨h,_⟩ | ⟨h | h,_⟩ | ⟨h,_⟩ | ⟨h | h,_⟩
 ·exact ⟨h2,h3,.inl ⟨h1,h4,h5⟩⟩
 ·exact ⟨h2,h3,.inr ⟨h1,h4,h5⟩⟩
 all_goals omega
theorem nn_rng {t:TM} (hf:fine t):rng (nn t):=by
 unfold nn
 cases h:isNb t with
 | false=>rw [if_neg (by decide)]; exact ⟨by decide,by decide⟩
 | true=>
  rw [if_pos rfl]
  obtain ⟨_,_,⟨_,h,_⟩ | ⟨_,h,_⟩⟩:=pl_rng hf h
  ·exact h
  ·rw [h]; exact ⟨by decide,by decide⟩
theorem g71 {t:TM} (ok:t.ok) (hf:fine t) (H:AHeap):DCall Tryz.prog 75 [t.agg] H fun r H'=>r = .tup [.agg (of3 t),.bool (isNb t)]∧H'=H:=by
 refine DCall.closed (sz:=szs) (TM.pures1 t) (Q:=fun r _=>r = .tup [.agg (of3 t),.bool (isNb t)]) (Q':=fun r=>r = .tup [.agg (of3 t),.bool (isNb t)]) ?_ (fun r H1 e=>⟨5,r,by rw [e]; rfl,e⟩) H
 have hz:z3=[.int .i64 0,.int .i64 0,.int .u64 0]:=rfl
 obtain ⟨H1,hH1,g1,n1,f1⟩:=psh AHeap.empty (.cells 27 (TM.c5 t))
 obtain ⟨H2,hH2,g2,n2,f2⟩:=psh H1 (.cells 83 z3)
 obtain ⟨H3,hH3,g3,n3',f3⟩:=psh H2 (.cells 83 z3)
 have s4:=store_all (n:=3) g3 (new:=n3 t) rfl rfl rfl
 obtain ⟨H4,hH4,g4,n4,f4⟩:=upd g3 (.cells 83 (n3 t))
 have t2:=(f2 _ (by omega)).trans g1
 have t4:H4.get AHeap.empty.next=some (.cells 27 (TM.c5 t)):=by rw [f4 _ (by omega),f3 _ (by omega)]; exact t2
 have r4:H4.get H1.next=some (.cells 83 z3):=by rw [f4 _ (by omega),f3 _ (by omega)]; exact g2
 have k2:=load_cell t2 (o:=0) (v:=.int .i64 t.k) rfl
 have m2:=load_cell t2 (o:=1) (v:=.int .i64 t.n) rfl
 have q2:=load_cell t2 (o:=2) (v:=.flt .f64 t.f) rfl
 have t3:=(f3 _ (by omega)).trans t2
 have k3:=load_cell t3 (o:=0) (v:=.int .i64 t.k) rfl
 have m3:=load_cell t3 (o:=1) (v:=.int .i64 t.n) rfl
 have q3:=load_cell t3 (o:=2) (v:=.flt .f64 t.f) rfl
 have k4:=load_cell t4 (o:=0) (v:=.int .i64 t.k) rfl
 have m4:=load_cell t4 (o:=1) (v:=.int .i64 t.n) rfl
 have q4:=load_cell t4 (o:=2) (v:=.flt .f64 t.f) rfl
 have s4':=load_cell t4 (o:=3) (v:=.str t.s) rfl
 have l4:=load_cell t4 (o:=4) (v:=t.row) rfl
 have hl:=TM.lenT ok H4
 have u4:=load_cell g4 (o:=2) (v:=.int .u64 (t.f:Nat)) rfl
 have w4:=load_all (n:=3) g4 rfl
 have hx:aext 0 [.flt .f64 t.f]=some (.int .u64 (t.f:Nat)):=rfl
 have hfl:afill [.int .i64 0,.int .i64 0,.int .u64 0] [(0,1,.int .i64 t.k),(1,1,.int .i64 t.n),(2,1,.int .u64 (t.f:Nat))]=some (n3 t):=rfl
 have s5:=store_all (n:=3) r4 (new:=n3 t) rfl rfl rfl
 obtain ⟨H5,hH5,g5,n5,f5⟩:=upd r4 (.cells 83 (n3 t))
 have l5:=load_all (n:=3) g5 rfl
 have t5:=(f5 _ (by omega)).trans t4
 have m5:=load_cell t5 (o:=1) (v:=.int .i64 t.n) rfl
 have q5:=load_cell t5 (o:=2) (v:=.flt .f64 t.f) rfl
 have s6:=store_all (n:=3) r4 (new:=z3) rfl rfl rfl
 obtain ⟨H6,hH6,g6,n6,f6⟩:=upd r4 (.cells 83 z3)
 have l6:=load_all (n:=3) g6 rfl
 refine DCall.of_body (fn:=Tryz.f75) (by kernel_rfl) c75 (by kernel_rfl) (by simp [f75]) ?_
 unfold f75
 simp only []
 refine Dg rfl ?_
 simp -dsimp only [SE,astep,seval,← hH1,← hz,← hH2]
 refine Dm rfl ?_
 refine DR.draw (by kernel_rfl) d75_1 ?_
 simp -dsimp only [m75_1,SE,astep,seval,DS_nil,DS_cons,seesAll,staysAll,abit,List.getD_cons_zero,List.getD_cons_succ,AOp.quiet,AOp.reads,true_and,and_true,decide_true,decide_false,and_self,k2,m2,q2,k3,m3,q3,hx,Env.parts,hfl,← hz,← hH3,s4,← hH4]
 cases hb:isNb t with
 | true=>
  obtain ⟨hs0,hl0,hcase⟩:=pl_rng hf hb
  rw [of3_yes hb]
  have e0:abin .neq (.str t.s) (.str ⟨#[]⟩)=some (.bool false):=by rw [hs0]; exact neq_str _
  rw [hl0] at hl
  have cl:abin .gtr (.int .i64 0) (.int .i64 0)=some (.bool false):=rfl
  have hl:alenT H4 1 t.row=some 0:=hl
  refine Dg rfl ?_
  simp -dsimp only [SE,astep,seval,s4',e0,l4,hl]
  refine Dn rfl rfl ?_
  refine Dg rfl ?_
  simp -dsimp only [SE,astep,seval,k4]
  rcases hcase with ⟨h1,hn,h0⟩ | ⟨h2,hn,hfin⟩
  ·have c1:=eqlT h1
   have c2:abin .eql (.int .u64 (t.f:Nat)) (.int .u64 0)=some (.bool true):=by rw [h0]; rfl
   have c3:abin .geq (.int .i64 t.n) (.int .i64 (-576460752303423488))=some (.bool true):=by simp [abin]; omega
   have c4:abin .leq (.int .i64 t.n) (.int .i64 576460752303423487)=some (.bool true):=by simp [abin]; omega
   refine Dg rfl ?_
   simp -dsimp only [SE,astep,seval,c1]
   refine Dy rfl rfl ?_
   refine Dm rfl ?_
   refine DR.draw (by kernel_rfl) d75_6 ?_
   simp -dsimp only [m75_6,SE,astep,seval,DS_nil,DS_cons,seesAll,staysAll,abit,List.getD_cons_zero,List.getD_cons_succ,AOp.quiet,AOp.reads,true_and,and_true,decide_true,decide_false,and_self,w4,u4,c2,m4,m5,c3,c4,s5,← hH5]
   refine Dm rfl ?_
   exact DR.ret ⟨.tup [.agg (n3 t),.bool true],by simp [aresult,ares,Env.get,l5],rfl⟩
  ·have c1:abin .eql (.int .i64 t.k) (.int .i64 1)=some (.bool false):=eqlF (by omega)
   have c2:=eqlT h2
   have c3:=eqlT hn
   refine Dg rfl ?_
   simp -dsimp only [SE,astep,seval,c1]
   refine Dn rfl rfl ?_
   refine Dg rfl ?_
   simp -dsimp only [SE,astep,seval,c2]
   refine Dy rfl rfl ?_
   refine Dm rfl ?_
   refine DR.draw (by kernel_rfl) d75_8 ?_
   simp -dsimp only [m75_8,SE,astep,seval,DS_nil,DS_cons,seesAll,staysAll,abit,List.getD_cons_zero,List.getD_cons_succ,AOp.quiet,AOp.reads,true_and,and_true,decide_true,decide_false,and_self,w4,m4,c3,q4]
   refine (g95 hfin H4).mono ?_
   rintro r H' ⟨rfl,he⟩
   obtain rfl:=he.symm
   simp -dsimp only [SE,astep,seval,DS_nil,DS_cons,seesAll,staysAll,abit,List.getD_cons_zero,List.getD_cons_succ,AOp.quiet,AOp.reads,true_and,and_true,decide_true,decide_false,and_self,w4,m4,c3,q4,Bool.not_false]
   refine (g107x (fin_gtr (TM.f_lt ok) hfin) H4).mono ?_
   rintro r H' ⟨rfl,he⟩
   obtain rfl:=he.symm
   simp -dsimp only [SE,astep,seval,DS_nil,DS_cons,seesAll,staysAll,abit,List.getD_cons_zero,List.getD_cons_succ,AOp.quiet,AOp.reads,true_and,and_true,decide_true,decide_false,and_self,w4,m4,c3,q4,q5,Bool.not_false,s5,← hH5]
   refine Dm rfl ?_
   exact DR.ret ⟨.tup [.agg (n3 t),.bool true],by simp [aresult,ares,Env.get,l5],rfl⟩
 | false=>
  rw [of3_no hb]
  have hk:¬ (t.k=1∨t.k=2):=by simpa [isNb] using hb
  by_cases hs:t.s=⟨#[]⟩
  ·have e0:abin .neq (.str t.s) (.str ⟨#[]⟩)=some (.bool false):=by rw [hs]; exact neq_str _
   by_cases hll:t.l.length=0
   ·rw [hll] at hl
    refine Dg rfl ?_
    simp -dsimp only [SE,astep,seval,s4',e0,l4,hl]
    refine Dn rfl rfl ?_
    have c1:abin .eql (.int .i64 t.k) (.int .i64 1)=some (.bool false):=eqlF (by omega)
    have c2:abin .eql (.int .i64 t.k) (.int .i64 2)=some (.bool false):=eqlF (by omega)
    refine Dg rfl ?_
    simp -dsimp only [SE,astep,seval,k4]
    refine Dg rfl ?_
    simp -dsimp only [SE,astep,seval,c1]
    refine Dn rfl rfl ?_
    refine Dg rfl ?_
    simp -dsimp only [SE,astep,seval,c2]
    refine Dn rfl rfl ?_
    refine Dg rfl ?_
    simp -dsimp only [SE,astep,seval,Env.parts,afill,← hz,s6,← hH6]
    refine Dm rfl ?_
    exact DR.ret ⟨.tup [.agg z3,.bool false],by simp [aresult,ares,Env.get,l6],rfl⟩
   ·have cl:abin .gtr (.int .i64 (t.l.length:Nat)) (.int .i64 0)=some (.bool true):=by simp [abin]; omega
    refine Dg rfl ?_
    simp -dsimp only [SE,astep,seval,s4',e0,l4,hl,cl]
    refine Dy rfl rfl ?_
    refine Dg rfl ?_
    simp -dsimp only [SE,astep,seval,Env.parts,afill,← hz,s6,← hH6]
    refine Dm rfl ?_
    exact DR.ret ⟨.tup [.agg z3,.bool false],by simp [aresult,ares,Env.get,l6],rfl⟩
  ·have e0:abin .neq (.str t.s) (.str ⟨#[]⟩)=some (.bool true):=by rw [neq_strs]; simp [hs]
   refine Dg rfl ?_
   simp -dsimp only [SE,astep,seval,s4',e0]
   refine Dy rfl rfl ?_
   refine Dg rfl ?_
   simp -dsimp only [SE,astep,seval,Env.parts,afill,← hz,s6,← hH6]
   refine Dm rfl ?_
   exact DR.ret ⟨.tup [.agg z3,.bool false],by simp [aresult,ares,Env.get,l6],rfl⟩
theorem g72 (k n:Int) (u:Nat) (H:AHeap):DCall Tryz.prog 76 [.agg [.int .i64 k,.int .i64 n,.int .u64 (u:Nat)]] H fun r H'=>r = .bool (decide (k=1))∧H'=H:=by
 have h:DCall Tryz.prog 76 [.agg [.int .i64 k,.int .i64 n,.int .u64 (u:Nat)]] AHeap.empty fun r H'=>∃ b,r = .bool b∧b=decide (k=1):=by
  obtain ⟨H1,hH1,g1,n1,f1⟩:=psh AHeap.empty (.cells 83 [.int .i64 k,.int .i64 n,.int .u64 (u:Nat)])
  have l1:=load_cell g1 (o:=0) (v:=.int .i64 k) rfl
  have c:=eql_dec k 1
  refine DCall.of_body (fn:=Tryz.f76) (by kernel_rfl) c76 (by kernel_rfl) (by simp [f76]) ?_
  unfold f76
  simp only []
  refine Dg rfl ?_
  simp -dsimp only [SE,astep,seval,← hH1]
  refine Dg rfl ?_
  simp -dsimp only [SE,astep,seval,l1,c]
  refine Dm rfl ?_
  exact DR.ret ⟨_,by simp [aresult,ares,Env.get] <;> rfl,_,rfl,rfl⟩
 exact (DCall.bools rfl h H).mono fun r H' ⟨⟨n,h1,h3⟩,h2⟩=>⟨by rw [h1,h3],h2⟩
def nearf (n:Int):Nat:=FloatKind.f64.nearest n
theorem g109 (n:Int) (H:AHeap):DCall Tryz.prog 122 [.int .i64 n] H fun r H'=>r = .flt .f64 (nearf n)∧H'=H:=by
 refine DCall.of_body (fn:=Tryz.f122) (by kernel_rfl) c122 (by kernel_rfl) (by simp [f122]) ?_
 unfold f122
 simp only []
 refine Dg rfl ?_
 simp -dsimp only [SE,astep,seval]
 refine Dg rfl ?_
 simp -dsimp only [SE,astep,seval]
 refine Dm rfl ?_
 exact DR.ret ⟨_,by simp [aresult,ares,Env.get] <;> rfl,rfl,rfl⟩
def realv (k n:Int) (f:Nat):Nat:=if k=1 then nearf n else f
theorem g76 (k n:Int) (u:Nat) (H:AHeap):DCall Tryz.prog 80 [.agg [.int .i64 k,.int .i64 n,.int .u64 (u:Nat)]] H fun r H'=>r = .flt .f64 (realv k n u)∧H'=H:=by
 refine DCall.closed (sz:=szs) rfl (Q:=fun r _=>r = .flt .f64 (realv k n u)) (Q':=fun r=>r = .flt .f64 (realv k n u)) ?_ (fun r H1 e=>⟨1,r,by rw [e]; rfl,e⟩) H
 obtain ⟨H1,hH1,g1,n1,f1⟩:=psh AHeap.empty (.cells 83 [.int .i64 k,.int .i64 n,.int .u64 (u:Nat)])
 have l0:=load_all (n:=3) g1 rfl
 have l1:=load_cell g1 (o:=1) (v:=.int .i64 n) rfl
 have l2:=load_cell g1 (o:=2) (v:=.int .u64 (u:Nat)) rfl
 have hx:aext 1 [.int .u64 (u:Nat)]=some (.flt .f64 u):=rfl
 refine DCall.of_body (fn:=Tryz.f80) (by kernel_rfl) c80 (by kernel_rfl) (by simp [f80]) ?_
 unfold f80
 simp only []
 refine Dg rfl ?_
 simp -dsimp only [SE,astep,seval,← hH1]
 refine Dg rfl ?_
 simp -dsimp only [SE,astep,seval,l0]
 refine (g72 k n u H1).mono ?_
 rintro r H' ⟨rfl,he⟩
 obtain rfl:=he.symm
 by_cases h:k=1
 ·have hd:decide (k=1)=true:=by simp [h]
  rw [hd]
  simp -dsimp only [SE,astep,seval]
  refine Dy rfl rfl ?_
  refine Dg rfl ?_
  simp -dsimp only [SE,astep,seval,l1]
  refine (g109 n H1).mono ?_
  rintro r H' ⟨rfl,he⟩
  obtain rfl:=he.symm
  simp -dsimp only [SE,astep,seval]
  refine Dm rfl ?_
  exact DR.ret ⟨_,by simp [aresult,ares,Env.get] <;> rfl,by unfold realv; rw [if_pos h]⟩
 ·have hd:decide (k=1)=false:=by simp [h]
  rw [hd]
  simp -dsimp only [SE,astep,seval]
  refine Dn rfl rfl ?_
  refine Dg rfl ?_
  simp -dsimp only [SE,astep,seval,l2,hx]
  refine Dm rfl ?_
  exact DR.ret ⟨_,by simp [aresult,ares,Env.get] <;> rfl,by unfold realv; rw [if_neg h]⟩
def opR (sg:ByteArray) (a b:TM):Res:=
 if ¬ (isNb a=true∧isNb b=true) then (none,11)
 else if sg=o_div∨sg=o_rem then (if kk a=1∧kk b=1 then dividedR sg (nn a) (nn b) else (none,11))
 else if (kk a=1∧kk b=1)∧sg≠o_quo then exactR sg (nn a) (nn b)
 else floatingR sg (realv (kk a) (nn a) (ff a)) (realv (kk b) (nn b) (ff b))
abbrev rest45:ACode:=.seq (.region false r39_10 [0,6,8,9,10,11]) (.seq (.region false r39_11 [0,6,8,9,10,11,12]) (.seq (.region false r39_12 [0,6,8,9,10,11,12,13]) (.seq (.block 1 (.seq (.region false r39_13 [0,6,8,10,12,13,45]) (.cond (.t 45) (.seq (.region false r39_14 [6,7]) .ret) (.seq (.region false r39_15 [0,6,8,10,12,60]) (.cond (.t 60) (.seq (.region false r39_16 [6,7]) .ret) (.seq (.region false r39_17 [0,6,8,10,70]) (.cond (.t 70) (.seq (.region false r39_18 [6,7]) .ret) .skip))))))) (.seq (.region true r39_19 [6,7]) .ret))))
theorem tail45 {sg:ByteArray} {a b:TM} (oa:a.ok) (ob:b.ok) (fa:fine a) (fb:fine b) {H:AHeap} {i4 i5 i6:Nat} (ga:H.get i4=some (.cells 27 (TM.c5 a))) (gb:H.get i5=some (.cells 27 (TM.c5 b))) (gr:H.get i6=some (.cells 27 z25)) :
  DR Tryz.prog (kof k39) 92 [.code (.region false r39_9 [0,5,6,8,9]),.code rest45] [(0,.str sg),(4,.ptr i4 0),(5,.ptr i5 0),(6,.ptr i6 0)] H fun T' H'=>∃ r,aresult H' T' [.cell 6 (some 5),.tmp 7]=some r∧r=NR (opR sg a b):=by
 have hz:z25=[.int .i64 0,.int .i64 0,.flt .f64 0,.str ⟨#[]⟩,.nils]:=rfl
 have hz3:z3=[.int .i64 0,.int .i64 0,.int .u64 0]:=rfl
 have na:=AHeap.get_lt ga
 have nb:=AHeap.get_lt gb
 have nr:=AHeap.get_lt gr
 have la:=load_all (n:=5) ga rfl
 obtain ⟨H1,hH1,g1,n1,f1⟩:=psh H (.cells 83 z3)
 have s1:=store_all (n:=3) g1 (new:=of3 a) rfl rfl rfl
 obtain ⟨H2,hH2,g2,n2,f2⟩:=upd g1 (.cells 83 (of3 a))
 have b2:H2.get i5=some (.cells 27 (TM.c5 b)):=by rw [f2 _ (by omega),f1 _ nb]; exact gb
 have lb:=load_all (n:=5) b2 rfl
 obtain ⟨H3,hH3,g3,n3,f3⟩:=psh H2 (.cells 83 z3)
 have s3:=store_all (n:=3) g3 (new:=of3 b) rfl rfl rfl
 obtain ⟨H4,hH4,g4,n4,f4⟩:=upd g3 (.cells 83 (of3 b))
 have x4:H4.get H.next=some (.cells 83 (of3 a)):=by rw [f4 _ (by omega),f3 _ (by omega)]; exact g2
 have r4:H4.get i6=some (.cells 27 z25):=by rw [f4 _ (by omega),f3 _ (by omega),f2 _ (by omega),f1 _ nr]; exact gr
 have lx:=load_all (n:=3) x4 rfl
 have ly:=load_all (n:=3) g4 rfl
 have lx1:=load_cell x4 (o:=1) (v:=.int .i64 (nn a)) rfl
 have ly1:=load_cell g4 (o:=1) (v:=.int .i64 (nn b)) rfl
 have ia0:([.agg (of3 a),.bool (isNb a)]:List AVal)[0]? = some (.agg (of3 a)):=rfl
 have ia1:([.agg (of3 a),.bool (isNb a)]:List AVal)[1]? = some (.bool (isNb a)):=rfl
 have ib0:([.agg (of3 b),.bool (isNb b)]:List AVal)[0]? = some (.agg (of3 b)):=rfl
 have ib1:([.agg (of3 b),.bool (isNb b)]:List AVal)[1]? = some (.bool (isNb b)):=rfl
 refine Dg rfl ?_
 simp -dsimp only [SE,astep,seval,la]
 refine (g71 oa fa H).mono ?_
 rintro r H' ⟨rfl,he⟩
 obtain rfl:=he.symm
 simp -dsimp only [SE,astep,seval,ia0,ia1,← hz3,← hH1,s1,← hH2]
 refine Dg rfl ?_
 simp -dsimp only [SE,astep,seval,lb]
 refine (g71 ob fb H2).mono ?_
 rintro r H' ⟨rfl,he⟩
 obtain rfl:=he.symm
 simp -dsimp only [SE,astep,seval,ib0,ib1,← hz3,← hH3,s3,← hH4]
 have err:∀ T:Env,T=[(6,.ptr i6 0)]→True:=fun _ _=>trivial
 have d1:=eql_strs (s:=sg) (u:=o_div)
 have d2:=eql_strs (s:=sg) (u:=o_rem)
 have d3:=neq_strs (s:=sg) (u:=o_quo)
 have key:∀ wa wb:Bool,wa=decide (kk a=1)→wb=decide (kk b=1)→DR Tryz.prog (kof k39) 92 [.code (.seq (.region false r39_12 [0,6,8,9,10,11,12,13]) (.seq (.block 1 (.seq (.region false r39_13 [0,6,8,10,12,13,45]) (.cond (.t 45) (.seq (.region false r39_14 [6,7]) .ret) (.seq (.region false r39_15 [0,6,8,10,12,60]) (.cond (.t 60) (.seq (.region false r39_16 [6,7]) .ret) (.seq (.region false r39_17 [0,6,8,10,70]) (.cond (.t 70) (.seq (.region false r39_18 [6,7]) .ret) .skip))))))) (.seq (.region true r39_19 [6,7]) .ret)))] [(0,.str sg),(6,.ptr i6 0),(8,.ptr H.next 0),(9,.bool (isNb a)),(10,.ptr H2.next 0),(11,.bool (isNb b)),(12,.bool (wa&&wb))] H4 fun T' H'=>∃ r,aresult H' T' [.cell 6 (some 5),.tmp 7]=some r∧r=NR (opR sg a b):=by
  intro wa wb hwa hwb
  obtain ⟨wh,hwh⟩:∃ wh:Bool,wh=decide (sg=o_div∨sg=o_rem):=⟨_,rfl⟩
  have pre:DR Tryz.prog (kof k39) 92 [.code (.seq (.block 1 (.seq (.region false r39_13 [0,6,8,10,12,13,45]) (.cond (.t 45) (.seq (.region false r39_14 [6,7]) .ret) (.seq (.region false r39_15 [0,6,8,10,12,60]) (.cond (.t 60) (.seq (.region false r39_16 [6,7]) .ret) (.seq (.region false r39_17 [0,6,8,10,70]) (.cond (.t 70) (.seq (.region false r39_18 [6,7]) .ret) .skip))))))) (.seq (.region true r39_19 [6,7]) .ret))] [(0,.str sg),(6,.ptr i6 0),(8,.ptr H.next 0),(9,.bool (isNb a)),(10,.ptr H2.next 0),(11,.bool (isNb b)),(12,.bool (wa&&wb)),(13,.bool wh)] H4 fun T' H'=>∃ r,aresult H' T' [.cell 6 (some 5),.tmp 7]=some r∧r=NR (opR sg a b):=by
   have both:(wa&&wb)=true↔(kk a=1∧kk b=1):=by rw [hwa,hwb]; simp
   cases ha:isNb a with
   | false=>
    have e:opR sg a b=(none,11):=by unfold opR; rw [if_pos (by rw [ha]; simp)]
    rw [e]
    refine Dg rfl ?_
    simp -dsimp only [SE,astep,seval,Bool.not_false]
    refine Dy rfl rfl ?_
    have s1:=store_all (n:=5) r4 (new:=z25) rfl rfl rfl
    obtain ⟨H9,hH9,g9,n9,f9⟩:=upd r4 (.cells 27 z25)
    have l9:=load_all (n:=5) g9 rfl
    refine Dg rfl ?_
    simp -dsimp only [SE,astep,seval,Env.parts,afill,← hz,s1,← hH9]
    refine Dm rfl ?_
    exact DR.ret ⟨NR (none,11),by simp [aresult,ares,Env.get,l9],rfl⟩
   | true=> ?_
   cases hb:isNb b with
   | false=>
    have e:opR sg a b=(none,11):=by unfold opR; rw [if_pos (by rw [hb]; simp)]
    rw [e]
    refine Dg rfl ?_
    simp -dsimp only [SE,astep,seval,Bool.not_true,Bool.not_false]
    refine Dy rfl rfl ?_
    have s1:=store_all (n:=5) r4 (new:=z25) rfl rfl rfl
    obtain ⟨H9,hH9,g9,n9,f9⟩:=upd r4 (.cells 27 z25)
    have l9:=load_all (n:=5) g9 rfl
    refine Dg rfl ?_
    simp -dsimp only [SE,astep,seval,Env.parts,afill,← hz,s1,← hH9]
    refine Dm rfl ?_
    exact DR.ret ⟨NR (none,11),by simp [aresult,ares,Env.get,l9],rfl⟩
   | true=> ?_
   cases hw:wh with
   | true=>
    have hwh':sg=o_div∨sg=o_rem:=by rw [hw] at hwh; simpa using hwh.symm
    cases hbo:(wa&&wb) with
    | false=>
     have e:opR sg a b=(none,11):=by unfold opR; rw [if_neg (by rw [ha,hb]; simp),if_pos hwh',if_neg (fun h=>by rw [both.mpr h] at hbo; cases hbo)]
     rw [e]
     refine Dg rfl ?_
     simp -dsimp only [SE,astep,seval,Bool.not_true,Bool.not_false]
     refine Dy rfl rfl ?_
     have s1:=store_all (n:=5) r4 (new:=z25) rfl rfl rfl
     obtain ⟨H9,hH9,g9,n9,f9⟩:=upd r4 (.cells 27 z25)
     have l9:=load_all (n:=5) g9 rfl
     refine Dg rfl ?_
     simp -dsimp only [SE,astep,seval,Env.parts,afill,← hz,s1,← hH9]
     refine Dm rfl ?_
     exact DR.ret ⟨NR (none,11),by simp [aresult,ares,Env.get,l9],rfl⟩
    | true=>
     have e:opR sg a b=dividedR sg (nn a) (nn b):=by unfold opR; rw [if_neg (by rw [ha,hb]; simp),if_pos hwh',if_pos (both.mp hbo)]
     rw [e]
     refine Dg rfl ?_
     simp -dsimp only [SE,astep,seval,Bool.not_true]
     refine Dn rfl rfl ?_
     refine Dg rfl ?_
     simp -dsimp only [SE,astep,seval]
     refine Dy rfl rfl ?_
     refine Dg rfl ?_
     simp -dsimp only [SE,astep,seval,lx1,ly1]
     refine (g73 (nn_rng fa) (nn_rng fb) H4).mono ?_
     rintro r H' ⟨rfl,he⟩
     obtain rfl:=he.symm
     have s1:=store_all (n:=5) r4 (new:=cel (dividedR sg (nn a) (nn b))) (cel_len _) (cel_ones _) rfl
     obtain ⟨H9,hH9,g9,n9,f9⟩:=upd r4 (.cells 27 (cel (dividedR sg (nn a) (nn b))))
     have l9:=load_all (n:=5) g9 (cel_len _)
     have i0:([.agg (cel (dividedR sg (nn a) (nn b))),.int .i64 (dividedR sg (nn a) (nn b)).2]:List AVal)[0]? = some (.agg (cel (dividedR sg (nn a) (nn b)))):=rfl
     have i1:([.agg (cel (dividedR sg (nn a) (nn b))),.int .i64 (dividedR sg (nn a) (nn b)).2]:List AVal)[1]? = some (.int .i64 (dividedR sg (nn a) (nn b)).2):=rfl
     simp -dsimp only [SE,astep,seval,i0,i1,s1,← hH9]
     refine Dm rfl ?_
     exact DR.ret ⟨NR (dividedR sg (nn a) (nn b)),by simp [aresult,ares,Env.get,l9],rfl⟩
   | false=>
    have hwh':¬ (sg=o_div∨sg=o_rem):=by rw [hw] at hwh; simpa using hwh.symm
    refine Dg rfl ?_
    simp -dsimp only [SE,astep,seval,Bool.not_true]
    refine Dn rfl rfl ?_
    refine Dg rfl ?_
    simp -dsimp only [SE,astep,seval]
    refine Dn rfl rfl ?_
    have fl:(¬ ((kk a=1∧kk b=1)∧sg≠o_quo))→DR Tryz.prog (kof k39) 92 [.code (.region true r39_19 [6,7]),.code .ret] [(0,.str sg),(6,.ptr i6 0),(8,.ptr H.next 0),(10,.ptr H2.next 0)] H4 fun T' H'=>∃ r,aresult H' T' [.cell 6 (some 5),.tmp 7]=some r∧r=NR (opR sg a b):=by
     intro hno
     have e:opR sg a b=floatingR sg (realv (kk a) (nn a) (ff a)) (realv (kk b) (nn b) (ff b)):=by unfold opR; rw [if_neg (by rw [ha,hb]; simp),if_neg hwh',if_neg hno]
     rw [e]
     obtain ⟨P,hP⟩:∃ P,P=floatingR sg (realv (kk a) (nn a) (ff a)) (realv (kk b) (nn b) (ff b)):=⟨_,rfl⟩
     have s9:=store_all (n:=5) r4 (new:=cel P) (cel_len _) (cel_ones _) rfl
     obtain ⟨H9,hH9,g9,n9,f9⟩:=upd r4 (.cells 27 (cel P))
     have l9:=load_all (n:=5) g9 (cel_len _)
     have i0:([.agg (cel P),.int .i64 P.2]:List AVal)[0]? = some (.agg (cel P)):=rfl
     have i1:([.agg (cel P),.int .i64 P.2]:List AVal)[1]? = some (.int .i64 P.2):=rfl
     refine Dm rfl ?_
     refine DR.draw (by kernel_rfl) d39_19 ?_
     simp -dsimp only [m39_19,SE,astep,seval,DS_nil,DS_cons,seesAll,staysAll,abit,List.getD_cons_zero,List.getD_cons_succ,AOp.quiet,AOp.reads,true_and,and_true,decide_true,decide_false,and_self,lx,ly]
     refine (g76 (kk a) (nn a) (ff a) H4).mono ?_
     rintro r H' ⟨rfl,he⟩
     obtain rfl:=he.symm
     simp -dsimp only [SE,astep,seval,DS_nil,DS_cons,seesAll,staysAll,abit,List.getD_cons_zero,List.getD_cons_succ,AOp.quiet,AOp.reads,true_and,and_true,decide_true,decide_false,and_self,lx,ly]
     refine (g76 (kk b) (nn b) (ff b) H4).mono ?_
     rintro r H' ⟨rfl,he⟩
     obtain rfl:=he.symm
     simp -dsimp only [SE,astep,seval,DS_nil,DS_cons,seesAll,staysAll,abit,List.getD_cons_zero,List.getD_cons_succ,AOp.quiet,AOp.reads,true_and,and_true,decide_true,decide_false,and_self,lx,ly]
     refine (g75 (realv (kk a) (nn a) (ff a)) (realv (kk b) (nn b) (ff b)) H4).mono ?_
     rintro r H' ⟨rfl,he⟩
     obtain rfl:=he.symm
     rw [← hP]
     simp -dsimp only [SE,astep,seval,DS_nil,DS_cons,seesAll,staysAll,abit,List.getD_cons_zero,List.getD_cons_succ,AOp.quiet,AOp.reads,true_and,and_true,decide_true,decide_false,and_self,lx,ly,i0,i1,s9,← hH9]
     refine Dm rfl ?_
     exact DR.ret ⟨NR P,by simp [aresult,ares,Env.get,l9],rfl⟩
    cases hbo:(wa&&wb) with
    | false=>
     refine Dg rfl ?_
     simp -dsimp only [SE,astep,seval]
     refine Dn rfl rfl ?_
     refine Dm rfl ?_
     exact DR.only [0,6,8,10] (fl (fun h=>by rw [both.mpr h.1] at hbo; cases hbo))
    | true=>
     by_cases hq:sg=o_quo
     ·have d3':abin .neq (.str sg) (.str o_quo)=some (.bool false):=by rw [d3]; simp [hq]
      refine Dg rfl ?_
      simp -dsimp only [SE,astep,seval,d3']
      refine Dn rfl rfl ?_
      refine Dm rfl ?_
      exact DR.only [0,6,8,10] (fl (fun h=>h.2 hq))
     ·have d3':abin .neq (.str sg) (.str o_quo)=some (.bool true):=by rw [d3]; simp [hq]
      have e:opR sg a b=exactR sg (nn a) (nn b):=by unfold opR; rw [if_neg (by rw [ha,hb]; simp),if_neg hwh',if_pos ⟨both.mp hbo,hq⟩]
      rw [e]
      refine Dg rfl ?_
      simp -dsimp only [SE,astep,seval,d3']
      refine Dy rfl rfl ?_
      refine Dg rfl ?_
      simp -dsimp only [SE,astep,seval,lx1,ly1]
      refine (g74 (nn_rng fa) (nn_rng fb) H4).mono ?_
      rintro r H' ⟨rfl,he⟩
      obtain rfl:=he.symm
      have s1:=store_all (n:=5) r4 (new:=cel (exactR sg (nn a) (nn b))) (cel_len _) (cel_ones _) rfl
      obtain ⟨H9,hH9,g9,n9,f9⟩:=upd r4 (.cells 27 (cel (exactR sg (nn a) (nn b))))
      have l9:=load_all (n:=5) g9 (cel_len _)
      have i0:([.agg (cel (exactR sg (nn a) (nn b))),.int .i64 (exactR sg (nn a) (nn b)).2]:List AVal)[0]? = some (.agg (cel (exactR sg (nn a) (nn b)))):=rfl
      have i1:([.agg (cel (exactR sg (nn a) (nn b))),.int .i64 (exactR sg (nn a) (nn b)).2]:List AVal)[1]? = some (.int .i64 (exactR sg (nn a) (nn b)).2):=rfl
      simp -dsimp only [SE,astep,seval,i0,i1,s1,← hH9]
      refine Dm rfl ?_
      exact DR.ret ⟨NR (exactR sg (nn a) (nn b)),by simp [aresult,ares,Env.get,l9],rfl⟩
  by_cases h1:sg=o_div
  ·have d1':abin .eql (.str sg) (.str o_div)=some (.bool true):=by rw [d1]; simp [h1]
   have hw:wh=true:=by rw [hwh]; simp [h1]
   rw [hw] at pre
   refine Dg rfl ?_
   simp -dsimp only [SE,astep,seval,d1']
   exact pre
  ·have d1':abin .eql (.str sg) (.str o_div)=some (.bool false):=by rw [d1]; simp [h1]
   by_cases h2:sg=o_rem
   ·have d2':abin .eql (.str sg) (.str o_rem)=some (.bool true):=by rw [d2]; simp [h2]
    have hw:wh=true:=by rw [hwh]; simp [h2]
    rw [hw] at pre
    refine Dg rfl ?_
    simp -dsimp only [SE,astep,seval,d1',d2']
    exact pre
   ·have d2':abin .eql (.str sg) (.str o_rem)=some (.bool false):=by rw [d2]; simp [h2]
    have hw:wh=false:=by rw [hwh]; simp [h1,h2]
    rw [hw] at pre
    refine Dg rfl ?_
    simp -dsimp only [SE,astep,seval,d1',d2']
    exact pre
 refine Dg rfl ?_
 simp -dsimp only [SE,astep,seval,lx]
 refine (g72 (kk a) (nn a) (ff a) H4).mono ?_
 rintro r H' ⟨rfl,he⟩
 obtain rfl:=he.symm
 cases hwa:decide (kk a=1) with
 | true=>
  simp -dsimp only [SE,astep,seval,ly]
  refine (g72 (kk b) (nn b) (ff b) H4).mono ?_
  rintro r H' ⟨rfl,he⟩
  obtain rfl:=he.symm
  cases hwb:decide (kk b=1) with
  | true=>
   simp -dsimp only [SE,astep,seval]
   exact key true true hwa.symm hwb.symm
  | false=>
   simp -dsimp only [SE,astep,seval]
   exact key true false hwa.symm hwb.symm
 | false=>
  simp -dsimp only [SE,astep,seval]
  exact key false (decide (kk b=1)) hwa.symm rfl
theorem g45 {sg:ByteArray} (hsg:sg=o_add∨sg=o_sub∨sg=o_mul∨sg=o_quo∨sg=o_div∨sg=o_rem) {a b:TM} (oa:a.ok) (ob:b.ok) (fa:fine a) (fb:fine b) (H:AHeap):DCall Tryz.prog 39 [.str sg,a.agg,b.agg] H fun r H'=>r=NR (opR sg a b)∧H'=H:=by
 have hp:AVal.pures [.str sg,a.agg,b.agg]=true:=by
  have h1:=TM.pures22 a b
  simp only [AVal.pures,Bool.and_true] at h1 ⊢
  rw [h1]; rfl
 refine NR_closed hp ?_ H
 have hz:z25=[.int .i64 0,.int .i64 0,.flt .f64 0,.str ⟨#[]⟩,.nils]:=rfl
 obtain ⟨H1,hH1,g1,n1,f1⟩:=psh AHeap.empty (.cells 27 (TM.c5 a))
 obtain ⟨H2,hH2,g2,n2,f2⟩:=psh H1 (.cells 27 (TM.c5 b))
 obtain ⟨H3,hH3,g3,n3,f3⟩:=psh H2 (.cells 27 z25)
 have a3:H3.get AHeap.empty.next=some (.cells 27 (TM.c5 a)):=by rw [f3 _ (by omega),f2 _ (by omega)]; exact g1
 have b3:H3.get H1.next=some (.cells 27 (TM.c5 b)):=by rw [f3 _ (by omega)]; exact g2
 have t:=tail45 (sg:=sg) oa ob fa fb a3 b3 g3
 refine DCall.of_body (fn:=Tryz.f39) (by kernel_rfl) c39 (by kernel_rfl) (by simp [f39]) ?_
 unfold f39
 simp only []
 refine Dg rfl ?_
 simp -dsimp only [SE,astep,seval,← hH1,← hH2,← hz,← hH3]
 rcases hsg with h | h | h | h | h | h
 ·subst h
  refine Dg rfl ?_
  simp -dsimp only [SE,astep,seval]
  have e0:abin .eql (.str o_add) (.str o_add)=some (.bool true):=by kernel_rfl
  refine Dg rfl ?_
  simp -dsimp only [SE,astep,seval,e0]
  refine Dy rfl rfl ?_
  refine Dy rfl rfl ?_
  refine Dm rfl ?_
  refine DR.only [0,4,5,6] ?_
  exact t
 ·subst h
  refine Dg rfl ?_
  simp -dsimp only [SE,astep,seval]
  have e0:abin .eql (.str o_sub) (.str o_add)=some (.bool false):=by kernel_rfl
  refine Dg rfl ?_
  simp -dsimp only [SE,astep,seval,e0]
  refine Dn rfl rfl ?_
  have e1:abin .eql (.str o_sub) (.str o_sub)=some (.bool true):=by kernel_rfl
  refine Dg rfl ?_
  simp -dsimp only [SE,astep,seval,e1]
  refine Dy rfl rfl ?_
  refine Dy rfl rfl ?_
  refine Dm rfl ?_
  refine DR.only [0,4,5,6] ?_
  exact t
 ·subst h
  refine Dg rfl ?_
  simp -dsimp only [SE,astep,seval]
  have e0:abin .eql (.str o_mul) (.str o_add)=some (.bool false):=by kernel_rfl
  refine Dg rfl ?_
  simp -dsimp only [SE,astep,seval,e0]
  refine Dn rfl rfl ?_
  have e1:abin .eql (.str o_mul) (.str o_sub)=some (.bool false):=by kernel_rfl
  refine Dg rfl ?_
  simp -dsimp only [SE,astep,seval,e1]
  refine Dn rfl rfl ?_
  have e2:abin .eql (.str o_mul) (.str o_mul)=some (.bool true):=by kernel_rfl
  refine Dg rfl ?_
  simp -dsimp only [SE,astep,seval,e2]
  refine Dy rfl rfl ?_
  refine Dy rfl rfl ?_
  refine Dm rfl ?_
  refine DR.only [0,4,5,6] ?_
  exact t
 ·subst h
  refine Dg rfl ?_
  simp -dsimp only [SE,astep,seval]
  have e0:abin .eql (.str o_quo) (.str o_add)=some (.bool false):=by kernel_rfl
  refine Dg rfl ?_
  simp -dsimp only [SE,astep,seval,e0]
  refine Dn rfl rfl ?_
  have e1:abin .eql (.str o_quo) (.str o_sub)=some (.bool false):=by kernel_rfl
  refine Dg rfl ?_
  simp -dsimp only [SE,astep,seval,e1]
  refine Dn rfl rfl ?_
  have e2:abin .eql (.str o_quo) (.str o_mul)=some (.bool false):=by kernel_rfl
  refine Dg rfl ?_
  simp -dsimp only [SE,astep,seval,e2]
  refine Dn rfl rfl ?_
  have e3:abin .eql (.str o_quo) (.str o_quo)=some (.bool true):=by kernel_rfl
  refine Dg rfl ?_
  simp -dsimp only [SE,astep,seval,e3]
  refine Dy rfl rfl ?_
  refine Dy rfl rfl ?_
  refine Dm rfl ?_
  refine DR.only [0,4,5,6] ?_
  exact t
 ·subst h
  refine Dg rfl ?_
  simp -dsimp only [SE,astep,seval]
  have e0:abin .eql (.str o_div) (.str o_add)=some (.bool false):=by kernel_rfl
  refine Dg rfl ?_
  simp -dsimp only [SE,astep,seval,e0]
  refine Dn rfl rfl ?_
  have e1:abin .eql (.str o_div) (.str o_sub)=some (.bool false):=by kernel_rfl
  refine Dg rfl ?_
  simp -dsimp only [SE,astep,seval,e1]
  refine Dn rfl rfl ?_
  have e2:abin .eql (.str o_div) (.str o_mul)=some (.bool false):=by kernel_rfl
  refine Dg rfl ?_
  simp -dsimp only [SE,astep,seval,e2]
  refine Dn rfl rfl ?_
  have e3:abin .eql (.str o_div) (.str o_quo)=some (.bool false):=by kernel_rfl
  refine Dg rfl ?_
  simp -dsimp only [SE,astep,seval,e3]
  refine Dn rfl rfl ?_
  have e4:abin .eql (.str o_div) (.str o_div)=some (.bool true):=by kernel_rfl
  refine Dg rfl ?_
  simp -dsimp only [SE,astep,seval,e4]
  refine Dy rfl rfl ?_
  refine Dy rfl rfl ?_
  refine Dm rfl ?_
  refine DR.only [0,4,5,6] ?_
  exact t
 ·subst h
  refine Dg rfl ?_
  simp -dsimp only [SE,astep,seval]
  have e0:abin .eql (.str o_rem) (.str o_add)=some (.bool false):=by kernel_rfl
  refine Dg rfl ?_
  simp -dsimp only [SE,astep,seval,e0]
  refine Dn rfl rfl ?_
  have e1:abin .eql (.str o_rem) (.str o_sub)=some (.bool false):=by kernel_rfl
  refine Dg rfl ?_
  simp -dsimp only [SE,astep,seval,e1]
  refine Dn rfl rfl ?_
  have e2:abin .eql (.str o_rem) (.str o_mul)=some (.bool false):=by kernel_rfl
  refine Dg rfl ?_
  simp -dsimp only [SE,astep,seval,e2]
  refine Dn rfl rfl ?_
  have e3:abin .eql (.str o_rem) (.str o_quo)=some (.bool false):=by kernel_rfl
  refine Dg rfl ?_
  simp -dsimp only [SE,astep,seval,e3]
  refine Dn rfl rfl ?_
  have e4:abin .eql (.str o_rem) (.str o_div)=some (.bool false):=by kernel_rfl
  refine Dg rfl ?_
  simp -dsimp only [SE,astep,seval,e4]
  refine Dn rfl rfl ?_
  have e5:abin .eql (.str o_rem) (.str o_rem)=some (.bool true):=by kernel_rfl
  refine Dg rfl ?_
  simp -dsimp only [SE,astep,seval,e5]
  refine Dy rfl rfl ?_
  refine Dm rfl ?_
  refine DR.only [0,4,5,6] ?_
  exact t
def negR (a:TM):Res:=if isNb a=true then (if kk a=1 then intR (- nn a) else fltR (.flt .f64 (Op.negFloat .f64 (ff a)))) else (none,11)
theorem neg_lt {f:Nat} (h:f < 18446744073709551616):Op.negFloat .f64 f < 18446744073709551616:=by
 unfold Op.negFloat
 exact Nat.xor_lt_two_pow (n:=64) h (by decide)
theorem ff_lt {t:TM} (ok:t.ok):ff t < 18446744073709551616:=by
 unfold ff
 split
 ·exact TM.f_lt ok
 ·decide
theorem g54n {a:TM} (oa:a.ok) (fa:fine a) (H:AHeap):DCall Tryz.prog 48 [a.agg] H fun r H'=>r=NR (negR a)∧H'=H:=by
 refine NR_closed (TM.pures1 a) ?_ H
 have hz:z25=[.int .i64 0,.int .i64 0,.flt .f64 0,.str ⟨#[]⟩,.nils]:=rfl
 have hz3:z3=[.int .i64 0,.int .i64 0,.int .u64 0]:=rfl
 obtain ⟨H1,hH1,g1,n1,f1⟩:=psh AHeap.empty (.cells 27 (TM.c5 a))
 obtain ⟨H2,hH2,g2,n2,f2⟩:=psh H1 (.cells 27 z25)
 have la:=load_all (n:=5) ((f2 _ (by omega)).trans g1) rfl
 obtain ⟨H3,hH3,g3,n3,f3⟩:=psh H2 (.cells 83 z3)
 have s3:=store_all (n:=3) g3 (new:=of3 a) rfl rfl rfl
 obtain ⟨H4,hH4,g4,n4,f4⟩:=upd g3 (.cells 83 (of3 a))
 have r4:H4.get H1.next=some (.cells 27 z25):=by rw [f4 _ (by omega),f3 _ (by omega)]; exact g2
 have lx:=load_all (n:=3) g4 rfl
 have lx1:=load_cell g4 (o:=1) (v:=.int .i64 (nn a)) rfl
 have ia0:([.agg (of3 a),.bool (isNb a)]:List AVal)[0]? = some (.agg (of3 a)):=rfl
 have ia1:([.agg (of3 a),.bool (isNb a)]:List AVal)[1]? = some (.bool (isNb a)):=rfl
 have hr:=nn_rng fa
 have wn:IntKind.i64.wrap (- nn a) = - nn a:=by rw [IntKind.wrap_i64]; omega
 refine DCall.of_body (fn:=Tryz.f48) (by kernel_rfl) c48 (by kernel_rfl) (by simp [f48]) ?_
 unfold f48
 simp only []
 refine Dg rfl ?_
 simp -dsimp only [SE,astep,seval,← hH1,← hz,← hH2]
 refine Dg rfl ?_
 simp -dsimp only [SE,astep,seval,la]
 refine (g71 oa fa H2).mono ?_
 rintro r H' ⟨rfl,he⟩
 obtain rfl:=he.symm
 simp -dsimp only [SE,astep,seval,ia0,ia1,← hz3,← hH3,s3,← hH4]
 cases ha:isNb a with
 | false=>
  have e:negR a=(none,11):=by unfold negR; rw [ha,if_neg (by decide)]
  rw [e]
  refine Dg rfl ?_
  simp -dsimp only [SE,astep,seval,Bool.not_false]
  refine Dy rfl rfl ?_
  have s1:=store_all (n:=5) r4 (new:=z25) rfl rfl rfl
  obtain ⟨H9,hH9,g9,n9,f9⟩:=upd r4 (.cells 27 z25)
  have l9:=load_all (n:=5) g9 rfl
  refine Dg rfl ?_
  simp -dsimp only [SE,astep,seval,Env.parts,afill,← hz,s1,← hH9]
  refine Dm rfl ?_
  exact DR.ret ⟨NR (none,11),by simp [aresult,ares,Env.get,l9],rfl⟩
 | true=> ?_
 refine Dg rfl ?_
 simp -dsimp only [SE,astep,seval,Bool.not_true]
 refine Dn rfl rfl ?_
 refine Dg rfl ?_
 simp -dsimp only [SE,astep,seval,lx]
 refine (g72 (kk a) (nn a) (ff a) H4).mono ?_
 rintro r H' ⟨rfl,he⟩
 obtain rfl:=he.symm
 by_cases hk:kk a=1
 ·have hd:decide (kk a=1)=true:=by simp [hk]
  have e:negR a=intR (- nn a):=by unfold negR; rw [ha,if_pos rfl,if_pos hk]
  rw [hd,e]
  simp -dsimp only [SE,astep,seval]
  refine Dy rfl rfl ?_
  refine Dg rfl ?_
  simp -dsimp only [SE,astep,seval,lx1,Int.zero_sub,wn]
  refine (g79 (- nn a) H4).mono ?_
  rintro r H' ⟨rfl,he⟩
  obtain rfl:=he.symm
  have s1:=store_all (n:=5) r4 (new:=cel (intR (- nn a))) (cel_len _) (cel_ones _) rfl
  obtain ⟨H9,hH9,g9,n9,f9⟩:=upd r4 (.cells 27 (cel (intR (- nn a))))
  have l9:=load_all (n:=5) g9 (cel_len _)
  have i0:([.agg (cel (intR (- nn a))),.int .i64 (intR (- nn a)).2]:List AVal)[0]? = some (.agg (cel (intR (- nn a)))):=rfl
  have i1:([.agg (cel (intR (- nn a))),.int .i64 (intR (- nn a)).2]:List AVal)[1]? = some (.int .i64 (intR (- nn a)).2):=rfl
  simp -dsimp only [SE,astep,seval,i0,i1,s1,← hH9]
  refine Dm rfl ?_
  exact DR.ret ⟨NR (intR (- nn a)),by simp [aresult,ares,Env.get,l9],rfl⟩
 ·have hd:decide (kk a=1)=false:=by simp [hk]
  have e:negR a=fltR (.flt .f64 (Op.negFloat .f64 (ff a))):=by unfold negR; rw [ha,if_pos rfl,if_neg hk]
  have hrv:realv (kk a) (nn a) (ff a)=ff a:=by unfold realv; rw [if_neg hk]
  rw [hd,e]
  simp -dsimp only [SE,astep,seval]
  refine Dn rfl rfl ?_
  refine Dg rfl ?_
  simp -dsimp only [SE,astep,seval,lx]
  refine (g76 (kk a) (nn a) (ff a) H4).mono ?_
  rintro r H' ⟨rfl,he⟩
  obtain rfl:=he.symm
  rw [hrv]
  simp -dsimp only [SE,astep,seval]
  refine (g80 (v:=.flt .f64 (Op.negFloat .f64 (ff a))) (.inr ⟨_,rfl,neg_lt (ff_lt oa)⟩) H4).mono ?_
  rintro r H' ⟨rfl,he⟩
  obtain rfl:=he.symm
  have s1:=store_all (n:=5) r4 (new:=cel (fltR (.flt .f64 (Op.negFloat .f64 (ff a))))) (cel_len _) (cel_ones _) rfl
  obtain ⟨H9,hH9,g9,n9,f9⟩:=upd r4 (.cells 27 (cel (fltR (.flt .f64 (Op.negFloat .f64 (ff a))))))
  have l9:=load_all (n:=5) g9 (cel_len _)
  have i0:([.agg (cel (fltR (.flt .f64 (Op.negFloat .f64 (ff a))))),.int .i64 (fltR (.flt .f64 (Op.negFloat .f64 (ff a)))).2]:List AVal)[0]? = some (.agg (cel (fltR (.flt .f64 (Op.negFloat .f64 (ff a)))))):=rfl
  have i1:([.agg (cel (fltR (.flt .f64 (Op.negFloat .f64 (ff a))))),.int .i64 (fltR (.flt .f64 (Op.negFloat .f64 (ff a)))).2]:List AVal)[1]? = some (.int .i64 (fltR (.flt .f64 (Op.negFloat .f64 (ff a)))).2):=rfl
  simp -dsimp only [SE,astep,seval,i0,i1,s1,← hH9]
  refine Dm rfl ?_
  exact DR.ret ⟨NR (fltR (.flt .f64 (Op.negFloat .f64 (ff a)))),by simp [aresult,ares,Env.get,l9],rfl⟩
end Go.Am.Rl
namespace Go.Am.Rl
open Go.Proofs
theorem aggClosed {f:FuncId} {args:List AVal} {y:TM} (hp:AVal.pures args=true) (h:DCall Tryz.prog f args AHeap.empty fun r _=>r=y.agg) (H:AHeap):DCall Tryz.prog f args H fun r H'=>r=y.agg∧H'=H:=
 DCall.closed (sz:=szs) hp (Q:=fun r _=>r=y.agg) h (fun r H1 hr=>⟨SizeOf.sizeOf r+1,r,freeze_pure _ _ (by omega) (by rw [hr]; have:=TM.pures1 y; simpa [AVal.pures] using this),hr⟩) H
theorem r88 (n:Int) (H:AHeap):DCall Tryz.prog 88 [.int .i64 n] H fun r H'=>r=(int1 n).agg∧H'=H:=by
 refine aggClosed rfl ?_ H
 have hz:z25=[.int .i64 0,.int .i64 0,.flt .f64 0,.str ⟨#[]⟩,.nils]:=rfl
 obtain ⟨H1,hH1,g1,n1,f1⟩:=psh AHeap.empty (.cells 27 z25)
 have s1:=store_all (n:=5) g1 (new:=TM.c5 (int1 n)) rfl (TM.ones5 _) rfl
 obtain ⟨H9,hH9,g9,n9,f9⟩:=upd g1 (.cells 27 (TM.c5 (int1 n)))
 have l9:=load_all (n:=5) g9 rfl
 have hfl:afill z25 [(0,1,.int .i64 1),(1,1,.int .i64 n)]=some (TM.c5 (int1 n)):=rfl
 refine DCall.of_body (fn:=Tryz.f88) (by kernel_rfl) c88 (by kernel_rfl) (by simp [f88]) ?_
 unfold f88
 simp only []
 refine Dg rfl ?_
 simp -dsimp only [SE,astep,seval,← hz,← hH1]
 refine Dg rfl ?_
 simp -dsimp only [SE,astep,seval,Env.parts,← hz,hfl,s1,← hH9]
 refine Dm rfl ?_
 exact DR.ret ⟨(int1 n).agg,by simp [aresult,ares,Env.get,l9],rfl⟩
theorem r56 (f:Nat) (H:AHeap):DCall Tryz.prog 56 [.flt .f64 f] H fun r H'=>r=(flt2 f).agg∧H'=H:=by
 refine aggClosed rfl ?_ H
 have hz:z25=[.int .i64 0,.int .i64 0,.flt .f64 0,.str ⟨#[]⟩,.nils]:=rfl
 obtain ⟨H1,hH1,g1,n1,f1⟩:=psh AHeap.empty (.cells 27 z25)
 have s1:=store_all (n:=5) g1 (new:=TM.c5 (flt2 f)) rfl (TM.ones5 _) rfl
 obtain ⟨H9,hH9,g9,n9,f9⟩:=upd g1 (.cells 27 (TM.c5 (flt2 f)))
 have l9:=load_all (n:=5) g9 rfl
 have hfl:afill z25 [(0,1,.int .i64 2),(2,1,.flt .f64 f)]=some (TM.c5 (flt2 f)):=rfl
 refine DCall.of_body (fn:=Tryz.f56) (by kernel_rfl) c56 (by kernel_rfl) (by simp [f56]) ?_
 unfold f56
 simp only []
 refine Dg rfl ?_
 simp -dsimp only [SE,astep,seval,← hz,← hH1]
 refine Dg rfl ?_
 simp -dsimp only [SE,astep,seval,Env.parts,← hz,hfl,s1,← hH9]
 refine Dm rfl ?_
 exact DR.ret ⟨(flt2 f).agg,by simp [aresult,ares,Env.get,l9],rfl⟩
theorem r55 (n:Int) (H:AHeap):DCall Tryz.prog 55 [.int .i64 n] H fun r H'=>r=NR (intR n)∧H'=H:=by
 refine NR_closed rfl ?_ H
 have hz:z25=[.int .i64 0,.int .i64 0,.flt .f64 0,.str ⟨#[]⟩,.nils]:=rfl
 obtain ⟨H1,hH1,g1,n1,f1⟩:=psh AHeap.empty (.cells 27 z25)
 refine DCall.of_body (fn:=Tryz.f55) (by kernel_rfl) c55 (by kernel_rfl) (by simp [f55]) ?_
 unfold f55
 simp only []
 refine Dg rfl ?_
 simp -dsimp only [SE,astep,seval,← hz,← hH1]
 by_cases h1:n < -576460752303423488
 ·have c1:abin .lss (.int .i64 n) (.int .i64 (-576460752303423488))=some (.bool true):=by simp [abin]; omega
  refine Dg rfl ?_
  simp -dsimp only [SE,astep,seval,c1]
  refine Dy rfl rfl ?_
  have s1:=store_all (n:=5) g1 (new:=z25) rfl rfl rfl
  obtain ⟨H9,hH9,g9,n9,f9⟩:=upd g1 (.cells 27 z25)
  have l9:=load_all (n:=5) g9 rfl
  refine Dg rfl ?_
  simp -dsimp only [SE,astep,seval,Env.parts,afill,← hz,s1,← hH9]
  refine Dm rfl ?_
  exact DR.ret ⟨NR (none,12),by simp [aresult,ares,Env.get,l9],by unfold intR; rw [if_pos (.inl h1)]⟩
 have c1:abin .lss (.int .i64 n) (.int .i64 (-576460752303423488))=some (.bool false):=by simp [abin]; omega
 by_cases h2:576460752303423487 < n
 ·have c2:abin .gtr (.int .i64 n) (.int .i64 576460752303423487)=some (.bool true):=by simp [abin]; omega
  refine Dg rfl ?_
  simp -dsimp only [SE,astep,seval,c1,c2]
  refine Dy rfl rfl ?_
  have s1:=store_all (n:=5) g1 (new:=z25) rfl rfl rfl
  obtain ⟨H9,hH9,g9,n9,f9⟩:=upd g1 (.cells 27 z25)
  have l9:=load_all (n:=5) g9 rfl
  refine Dg rfl ?_
  simp -dsimp only [SE,astep,seval,Env.parts,afill,← hz,s1,← hH9]
  refine Dm rfl ?_
  exact DR.ret ⟨NR (none,12),by simp [aresult,ares,Env.get,l9],by unfold intR; rw [if_pos (.inr h2)]⟩
 have c2:abin .gtr (.int .i64 n) (.int .i64 576460752303423487)=some (.bool false):=by simp [abin]; omega
 have s1:=store_all (n:=5) g1 (new:=TM.c5 (int1 n)) rfl (TM.ones5 _) rfl
 obtain ⟨H9,hH9,g9,n9,f9⟩:=upd g1 (.cells 27 (TM.c5 (int1 n)))
 have l9:=load_all (n:=5) g9 rfl
 refine Dg rfl ?_
 simp -dsimp only [SE,astep,seval,c1,c2]
 refine Dn rfl rfl ?_
 refine Dg rfl ?_
 simp -dsimp only [SE,astep,seval]
 refine (r88 n H1).mono ?_
 rintro r H' ⟨rfl,he⟩
 obtain rfl:=he.symm
 simp -dsimp only [SE,astep,seval,s1,← hH9]
 refine Dm rfl ?_
 exact DR.ret ⟨NR (some (int1 n),0),by simp [aresult,ares,Env.get,l9],by unfold intR; rw [if_neg (by omega)]⟩
theorem r61 (f:Nat) (H:AHeap):DCall Tryz.prog 61 [.flt .f64 f] H fun r H'=>r=NR (fltR (.flt .f64 f))∧H'=H:=by
 refine NR_closed rfl ?_ H
 have hz:z25=[.int .i64 0,.int .i64 0,.flt .f64 0,.str ⟨#[]⟩,.nils]:=rfl
 obtain ⟨H1,hH1,g1,n1,f1⟩:=psh AHeap.empty (.cells 27 z25)
 refine DCall.of_body (fn:=Tryz.f61) (by kernel_rfl) c61 (by kernel_rfl) (by simp [f61]) ?_
 unfold f61
 simp only []
 refine Dg rfl ?_
 simp -dsimp only [SE,astep,seval,← hz,← hH1]
 refine Dg rfl ?_
 simp -dsimp only [SE,astep,seval]
 refine (g163x f H1).mono ?_
 rintro r H' ⟨rfl,he⟩
 obtain rfl:=he.symm
 cases hf:fin64 f with
 | false=>
  have e:fltR (.flt .f64 f)=(none,11):=by
   unfold fltR
   have:flV (.flt .f64 f)=none:=by show (if fin64 f=true then some f else none)=none; rw [hf]; rfl
   rw [this]
  rw [e]
  simp -dsimp only [SE,astep,seval,Bool.not_false]
  refine Dy rfl rfl ?_
  have s1:=store_all (n:=5) g1 (new:=z25) rfl rfl rfl
  obtain ⟨H9,hH9,g9,n9,f9⟩:=upd g1 (.cells 27 z25)
  have l9:=load_all (n:=5) g9 rfl
  refine Dg rfl ?_
  simp -dsimp only [SE,astep,seval,Env.parts,afill,← hz,s1,← hH9]
  refine Dm rfl ?_
  exact DR.ret ⟨NR (none,11),by simp [aresult,ares,Env.get,l9],rfl⟩
 | true=>
  have e:fltR (.flt .f64 f)=(some (flt2 f),0):=by
   unfold fltR
   have:flV (.flt .f64 f)=some f:=by show (if fin64 f=true then some f else none)=some f; rw [hf]; rfl
   rw [this]
  rw [e]
  have s1:=store_all (n:=5) g1 (new:=TM.c5 (flt2 f)) rfl (TM.ones5 _) rfl
  obtain ⟨H9,hH9,g9,n9,f9⟩:=upd g1 (.cells 27 (TM.c5 (flt2 f)))
  have l9:=load_all (n:=5) g9 rfl
  simp -dsimp only [SE,astep,seval,Bool.not_true]
  refine Dn rfl rfl ?_
  refine Dg rfl ?_
  simp -dsimp only [SE,astep,seval]
  refine (r56 f H1).mono ?_
  rintro r H' ⟨rfl,he⟩
  obtain rfl:=he.symm
  simp -dsimp only [SE,astep,seval,s1,← hH9]
  refine Dm rfl ?_
  exact DR.ret ⟨NR (some (flt2 f),0),by simp [aresult,ares,Env.get,l9],rfl⟩
theorem r86 (f:Nat) (H:AHeap):DCall Tryz.prog 86 [.flt .f64 f] H fun r H'=>r = .bool (decide (f=0))∧H'=H:=by
 have hx:aext 0 [.flt .f64 f]=some (.int .u64 (f:Nat)):=rfl
 have c:abin .eql (.int .u64 (f:Nat)) (.int .u64 0)=some (.bool (decide (f=0))):=by
  have e:abin .eql (.int .u64 (f:Nat)) (.int .u64 0)=some (.bool (((f:Nat):Int)==0)):=rfl
  rw [e]
  by_cases h:f=0
  ·subst h; rfl
  ·rw [beq_false_of_ne (by omega)]; simp [h]
 refine DCall.of_body (fn:=Tryz.f86) (by kernel_rfl) c86 (by kernel_rfl) (by simp [f86]) ?_
 unfold f86
 simp only []
 refine Dg rfl ?_
 simp -dsimp only [SE,astep,seval]
 refine Dg rfl ?_
 simp -dsimp only [SE,astep,seval,hx,c]
 refine Dm rfl ?_
 exact DR.ret ⟨_,by simp [aresult,ares,Env.get] <;> rfl,rfl,rfl⟩
theorem r54 {t:TM} (ok:t.ok) (hf:fine t) (H:AHeap):DCall Tryz.prog 54 [t.agg] H fun r H'=>r = .bool (isNb t)∧H'=H:=by
 have h:DCall Tryz.prog 54 [t.agg] AHeap.empty fun r H'=>∃ n,r = .bool n∧n=isNb t:=by
  obtain ⟨H1,hH1,g1,n1,f1⟩:=psh AHeap.empty (.cells 27 (TM.c5 t))
  have k0:=load_cell g1 (o:=0) (v:=.int .i64 t.k) rfl
  have k1:=load_cell g1 (o:=1) (v:=.int .i64 t.n) rfl
  have k2:=load_cell g1 (o:=2) (v:=.flt .f64 t.f) rfl
  have k3:=load_cell g1 (o:=3) (v:=.str t.s) rfl
  have k4:=load_cell g1 (o:=4) (v:=t.row) rfl
  have hl:=TM.lenT ok H1
  refine DCall.of_body (fn:=Tryz.f54) (by kernel_rfl) c54 (by kernel_rfl) (by simp [f54]) ?_
  unfold f54
  simp only []
  refine Dg rfl ?_
  simp -dsimp only [SE,astep,seval,← hH1]
  cases hb:isNb t with
  | true=>
   obtain ⟨hs0,hl0,hcase⟩:=pl_rng hf hb
   have e0:abin .neq (.str t.s) (.str ⟨#[]⟩)=some (.bool false):=by rw [hs0]; exact neq_str _
   rw [hl0] at hl
   have hl:alenT H1 1 t.row=some 0:=hl
   have cl:abin .neq (.int .i64 0) (.int .i64 0)=some (.bool false):=rfl
   refine Dg rfl ?_
   simp -dsimp only [SE,astep,seval,k3,e0,k4,hl,cl]
   refine Dn rfl rfl ?_
   rcases hcase with ⟨h1,hn,h0⟩ | ⟨h2,hn,hfin⟩
   ·have c1:=eqlT h1
    have c3:abin .geq (.int .i64 t.n) (.int .i64 (-576460752303423488))=some (.bool true):=by simp [abin]; omega
    have c4:abin .leq (.int .i64 t.n) (.int .i64 576460752303423487)=some (.bool true):=by simp [abin]; omega
    refine Dg rfl ?_
    simp -dsimp only [SE,astep,seval,k0,c1]
    refine Dy rfl rfl ?_
    refine Dg rfl ?_
    simp -dsimp only [SE,astep,seval,k1,c3,c4,k2]
    refine (r86 t.f H1).mono ?_
    rintro r H' ⟨rfl,he⟩
    obtain rfl:=he.symm
    have hd:decide (t.f=0)=true:=by simp [h0]
    rw [hd]
    simp -dsimp only [SE,astep,seval]
    refine Dm rfl ?_
    exact DR.ret ⟨_,by simp [aresult,ares,Env.get] <;> rfl,_,rfl,rfl⟩
   ·have c1:abin .eql (.int .i64 t.k) (.int .i64 1)=some (.bool false):=eqlF (by omega)
    have c2:=eqlT h2
    have c3:=eqlT hn
    refine Dg rfl ?_
    simp -dsimp only [SE,astep,seval,k0,c1]
    refine Dn rfl rfl ?_
    refine Dg rfl ?_
    simp -dsimp only [SE,astep,seval,k0,c2,k1,c3,k2]
    refine (g163x t.f H1).mono ?_
    rintro r H' ⟨rfl,he⟩
    obtain rfl:=he.symm
    rw [hfin]
    simp -dsimp only [SE,astep,seval]
    refine Dm rfl ?_
    exact DR.ret ⟨_,by simp [aresult,ares,Env.get] <;> rfl,_,rfl,rfl⟩
  | false=>
   have hk:¬ (t.k=1∨t.k=2):=by simpa [isNb] using hb
   by_cases hs:t.s=⟨#[]⟩
   ·have e0:abin .neq (.str t.s) (.str ⟨#[]⟩)=some (.bool false):=by rw [hs]; exact neq_str _
    by_cases hll:t.l.length=0
    ·rw [hll] at hl
     have cl:abin .neq (.int .i64 0) (.int .i64 0)=some (.bool false):=rfl
     have c1:abin .eql (.int .i64 t.k) (.int .i64 1)=some (.bool false):=eqlF (by omega)
     have c2:abin .eql (.int .i64 t.k) (.int .i64 2)=some (.bool false):=eqlF (by omega)
     refine Dg rfl ?_
     simp -dsimp only [SE,astep,seval,k3,e0,k4,hl,cl]
     refine Dn rfl rfl ?_
     refine Dg rfl ?_
     simp -dsimp only [SE,astep,seval,k0,c1]
     refine Dn rfl rfl ?_
     refine Dg rfl ?_
     simp -dsimp only [SE,astep,seval,k0,c2]
     refine Dm rfl ?_
     exact DR.ret ⟨_,by simp [aresult,ares,Env.get] <;> rfl,_,rfl,rfl⟩
    ·have cl:abin .neq (.int .i64 (t.l.length:Nat)) (.int .i64 0)=some (.bool true):=neqT (by omega)
     refine Dg rfl ?_
     simp -dsimp only [SE,astep,seval,k3,e0,k4,hl,cl]
     refine Dy rfl rfl ?_
     refine Dg rfl ?_
     simp -dsimp only [SE,astep,seval]
     refine Dm rfl ?_
     exact DR.ret ⟨_,by simp [aresult,ares,Env.get] <;> rfl,_,rfl,rfl⟩
   ·have e0:abin .neq (.str t.s) (.str ⟨#[]⟩)=some (.bool true):=by rw [neq_strs]; simp [hs]
    refine Dg rfl ?_
    simp -dsimp only [SE,astep,seval,k3,e0]
    refine Dy rfl rfl ?_
    refine Dg rfl ?_
    simp -dsimp only [SE,astep,seval]
    refine Dm rfl ?_
    exact DR.ret ⟨_,by simp [aresult,ares,Env.get] <;> rfl,_,rfl,rfl⟩
 exact (DCall.bools (TM.pures1 t) h H).mono fun r H' ⟨⟨n,h1,h3⟩,h2⟩=>⟨by rw [h1,h3],h2⟩
theorem r57 {f:Nat} (hf:f < 18446744073709551616) (H:AHeap):DCall Tryz.prog 57 [.flt .f64 f] H fun r H'=>r = .flt .f64 (Op.negFloat .f64 f)∧H'=H:=by
 have hx:aext 0 [.flt .f64 f]=some (.int .u64 (f:Nat)):=rfl
 have e:(BitVec.ofInt 64 (f:Int) ^^^ BitVec.ofInt 64 9223372036854775808).toNat=Op.negFloat .f64 f:=by
  rw [show (BitVec.ofInt 64 9223372036854775808:BitVec 64)=BitVec.ofNat 64 9223372036854775808 by decide,BitVec.ofInt_natCast,BitVec.toNat_xor,BitVec.toNat_ofNat,BitVec.toNat_ofNat,Nat.mod_eq_of_lt (by omega),Nat.mod_eq_of_lt (by decide)]
  rfl
 have c:abin .xor (.int .u64 (f:Nat)) (.int .u64 9223372036854775808)=some (u64 (Op.negFloat .f64 f)):=by
  show some (AVal.int .u64 (IntKind.u64.wrap ((BitVec.ofInt 64 (f:Int) ^^^ BitVec.ofInt 64 9223372036854775808).toNat:Nat)))=_
  rw [e,wrapu,Nat.mod_eq_of_lt (neg_lt hf)]
 have hy:aext 1 [u64 (Op.negFloat .f64 f)]=some (.flt .f64 (Op.negFloat .f64 f)):=rfl
 refine DCall.of_body (fn:=Tryz.f57) (by kernel_rfl) c57 (by kernel_rfl) (by simp [f57]) ?_
 unfold f57
 simp only []
 refine Dg rfl ?_
 simp -dsimp only [SE,astep,seval]
 refine Dg rfl ?_
 simp -dsimp only [SE,astep,seval,hx,c,hy]
 refine Dm rfl ?_
 exact DR.ret ⟨_,by simp [aresult,ares,Env.get] <;> rfl,rfl,rfl⟩
theorem negF_fin {f:Nat} (hf:f < 18446744073709551616) (h:fin64 f=true):fin64 (Op.negFloat .f64 f)=true:=by
 have hx:Op.negFloat .f64 f=f ^^^ 9223372036854775808:=rfl
 have hm:(f ^^^ 9223372036854775808) % 9223372036854775808=f % 9223372036854775808:=by
  have:(f ^^^ 2 ^ 63) % 2 ^ 63=f % 2 ^ 63:=by
   rw [Nat.xor_mod_two_pow]; simp
  exact this
 exact fin_of (by rw [hx,hm]; exact fin_lt h)
theorem r18 {a:TM} (oa:a.ok) (fa:fine a) (H:AHeap):DCall Tryz.prog 18 [a.agg] H fun r H'=>r=NR (negR a)∧H'=H:=by
 refine NR_closed (TM.pures1 a) ?_ H
 have hz:z25=[.int .i64 0,.int .i64 0,.flt .f64 0,.str ⟨#[]⟩,.nils]:=rfl
 obtain ⟨H1,hH1,g1,n1,f1⟩:=psh AHeap.empty (.cells 27 (TM.c5 a))
 obtain ⟨H2,hH2,g2,n2,f2⟩:=psh H1 (.cells 27 z25)
 have a2:=(f2 _ (by omega)).trans g1
 have la:=load_all (n:=5) a2 rfl
 have k0:=load_cell a2 (o:=0) (v:=.int .i64 a.k) rfl
 have k1:=load_cell a2 (o:=1) (v:=.int .i64 a.n) rfl
 have k2:=load_cell a2 (o:=2) (v:=.flt .f64 a.f) rfl
 refine DCall.of_body (fn:=Tryz.f18) (by kernel_rfl) c18 (by kernel_rfl) (by simp [f18]) ?_
 unfold f18
 simp only []
 refine Dg rfl ?_
 simp -dsimp only [SE,astep,seval,← hH1,← hz,← hH2]
 refine Dg rfl ?_
 simp -dsimp only [SE,astep,seval,la]
 refine (r54 oa fa H2).mono ?_
 rintro r H' ⟨rfl,he⟩
 obtain rfl:=he.symm
 cases ha:isNb a with
 | false=>
  have e:negR a=(none,11):=by unfold negR; rw [ha,if_neg (by decide)]
  rw [e]
  simp -dsimp only [SE,astep,seval,Bool.not_false]
  refine Dy rfl rfl ?_
  have s1:=store_all (n:=5) g2 (new:=z25) rfl rfl rfl
  obtain ⟨H9,hH9,g9,n9,f9⟩:=upd g2 (.cells 27 z25)
  have l9:=load_all (n:=5) g9 rfl
  refine Dg rfl ?_
  simp -dsimp only [SE,astep,seval,Env.parts,afill,← hz,s1,← hH9]
  refine Dm rfl ?_
  exact DR.ret ⟨NR (none,11),by simp [aresult,ares,Env.get,l9],rfl⟩
 | true=> ?_
 have hkk:kk a=a.k:=by unfold kk; rw [ha]; rfl
 have hnn:nn a=a.n:=by unfold nn; rw [ha]; rfl
 have hff:ff a=a.f:=by unfold ff; rw [ha]; rfl
 obtain ⟨_,_,hcase⟩:=pl_rng fa ha
 simp -dsimp only [SE,astep,seval,Bool.not_true]
 refine Dn rfl rfl ?_
 rcases hcase with ⟨h1,hn,h0⟩ | ⟨h2,hn,hfin⟩
 ·have c1:=eqlT h1
  have e:negR a=intR (- a.n):=by unfold negR; rw [ha,if_pos rfl,hkk,if_pos h1,hnn]
  have wn:IntKind.i64.wrap (- a.n) = - a.n:=by rw [IntKind.wrap_i64]; omega
  have sb:abin .sub (.int .i64 0) (.int .i64 a.n)=some (.int .i64 (- a.n)):=by
   show some (AVal.int .i64 (IntKind.i64.wrap (0 - a.n)))=_
   rw [Int.zero_sub,wn]
  rw [e]
  refine Dg rfl ?_
  simp -dsimp only [SE,astep,seval,k0,c1]
  refine Dy rfl rfl ?_
  refine Dg rfl ?_
  simp -dsimp only [SE,astep,seval,k1,sb]
  refine (r55 (- a.n) H2).mono ?_
  rintro r H' ⟨rfl,he⟩
  obtain rfl:=he.symm
  have s1:=store_all (n:=5) g2 (new:=cel (intR (- a.n))) (cel_len _) (cel_ones _) rfl
  obtain ⟨H9,hH9,g9,n9,f9⟩:=upd g2 (.cells 27 (cel (intR (- a.n))))
  have l9:=load_all (n:=5) g9 (cel_len _)
  have i0:([.agg (cel (intR (- a.n))),.int .i64 (intR (- a.n)).2]:List AVal)[0]? = some (.agg (cel (intR (- a.n)))):=rfl
  have i1:([.agg (cel (intR (- a.n))),.int .i64 (intR (- a.n)).2]:List AVal)[1]? = some (.int .i64 (intR (- a.n)).2):=rfl
  simp -dsimp only [SE,astep,seval,i0,i1,s1,← hH9]
  refine Dm rfl ?_
  exact DR.ret ⟨NR (intR (- a.n)),by simp [aresult,ares,Env.get,l9],rfl⟩
 ·have c1:abin .eql (.int .i64 a.k) (.int .i64 1)=some (.bool false):=eqlF (by omega)
  have hlt:=TM.f_lt oa
  have e:negR a=(some (flt2 (Op.negFloat .f64 a.f)),0):=by
   unfold negR
   rw [ha,if_pos rfl,hkk,if_neg (by omega),hff]
   unfold fltR
   have:flV (.flt .f64 (Op.negFloat .f64 a.f))=some (Op.negFloat .f64 a.f):=by
    show (if fin64 (Op.negFloat .f64 a.f)=true then some (Op.negFloat .f64 a.f) else none)=_
    rw [negF_fin hlt hfin]; rfl
   rw [this]
  rw [e]
  have s1:=store_all (n:=5) g2 (new:=TM.c5 (flt2 (Op.negFloat .f64 a.f))) rfl (TM.ones5 _) rfl
  obtain ⟨H9,hH9,g9,n9,f9⟩:=upd g2 (.cells 27 (TM.c5 (flt2 (Op.negFloat .f64 a.f))))
  have l9:=load_all (n:=5) g9 rfl
  refine Dg rfl ?_
  simp -dsimp only [SE,astep,seval,k0,c1]
  refine Dn rfl rfl ?_
  refine Dg rfl ?_
  simp -dsimp only [SE,astep,seval,k2]
  refine (r57 hlt H2).mono ?_
  rintro r H' ⟨rfl,he⟩
  obtain rfl:=he.symm
  simp -dsimp only [SE,astep,seval]
  refine (r56 (Op.negFloat .f64 a.f) H2).mono ?_
  rintro r H' ⟨rfl,he⟩
  obtain rfl:=he.symm
  simp -dsimp only [SE,astep,seval,s1,← hH9]
  refine Dm rfl ?_
  exact DR.ret ⟨NR (some (flt2 (Op.negFloat .f64 a.f)),0),by simp [aresult,ares,Env.get,l9],rfl⟩
end Go.Am.Rl
namespace Go.Am.Rl
abbrev Wd (s:Bool) (L k:Nat):Nat:=FloatKind.f64.format.word s ((L+1022) * 4503599627370496+k)
theorem log2_is {n L:Nat} (h1:2 ^ L≤n) (h2:n < 2 ^ (L+1)):n.log2=L:=by
 have h0:n≠0:=by have:=Nat.two_pow_pos L; omega
 have a:=(Nat.le_log2 h0).mpr h1
 have b:=(Nat.log2_lt h0).mpr h2
 omega
theorem cut_even {s:Bool} {k d:Nat} (hd:d≤(k * 2 ^ d).log2+2):Ieee.Toward.even.cut s (k * 2 ^ d) d=k:=by
 have hg:1 <<< min d ((k * 2 ^ d).log2+2)=2 ^ d:=by rw [Nat.min_eq_left hd,Nat.shiftLeft_eq,Nat.one_mul]
 have hp:=Nat.two_pow_pos d
 simp only [Ieee.Toward.cut,hg,Nat.mul_mod_left,Nat.mul_div_cancel _ hp]
 simp
theorem nearest_wd (s:Bool) {k d L:Nat} {i:Int} (h1:4503599627370496≤k) (h2:k < 9007199254740992) (hi:i=(L:Int) - 52 - (d:Nat)) (hL:L≤900):FloatKind.f64.format.nearest s (k * 2 ^ d) i=Wd s L k:=by
 have hlog:(k * 2 ^ d).log2=52+d:=log2_is (by rw [Nat.pow_add]; exact Nat.mul_le_mul_right _ h1) (by rw [show 52+d+1=53+d by omega,Nat.pow_add]; exact Nat.mul_lt_mul_of_pos_right h2 (Nat.two_pow_pos _))
 have h0:k * 2 ^ d≠0:=by intro e; rw [e] at hlog; simp at hlog; omega
 unfold Ieee.Format.nearest
 rw [if_neg h0]
 simp only [w64f,w64l,w64b,w64i,hlog]
 have hlast:max (i+((52+d:Nat):Int) - ((52:Nat):Int)) (-1074)=(L:Int) - 52:=by omega
 rw [hlast]
 have e1:(i - ((L:Int) - 52)).toNat=0:=by omega
 have e2:((L:Int) - 52 - i).toNat=d:=by omega
 have e3:((L:Int) - 52 - -1074).toNat=L+1022:=by omega
 rw [e1,e2,e3,Nat.shiftLeft_zero,cut_even (by rw [hlog]; omega),Nat.min_eq_left (by omega)]
theorem read_wd (s:Bool) {L k:Nat} (hL:L≤900) (h1:4503599627370496≤k) (h2:k < 9007199254740992):FloatKind.f64.format.read (Wd s L k) = .number s k ((L:Int) - 52):=by
 obtain ⟨r,hr⟩:∃ r,r=(L+1022) * 4503599627370496+k:=⟨_,rfl⟩
 show FloatKind.f64.format.read (FloatKind.f64.format.word s ((L+1022) * 4503599627370496+k))=_
 rw [← hr]
 have hr1:r < 9218868437227405312:=by omega
 have hr2:4503599627370496≤r:=by omega
 have hdiv:r / 4503599627370496=L+1023:=by omega
 have hmod:4503599627370496+r % 4503599627370496=k:=by omega
 unfold Ieee.Format.read Ieee.Format.word
 simp only [w64s,w64b,w64i,w64l]
 cases s with
 | false=>
  have e1:r / 9223372036854775808=0:=by omega
  have e2:r % 9223372036854775808=r:=by omega
  simp only [Bool.false_eq_true,if_false,e1,e2]
  rw [if_neg (by omega),if_pos hr1,hmod,hdiv]
  simp; omega
 | true=>
  have e1:(9223372036854775808+r) / 9223372036854775808=1:=by omega
  have e2:(9223372036854775808+r) % 9223372036854775808=r:=by omega
  simp only [if_true,e1,e2]
  rw [if_neg (by omega),if_pos hr1,hmod,hdiv]
  simp; omega
theorem read_two:FloatKind.f64.format.read 4611686018427387904 = .number false 4503599627370496 (-51):=by decide
theorem mul_two (s:Bool) {L k:Nat} (hL:L≤800) (h1:4503599627370496≤k) (h2:k < 9007199254740992):FloatKind.f64.format.mul (Wd s L k) 4611686018427387904=some (Wd s (L+1) k):=by
 unfold Ieee.Format.mul
 rw [read_wd s (by omega) h1 h2,read_two]
 simp only [Ieee.Datum.product,Option.map_some,Bool.xor_false]
 show some (FloatKind.f64.format.nearest s (k * 4503599627370496) ((L:Int) - 52 + -51))=_
 rw [show (4503599627370496:Nat)=2 ^ 52 by decide,nearest_wd (d:=52) (L:=L+1) s h1 h2 (by omega) (by omega)]
theorem sub_zero_wd {L k:Nat} (hL:L≤800) (h1:4503599627370496≤k) (h2:k < 9007199254740992):FloatKind.f64.format.sub 0 (Wd false L k)=some (Wd true L k):=by
 unfold Ieee.Format.sub
 rw [read_wd false (by omega) h1 h2,show FloatKind.f64.format.read 0 = .number false 0 (-1074) by decide]
 simp only [Ieee.Datum.opposite,Ieee.Datum.sum,Option.map_some]
 have hb:min (-1074:Int) ((L:Int) - 52) = -1074:=by omega
 have e1:((-1074:Int) - -1074).toNat=0:=by decide
 have e2:((L:Int) - 52 - -1074).toNat=L+1022:=by omega
 rw [hb,e1,e2]
 have hp:0 < k * 2 ^ (L+1022):=Nat.mul_pos (by omega) (Nat.two_pow_pos _)
 have hs:Ieee.signed false 0 0+Ieee.signed (!false) k (L+1022) = - ((k * 2 ^ (L+1022):Nat):Int):=by
  simp [Ieee.signed,Nat.shiftLeft_eq]
 rw [hs,if_neg (by omega)]
 have hlt:decide (- ((k * 2 ^ (L+1022):Nat):Int) < 0)=true:=decide_eq_true (by omega)
 rw [hlt,Int.natAbs_neg,Int.natAbs_natCast]
 show some (FloatKind.f64.format.nearest true (k * 2 ^ (L+1022)) (-1074))=_
 rw [nearest_wd (d:=L+1022) (L:=L) true h1 h2 (by omega) (by omega)]
theorem nearest_pos (s:Bool) {m:Nat} {i:Int} (hm:0 < m) (hi : -1074≤i):∃ r,0 < r∧r≤9218868437227405312∧FloatKind.f64.format.nearest s m i=FloatKind.f64.format.word s r:=by
 unfold Ieee.Format.nearest
 rw [if_neg (by omega)]
 simp only [w64f,w64l,w64b,w64i]
 refine ⟨_,?_,Nat.min_le_right _ _,rfl⟩
 by_cases h:i+(m.log2:Int) - ((52:Nat):Int)≤ -1074
 ·have hl:max (i+(m.log2:Int) - ((52:Nat):Int)) (-1074) = -1074:=by omega
  rw [hl]
  have e1:((-1074:Int) - i).toNat=0:=by omega
  rw [e1,cut0]
  have:0 < m <<< (i - -1074).toNat:=by rw [Nat.shiftLeft_eq]; exact Nat.mul_pos hm (Nat.two_pow_pos _)
  omega
 ·have:1≤(max (i+(m.log2:Int) - ((52:Nat):Int)) (-1074) - -1074).toNat:=by omega
  generalize (max (i+(m.log2:Int) - ((52:Nat):Int)) (-1074) - -1074).toNat=a at this
  have:=Nat.mul_le_mul_right 4503599627370496 this
  omega
theorem order_word {s:Bool} {r:Nat} (h0:0 < r) (hr:r≤9218868437227405312):FloatKind.f64.format.order (FloatKind.f64.format.word s r) 0=some (if s then .lt else .gt):=by
 have hz:FloatKind.f64.format.read 0 = .number false 0 (-1074):=by decide
 unfold Ieee.Format.order
 rw [hz]
 have e:FloatKind.f64.format.read (FloatKind.f64.format.word s r)=if r < 4503599627370496 then .number s r (-1074) else if r < 9218868437227405312 then .number s (4503599627370496+r % 4503599627370496) (-1074+(r / 4503599627370496 - 1:Nat)) else .infinity s:=by
  unfold Ieee.Format.read Ieee.Format.word
  simp only [w64s,w64b,w64i,w64l]
  cases s with
  | false=>
   have e1:r / 9223372036854775808=0:=by omega
   have e2:r % 9223372036854775808=r:=by omega
   simp only [Bool.false_eq_true,if_false,e1,e2]
   by_cases h1:r < 4503599627370496
   ·rw [if_pos h1,if_pos h1]; rfl
   ·rw [if_neg h1,if_neg h1]
    by_cases h2:r < 9218868437227405312
    ·rw [if_pos h2,if_pos h2]; rfl
    ·rw [if_neg h2,if_neg h2,if_pos (by omega)]; rfl
  | true=>
   have e1:(9223372036854775808+r) / 9223372036854775808=1:=by omega
   have e2:(9223372036854775808+r) % 9223372036854775808=r:=by omega
   simp only [if_true,e1,e2]
   by_cases h1:r < 4503599627370496
   ·rw [if_pos h1,if_pos h1]; rfl
   ·rw [if_neg h1,if_neg h1]
    by_cases h2:r < 9218868437227405312
    ·rw [if_pos h2,if_pos h2]; rfl
    ·rw [if_neg h2,if_neg h2,if_pos (by omega)]; rfl
 rw [e]
 have num:∀ (m:Nat) (j:Int),0 < m→(Ieee.Datum.number s m j).order (.number false 0 (-1074))=some (if s then .lt else .gt):=by
  intro m j hm
  simp only [Ieee.Datum.order]
  have hp:0 < m * 2 ^ (j - min j (-1074)).toNat:=Nat.mul_pos hm (Nat.two_pow_pos _)
  have h0:Ieee.signed false 0 (-1074 - min j (-1074)).toNat=0:=by simp [Ieee.signed]
  rw [h0]
  cases s with
  | true=>
   have:Ieee.signed true m (j - min j (-1074)).toNat < 0:=by simp only [Ieee.signed,if_true,Nat.shiftLeft_eq]; omega
   simp only [compare,compareOfLessAndEq,if_pos this,if_true]
  | false=>
   have:0 < Ieee.signed false m (j - min j (-1074)).toNat:=by simp only [Ieee.signed,Bool.false_eq_true,if_false,Nat.shiftLeft_eq]; omega
   simp only [compare,compareOfLessAndEq]
   rw [if_neg (by omega),if_neg (by omega)]; rfl
 by_cases h1:r < 4503599627370496
 ·rw [if_pos h1]; exact num _ _ h0
 ·rw [if_neg h1]
  by_cases h2:r < 9218868437227405312
  ·rw [if_pos h2]; exact num _ _ (by omega)
  ·rw [if_neg h2]; rfl
theorem sub_order {x y:Nat} (hx:x % 9223372036854775808 < 9218868437227405312) (hy:y % 9223372036854775808 < 9218868437227405312):∃ r,FloatKind.f64.format.sub x y=some r∧FloatKind.f64.format.order r 0=FloatKind.f64.format.order x y:=by
 obtain ⟨m,j,hr,_,_⟩:=read_num hx
 obtain ⟨m',j',hr',_,_⟩:=read_num hy
 generalize (x / 9223372036854775808 % 2==1)=s at hr
 generalize (y / 9223372036854775808 % 2==1)=s' at hr'
 rw [w64l] at hr hr'
 unfold Ieee.Format.sub
 have ho:FloatKind.f64.format.order x y=some (compare (Ieee.signed s m ((-1074:Int)+j - min (-1074+(j:Int)) (-1074+(j':Int))).toNat) (Ieee.signed s' m' ((-1074:Int)+j' - min (-1074+(j:Int)) (-1074+(j':Int))).toNat)):=by
  unfold Ieee.Format.order
  rw [hr,hr']; rfl
 rw [ho,hr,hr']
 simp only [Ieee.Datum.opposite,Ieee.Datum.sum,Option.map_some]
 have hneg:∀ (b:Bool) (n u:Nat),Ieee.signed (!b) n u = - Ieee.signed b n u:=by intro b n u; cases b <;> simp [Ieee.signed]
 rw [hneg]
 generalize Ieee.signed s m ((-1074:Int)+j - min (-1074+(j:Int)) (-1074+(j':Int))).toNat=A
 generalize Ieee.signed s' m' ((-1074:Int)+j' - min (-1074+(j:Int)) (-1074+(j':Int))).toNat=B
 refine ⟨_,rfl,?_⟩
 by_cases h0:A + -B=0
 ·have hAB:A=B:=by omega
  rw [h0,hAB]
  simp only [if_true,Int.natAbs_zero]
  have hz:∀ b:Bool,FloatKind.f64.format.write (.number b 0 (min (-1074+(j:Int)) (-1074+(j':Int))))=FloatKind.f64.format.word b 0:=by
   intro b
   show FloatKind.f64.format.nearest b 0 _=_
   unfold Ieee.Format.nearest
   rw [if_pos rfl]
  rw [hz]
  have:compare B B=Ordering.eq:=cmp_self B
  rw [this]
  cases (s&& !s') <;> decide
 ·have hm:0 < (A + -B).natAbs:=by omega
  obtain ⟨r,r0,r1,hw⟩:=nearest_pos (decide (A + -B < 0)) (m:=(A + -B).natAbs) (i:=min (-1074+(j:Int)) (-1074+(j':Int))) hm (by omega)
  rw [if_neg h0]
  show FloatKind.f64.format.order (FloatKind.f64.format.nearest (decide (A + -B < 0)) (A + -B).natAbs (min (-1074+(j:Int)) (-1074+(j':Int)))) 0=_
  rw [hw,order_word r0 r1]
  by_cases hl:A < B
  ·have:decide (A + -B < 0)=true:=decide_eq_true (by omega)
   rw [this]
   simp only [compare,compareOfLessAndEq,if_pos hl,if_true]
  ·have:decide (A + -B < 0)=false:=decide_eq_false (by omega)
   rw [this]
   simp only [compare,compareOfLessAndEq]
   rw [if_neg hl,if_neg (show ¬ A=B by omega)]; rfl
end Go.Am.Rl
namespace Go.Am.Rl
def topR (u sh:Nat):Nat:=u / 2 ^ sh+(if 2 ^ (sh - 1) < u % 2 ^ sh∨(u % 2 ^ sh=2 ^ (sh - 1)∧u / 2 ^ sh % 2=1) then 1 else 0)
theorem even_cut {s:Bool} {u sh:Nat} (hs:1≤sh) (hl:sh≤u.log2+2):Ieee.Toward.even.cut s u sh=topR u sh:=by
 have hg:1 <<< min sh (u.log2+2)=2 ^ sh:=by rw [Nat.min_eq_left hl,Nat.shiftLeft_eq,Nat.one_mul]
 have h2:2 ^ sh=2 * 2 ^ (sh - 1):=by rw [← Nat.pow_succ',Nat.succ_eq_add_one,show sh - 1+1=sh by omega]
 simp only [Ieee.Toward.cut,hg,topR]
 generalize u % 2 ^ sh=r
 generalize u / 2 ^ sh=q
 rw [h2]
 generalize 2 ^ (sh - 1)=p
 by_cases h:p < r
 ·rw [if_pos (.inl h)]
  have:decide (2 * p < 2 * r)=true:=decide_eq_true (by omega)
  rw [this]; rfl
 ·have h1:decide (2 * p < 2 * r)=false:=decide_eq_false (by omega)
  rw [h1,Bool.false_or]
  by_cases h3:r=p∧q % 2=1
  ·rw [if_pos (.inr h3)]
   have e1:(2 * p==2 * r)=true:=by rw [h3.1]; simp
   have e2:(q % 2==1)=true:=by rw [h3.2]; rfl
   rw [e1,e2]; rfl
  ·rw [if_neg (by omega)]
   have:(2 * p==2 * r&&q % 2==1)=false:=by
    cases hb:(2 * p==2 * r&&q % 2==1) with
    | false=>rfl
    | true=>
     rw [Bool.and_eq_true,beq_iff_eq,beq_iff_eq] at hb
     exact absurd ⟨by omega,hb.2⟩ h3
   rw [this]; rfl
theorem hand_bounds {u:Nat} (h1:9007199254740992≤u) (h2:u < 1152921504606846976):1≤u.log2 - 52∧u.log2 - 52≤7∧52≤u.log2∧4503599627370496≤u / 2 ^ (u.log2 - 52)∧u / 2 ^ (u.log2 - 52) < 9007199254740992:=by
 have h0:u≠0:=by omega
 have a:53≤u.log2:=(Nat.le_log2 h0).mpr h1
 have b:u.log2 < 60:=(Nat.log2_lt h0).mpr h2
 obtain ⟨k1,k2⟩:=kept_big (q:=u) (by omega)
 exact ⟨by omega,by omega,by omega,k1,k2⟩
theorem topR_le {u:Nat} (h1:9007199254740992≤u) (h2:u < 1152921504606846976):4503599627370496≤topR u (u.log2 - 52)∧topR u (u.log2 - 52)≤9007199254740992:=by
 obtain ⟨_,_,_,k1,k2⟩:=hand_bounds h1 h2
 unfold topR
 split <;> omega
theorem nearest_hand (s:Bool) {u:Nat} (h1:9007199254740992≤u) (h2:u < 1152921504606846976) :
  FloatKind.f64.format.nearest s u 0=if topR u (u.log2 - 52) < 9007199254740992 then Wd s u.log2 (topR u (u.log2 - 52)) else Wd s (u.log2+1) 4503599627370496:=by
 obtain ⟨b1,b2,b3,k1,k2⟩:=hand_bounds h1 h2
 obtain ⟨t1,t2⟩:=topR_le h1 h2
 unfold Ieee.Format.nearest
 rw [if_neg (by omega)]
 simp only [w64f,w64l,w64b,w64i]
 have hlast:max ((0:Int)+(u.log2:Int) - ((52:Nat):Int)) (-1074)=(u.log2:Int) - 52:=by omega
 rw [hlast]
 have e1:((0:Int) - ((u.log2:Int) - 52)).toNat=0:=by omega
 have e2:((u.log2:Int) - 52 - 0).toNat=u.log2 - 52:=by omega
 have e3:((u.log2:Int) - 52 - -1074).toNat=u.log2+1022:=by omega
 rw [e1,e2,e3,Nat.shiftLeft_zero,even_cut b1 (by omega)]
 generalize topR u (u.log2 - 52)=t at *
 by_cases h:t < 9007199254740992
 ·rw [if_pos h,Nat.min_eq_left (by omega)]
 ·rw [if_neg h,Nat.min_eq_left (by omega),show (u.log2+1022) * 4503599627370496+t=(u.log2+1+1022) * 4503599627370496+4503599627370496 by omega]
theorem nearest_top (s:Bool) {t:Nat} (h1:4503599627370496≤t) (h2:t≤9007199254740992):FloatKind.f64.format.nearest s t 0=if t < 9007199254740992 then Wd s 52 t else Wd s 53 4503599627370496:=by
 by_cases h:t < 9007199254740992
 ·rw [if_pos h]
  have:=nearest_wd (d:=0) (L:=52) (i:=0) s h1 h (by omega) (by omega)
  rwa [Nat.pow_zero,Nat.mul_one] at this
 ·rw [if_neg h]
  have:=nearest_wd (d:=1) (L:=53) (k:=4503599627370496) (i:=0) s (by omega) (by omega) (by omega) (by omega)
  rw [show t=4503599627370496 * 2 ^ 1 by omega]
  exact this
def dbl (f:Nat):Nat→Nat
 | 0=>f
 | i+1=>match FloatKind.f64.format.mul (dbl f i) 4611686018427387904 with
  | some r=>r
  | none=>0
theorem dbl_wd (s:Bool) {L k:Nat} (h1:4503599627370496≤k) (h2:k < 9007199254740992) (hL:L≤100):∀ i,i≤100→dbl (Wd s L k) i=Wd s (L+i) k
 | 0,_=>rfl
 | i+1,hi=>by
  have ih:=dbl_wd s h1 h2 hL i (by omega)
  show (match FloatKind.f64.format.mul (dbl (Wd s L k) i) 4611686018427387904 with
   | some r=>r
   | none=>0)=_
  rw [ih,mul_two s (L:=L+i) (by omega) h1 h2]
  rfl
theorem dbl_mul (s:Bool) {L k:Nat} (h1:4503599627370496≤k) (h2:k < 9007199254740992) (hL:L≤100) {i:Nat} (hi:i≤100):FloatKind.f64.format.mul (dbl (Wd s L k) i) 4611686018427387904=some (dbl (Wd s L k) (i+1)):=by
 have e:=dbl_wd s h1 h2 hL i hi
 show FloatKind.f64.format.mul (dbl (Wd s L k) i) 4611686018427387904=some (match FloatKind.f64.format.mul (dbl (Wd s L k) i) 4611686018427387904 with
  | some r=>r
  | none=>0)
 rw [e,mul_two s (L:=L+i) (by omega) h1 h2]
theorem near_hand {u:Nat} (h1:9007199254740992≤u) (h2:u < 1152921504606846976):dbl (FloatKind.f64.format.nearest false (topR u (u.log2 - 52)) 0) (u.log2 - 52)=FloatKind.f64.format.nearest false u 0∧FloatKind.f64.format.sub 0 (FloatKind.f64.format.nearest false u 0)=some (FloatKind.f64.format.nearest true u 0):=by
 obtain ⟨b1,b2,b3,k1,k2⟩:=hand_bounds h1 h2
 obtain ⟨t1,t2⟩:=topR_le h1 h2
 rw [nearest_hand false h1 h2,nearest_hand true h1 h2,nearest_top false t1 t2]
 by_cases h:topR u (u.log2 - 52) < 9007199254740992
 ·rw [if_pos h,if_pos h,if_pos h,dbl_wd false t1 h (by omega) _ (by omega),show 52+(u.log2 - 52)=u.log2 by omega]
  exact ⟨rfl,sub_zero_wd (by omega) t1 h⟩
 ·rw [if_neg h,if_neg h,if_neg h,dbl_wd false (by omega) (by omega) (by omega) _ (by omega),show 53+(u.log2 - 52)=u.log2+1 by omega]
  exact ⟨rfl,sub_zero_wd (by omega) (by omega) (by omega)⟩
end Go.Am.Rl
