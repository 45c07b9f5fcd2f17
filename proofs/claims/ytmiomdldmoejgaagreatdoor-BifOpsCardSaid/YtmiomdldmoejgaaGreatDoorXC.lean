/- Parts: OB, OC, OD, OE, NF, NA, B40. -/
import Derived.Test.YtmiomdldmoejgaaGreatDoorXB
import Derived.Test.YtmiomdldmoejgaaGreatDoorFnO
import Derived.Test.YtmiomdldmoejgaaGreatDoorXA
import Derived.Test.YtmiomdldmoejgaaGreatDoorFnM
set_option linter.unusedVariables false
set_option linter.unusedSimpArgs false
set_option maxRecDepth 20000
namespace Go.Am.Rl
open Go.Proofs
theorem g89 (a b:Int) (H:AHeap):DCall Tryz.prog 113 [.int .i64 a,.int .i64 b] H fun r H'=>r = .int .i64 (ordI a b)∧H'=H:=by
 refine DCall.of_body (fn:=Tryz.f113) (by kernel_rfl) c113 (by kernel_rfl) (by simp [f113]) ?_
 unfold f113
 simp only []
 refine Dg rfl ?_
 simp -dsimp only [SE,astep,seval]
 by_cases h1:a < b
 ·have c1:abin .lss (.int .i64 a) (.int .i64 b)=some (.bool true):=by simp [abin,h1]
  refine Dg rfl ?_
  simp -dsimp only [SE,astep,seval,c1]
  refine Dy rfl rfl ?_
  refine Dg rfl ?_
  simp -dsimp only [SE,astep,seval]
  refine Dm rfl ?_
  exact DR.ret ⟨_,by simp [aresult,ares,Env.get] <;> rfl,by unfold ordI; rw [if_pos h1],rfl⟩
 ·have c1:abin .lss (.int .i64 a) (.int .i64 b)=some (.bool false):=by simp [abin,h1]
  refine Dg rfl ?_
  simp -dsimp only [SE,astep,seval,c1]
  refine Dn rfl rfl ?_
  by_cases h2:b < a
  ·have c2:abin .gtr (.int .i64 a) (.int .i64 b)=some (.bool true):=by simp [abin,h2]
   refine Dg rfl ?_
   simp -dsimp only [SE,astep,seval,c2]
   refine Dy rfl rfl ?_
   refine Dg rfl ?_
   simp -dsimp only [SE,astep,seval]
   refine Dm rfl ?_
   exact DR.ret ⟨_,by simp [aresult,ares,Env.get] <;> rfl,by unfold ordI; rw [if_neg h1,if_pos h2],rfl⟩
  ·have c2:abin .gtr (.int .i64 a) (.int .i64 b)=some (.bool false):=by simp [abin]; omega
   refine Dg rfl ?_
   simp -dsimp only [SE,astep,seval,c2]
   refine Dn rfl rfl ?_
   refine Dg rfl ?_
   simp -dsimp only [SE,astep,seval]
   refine Dm rfl ?_
   exact DR.ret ⟨_,by simp [aresult,ares,Env.get] <;> rfl,by unfold ordI; rw [if_neg h1,if_neg h2],rfl⟩
theorem g136 (a b:Int) (H:AHeap):DCall Tryz.prog 157 [.int .i64 a,.int .i64 b] H fun r H'=>r = .int .i64 (ordI a b)∧H'=H:=by
 refine DCall.of_body (fn:=Tryz.f157) (by kernel_rfl) c157 (by kernel_rfl) (by simp [f157]) ?_
 unfold f157
 simp only []
 refine Dg rfl ?_
 simp -dsimp only [SE,astep,seval]
 by_cases h1:a < b
 ·have c1:abin .lss (.int .i64 a) (.int .i64 b)=some (.bool true):=by simp [abin,h1]
  refine Dg rfl ?_
  simp -dsimp only [SE,astep,seval,c1]
  refine Dy rfl rfl ?_
  refine Dg rfl ?_
  simp -dsimp only [SE,astep,seval]
  refine Dm rfl ?_
  exact DR.ret ⟨_,by simp [aresult,ares,Env.get] <;> rfl,by unfold ordI; rw [if_pos h1],rfl⟩
 ·have c1:abin .lss (.int .i64 a) (.int .i64 b)=some (.bool false):=by simp [abin,h1]
  refine Dg rfl ?_
  simp -dsimp only [SE,astep,seval,c1]
  refine Dn rfl rfl ?_
  by_cases h2:b < a
  ·have c2:abin .gtr (.int .i64 a) (.int .i64 b)=some (.bool true):=by simp [abin,h2]
   refine Dg rfl ?_
   simp -dsimp only [SE,astep,seval,c2]
   refine Dy rfl rfl ?_
   refine Dg rfl ?_
   simp -dsimp only [SE,astep,seval]
   refine Dm rfl ?_
   exact DR.ret ⟨_,by simp [aresult,ares,Env.get] <;> rfl,by unfold ordI; rw [if_neg h1,if_pos h2],rfl⟩
  ·have c2:abin .gtr (.int .i64 a) (.int .i64 b)=some (.bool false):=by simp [abin]; omega
   refine Dg rfl ?_
   simp -dsimp only [SE,astep,seval,c2]
   refine Dn rfl rfl ?_
   refine Dg rfl ?_
   simp -dsimp only [SE,astep,seval]
   refine Dm rfl ?_
   exact DR.ret ⟨_,by simp [aresult,ares,Env.get] <;> rfl,by unfold ordI; rw [if_neg h1,if_neg h2],rfl⟩
theorem g138 (a b:Nat) (H:AHeap):DCall Tryz.prog 159 [.flt .f64 a,.flt .f64 b] H fun r H'=>r = .int .i64 (ordF a b)∧H'=H:=by
 have e1:abin .lss (.flt .f64 a) (.flt .f64 b)=some (.bool (FloatKind.f64.format.order a b==some .lt)):=rfl
 have e2:abin .gtr (.flt .f64 a) (.flt .f64 b)=some (.bool (FloatKind.f64.format.order a b==some .gt)):=rfl
 have eF:ordF a b=match FloatKind.f64.format.order a b with
  | some .lt=> -1
  | some .gt=>1
  | _=>0:=rfl
 generalize FloatKind.f64.format.order a b=o at e1 e2 eF
 rw [eF]
 refine DCall.of_body (fn:=Tryz.f159) (by kernel_rfl) c159 (by kernel_rfl) (by simp [f159]) ?_
 unfold f159
 simp only []
 refine Dg rfl ?_
 simp -dsimp only [SE,astep,seval]
 match o with
 | some .lt=>
  have c1:abin .lss (.flt .f64 a) (.flt .f64 b)=some (.bool true):=e1
  refine Dg rfl ?_
  simp -dsimp only [SE,astep,seval,c1]
  refine Dy rfl rfl ?_
  refine Dg rfl ?_
  simp -dsimp only [SE,astep,seval]
  refine Dm rfl ?_
  exact DR.ret ⟨_,by simp [aresult,ares,Env.get] <;> rfl,rfl,rfl⟩
 | some .gt=>
  have c1:abin .lss (.flt .f64 a) (.flt .f64 b)=some (.bool false):=e1
  have c2:abin .gtr (.flt .f64 a) (.flt .f64 b)=some (.bool true):=e2
  refine Dg rfl ?_
  simp -dsimp only [SE,astep,seval,c1]
  refine Dn rfl rfl ?_
  refine Dg rfl ?_
  simp -dsimp only [SE,astep,seval,c2]
  refine Dy rfl rfl ?_
  refine Dg rfl ?_
  simp -dsimp only [SE,astep,seval]
  refine Dm rfl ?_
  exact DR.ret ⟨_,by simp [aresult,ares,Env.get] <;> rfl,rfl,rfl⟩
 | some .eq=>
  have c1:abin .lss (.flt .f64 a) (.flt .f64 b)=some (.bool false):=e1
  have c2:abin .gtr (.flt .f64 a) (.flt .f64 b)=some (.bool false):=e2
  refine Dg rfl ?_
  simp -dsimp only [SE,astep,seval,c1]
  refine Dn rfl rfl ?_
  refine Dg rfl ?_
  simp -dsimp only [SE,astep,seval,c2]
  refine Dn rfl rfl ?_
  refine Dg rfl ?_
  simp -dsimp only [SE,astep,seval]
  refine Dm rfl ?_
  exact DR.ret ⟨_,by simp [aresult,ares,Env.get] <;> rfl,rfl,rfl⟩
 | none=>
  have c1:abin .lss (.flt .f64 a) (.flt .f64 b)=some (.bool false):=e1
  have c2:abin .gtr (.flt .f64 a) (.flt .f64 b)=some (.bool false):=e2
  refine Dg rfl ?_
  simp -dsimp only [SE,astep,seval,c1]
  refine Dn rfl rfl ?_
  refine Dg rfl ?_
  simp -dsimp only [SE,astep,seval,c2]
  refine Dn rfl rfl ?_
  refine Dg rfl ?_
  simp -dsimp only [SE,astep,seval]
  refine Dm rfl ?_
  exact DR.ret ⟨_,by simp [aresult,ares,Env.get] <;> rfl,rfl,rfl⟩
theorem g95 {f:Nat} (hf:fin64 f=true) (H:AHeap):DCall Tryz.prog 119 [.flt .f64 f] H fun r H'=>r = .bool false∧H'=H:=by
 have c:abin .neq (.flt .f64 f) (.flt .f64 f)=some (.bool false):=neq_fin hf
 refine DCall.of_body (fn:=Tryz.f119) (by kernel_rfl) c119 (by kernel_rfl) (by simp [f119]) ?_
 unfold f119
 simp only []
 refine Dg rfl ?_
 simp -dsimp only [SE,astep,seval]
 refine Dg rfl ?_
 simp -dsimp only [SE,astep,seval,c]
 refine Dm rfl ?_
 exact DR.ret ⟨_,by simp [aresult,ares,Env.get] <;> rfl,rfl,rfl⟩
theorem g144 {f t:Nat} (h:aext 3 [.flt .f64 f]=some (.flt .f64 t)) (H:AHeap):DCall Tryz.prog 127 [.flt .f64 f] H fun r H'=>r = .flt .f64 t∧H'=H:=by
 refine DCall.of_body (fn:=Tryz.f127) (by kernel_rfl) c127 (by kernel_rfl) (by simp [f127]) ?_
 unfold f127
 simp only []
 refine Dg rfl ?_
 simp -dsimp only [SE,astep,seval]
 refine Dy rfl rfl ?_
 refine Dg rfl ?_
 simp -dsimp only [SE,astep,seval,h]
 refine Dm rfl ?_
 exact DR.ret ⟨_,by simp [aresult,ares,Env.get] <;> rfl,rfl,rfl⟩
theorem g137 {f:Nat} (hf:fin64 f=true) (n:Int) (H:AHeap):DCall Tryz.prog 158 [.flt .f64 f,.int .i64 n] H fun r H'=>r = .int .i64 (exactv f n)∧H'=H:=by
 have b2:∀ op,(op = .lss∨op = .gtr∨op = .geq)→∀ x y:Nat,∃ b,abin op (.flt .f64 x) (.flt .f64 y)=some (.bool b):=by
  rintro op (rfl | rfl | rfl) x y <;> exact ⟨_,rfl⟩
 refine DCall.of_body (fn:=Tryz.f158) (by kernel_rfl) c158 (by kernel_rfl) (by simp [f158]) ?_
 unfold f158
 simp only []
 refine Dg rfl ?_
 simp -dsimp only [SE,astep,seval]
 refine Dg rfl ?_
 simp -dsimp only [SE,astep,seval]
 refine (g95 hf H).mono ?_
 rintro r H' ⟨rfl,he⟩
 obtain rfl:=he.symm
 simp -dsimp only [SE,astep,seval]
 refine Dn rfl rfl ?_
 obtain ⟨b1,c1⟩:=b2 .geq (.inr (.inr rfl)) f 4890909195324358656
 cases b1 with
 | true=>
  refine Dg rfl ?_
  simp -dsimp only [SE,astep,seval,c1]
  refine Dy rfl rfl ?_
  refine Dg rfl ?_
  simp -dsimp only [SE,astep,seval]
  refine Dm rfl ?_
  exact DR.ret ⟨_,by simp [aresult,ares,Env.get] <;> rfl,by unfold exactv; rw [if_pos (by rw [c1]; rfl)],rfl⟩
 | false=> ?_
 refine Dg rfl ?_
 simp -dsimp only [SE,astep,seval,c1]
 refine Dn rfl rfl ?_
 obtain ⟨b2',c2⟩:=b2 .lss (.inl rfl) f 14114281232179134464
 cases b2' with
 | true=>
  refine Dg rfl ?_
  simp -dsimp only [SE,astep,seval,c2]
  refine Dy rfl rfl ?_
  refine Dg rfl ?_
  simp -dsimp only [SE,astep,seval]
  refine Dm rfl ?_
  exact DR.ret ⟨_,by simp [aresult,ares,Env.get] <;> rfl,by unfold exactv; rw [if_neg (by rw [c1]; decide),if_pos (by rw [c2]; rfl)],rfl⟩
 | false=> ?_
 obtain ⟨t,w,ht,hw⟩:=trunc_in hf c1 c2
 have ev:exactv f n=if w < n then -1 else if n < w then 1 else if isT (abin .lss (.flt .f64 f) (.flt .f64 t))=true then -1 else if isT (abin .gtr (.flt .f64 f) (.flt .f64 t))=true then 1 else 0:=by
  unfold exactv
  rw [if_neg (by rw [c1]; decide),if_neg (by rw [c2]; decide),ht]
  simp only [hw]
 rw [ev]
 refine Dg rfl ?_
 simp -dsimp only [SE,astep,seval,c2]
 refine Dn rfl rfl ?_
 refine Dg rfl ?_
 simp -dsimp only [SE,astep,seval]
 refine (g144 ht H).mono ?_
 rintro r H' ⟨rfl,he⟩
 obtain rfl:=he.symm
 simp -dsimp only [SE,astep,seval]
 refine Dg rfl ?_
 simp -dsimp only [SE,astep,seval,hw]
 by_cases h1:w < n
 ·have d1:abin .lss (.int .i64 w) (.int .i64 n)=some (.bool true):=by simp [abin,h1]
  refine Dg rfl ?_
  simp -dsimp only [SE,astep,seval,d1]
  refine Dy rfl rfl ?_
  refine Dg rfl ?_
  simp -dsimp only [SE,astep,seval]
  refine Dm rfl ?_
  exact DR.ret ⟨_,by simp [aresult,ares,Env.get] <;> rfl,by rw [if_pos h1],rfl⟩
 have d1:abin .lss (.int .i64 w) (.int .i64 n)=some (.bool false):=by simp [abin,h1]
 rw [if_neg h1]
 refine Dg rfl ?_
 simp -dsimp only [SE,astep,seval,d1]
 refine Dn rfl rfl ?_
 by_cases h2:n < w
 ·have d2:abin .gtr (.int .i64 w) (.int .i64 n)=some (.bool true):=by simp [abin,h2]
  refine Dg rfl ?_
  simp -dsimp only [SE,astep,seval,d2]
  refine Dy rfl rfl ?_
  refine Dg rfl ?_
  simp -dsimp only [SE,astep,seval]
  refine Dm rfl ?_
  exact DR.ret ⟨_,by simp [aresult,ares,Env.get] <;> rfl,by rw [if_pos h2],rfl⟩
 have d2:abin .gtr (.int .i64 w) (.int .i64 n)=some (.bool false):=by simp [abin]; omega
 rw [if_neg h2]
 refine Dg rfl ?_
 simp -dsimp only [SE,astep,seval,d2]
 refine Dn rfl rfl ?_
 obtain ⟨b3,c3⟩:=b2 .lss (.inl rfl) f t
 cases b3 with
 | true=>
  refine Dg rfl ?_
  simp -dsimp only [SE,astep,seval,c3]
  refine Dy rfl rfl ?_
  refine Dg rfl ?_
  simp -dsimp only [SE,astep,seval]
  refine Dm rfl ?_
  exact DR.ret ⟨_,by simp [aresult,ares,Env.get] <;> rfl,by rw [if_pos (by rw [c3]; rfl)],rfl⟩
 | false=> ?_
 rw [if_neg (by rw [c3]; decide)]
 refine Dg rfl ?_
 simp -dsimp only [SE,astep,seval,c3]
 refine Dn rfl rfl ?_
 obtain ⟨b4,c4⟩:=b2 .gtr (.inr (.inl rfl)) f t
 cases b4 with
 | true=>
  refine Dg rfl ?_
  simp -dsimp only [SE,astep,seval,c4]
  refine Dy rfl rfl ?_
  refine Dg rfl ?_
  simp -dsimp only [SE,astep,seval]
  refine Dm rfl ?_
  exact DR.ret ⟨_,by simp [aresult,ares,Env.get] <;> rfl,by rw [if_pos (by rw [c4]; rfl)],rfl⟩
 | false=> ?_
 rw [if_neg (by rw [c4]; decide)]
 refine Dg rfl ?_
 simp -dsimp only [SE,astep,seval,c4]
 refine Dn rfl rfl ?_
 refine Dg rfl ?_
 simp -dsimp only [SE,astep,seval]
 refine Dm rfl ?_
 exact DR.ret ⟨_,by simp [aresult,ares,Env.get] <;> rfl,rfl,rfl⟩
theorem g139 (a b:ByteArray) (H:AHeap):DCall Tryz.prog 160 [.str a,.str b] H fun r H'=>r = .int .i64 (cmpv a b)∧H'=H:=by
 have h:aext 7 [.str a,.str b]=some (.int .i64 (cmpv a b)):=rfl
 refine DCall.of_body (fn:=Tryz.f160) (by kernel_rfl) c160 (by kernel_rfl) (by simp [f160]) ?_
 unfold f160
 simp only []
 refine Dg rfl ?_
 simp -dsimp only [SE,astep,seval]
 refine Dg rfl ?_
 simp -dsimp only [SE,astep,seval,h]
 refine Dm rfl ?_
 exact DR.ret ⟨_,by simp [aresult,ares,Env.get] <;> rfl,rfl,rfl⟩
theorem g91 (a b:ByteArray) (H:AHeap):DCall Tryz.prog 115 [.str a,.str b] H fun r H'=>r = .int .i64 (cmpv a b)∧H'=H:=by
 refine DCall.of_body (fn:=Tryz.f115) (by kernel_rfl) c115 (by kernel_rfl) (by simp [f115]) ?_
 unfold f115
 simp only []
 refine Dg rfl ?_
 simp -dsimp only [SE,astep,seval]
 refine Dg rfl ?_
 simp -dsimp only [SE,astep,seval]
 refine (g139 a b H).mono ?_
 rintro r H' ⟨rfl,he⟩
 obtain rfl:=he.symm
 simp -dsimp only [SE,astep,seval]
 refine Dm rfl ?_
 exact DR.ret ⟨_,by simp [aresult,ares,Env.get] <;> rfl,rfl,rfl⟩
theorem eql_dec (k n:Int):abin .eql (.int .i64 k) (.int .i64 n)=some (.bool (decide (k=n))):=by simp [abin,Bool.beq_eq_decide_eq]
theorem g88 (k:Int) (H:AHeap):DCall Tryz.prog 112 [.int .i64 k] H fun r H'=>r = .int .i64 (rank k)∧H'=H:=by
 refine DCall.of_body (fn:=Tryz.f112) (by kernel_rfl) c112 (by kernel_rfl) (by simp [f112]) ?_
 unfold f112
 simp only []
 refine Dg rfl ?_
 simp -dsimp only [SE,astep,seval]
 refine Dg rfl ?_
 simp -dsimp only [SE,astep,seval]
 by_cases h1:k=1
 ·have c1:abin .eql (.int .i64 k) (.int .i64 1)=some (.bool true):=by rw [eql_dec]; simp [h1]
  refine Dg rfl ?_
  simp -dsimp only [SE,astep,seval,c1]
  refine Dy rfl rfl ?_
  refine Dy rfl rfl ?_
  refine Dg rfl ?_
  simp -dsimp only [SE,astep,seval]
  refine Dm rfl ?_
  exact DR.ret ⟨_,by simp [aresult,ares,Env.get] <;> rfl,by unfold rank; rw [if_pos (.inl h1)],rfl⟩
 ·have c1:abin .eql (.int .i64 k) (.int .i64 1)=some (.bool false):=by rw [eql_dec]; simp [h1]
  refine Dg rfl ?_
  simp -dsimp only [SE,astep,seval,c1]
  refine Dn rfl rfl ?_
  by_cases h2:k=2
  ·have c2:abin .eql (.int .i64 k) (.int .i64 2)=some (.bool true):=by rw [eql_dec]; simp [h2]
   refine Dg rfl ?_
   simp -dsimp only [SE,astep,seval,c2]
   refine Dy rfl rfl ?_
   refine Dg rfl ?_
   simp -dsimp only [SE,astep,seval]
   refine Dm rfl ?_
   exact DR.ret ⟨_,by simp [aresult,ares,Env.get] <;> rfl,by unfold rank; rw [if_pos (.inr h2)],rfl⟩
  ·have c2:abin .eql (.int .i64 k) (.int .i64 2)=some (.bool false):=by rw [eql_dec]; simp [h2]
   refine Dg rfl ?_
   simp -dsimp only [SE,astep,seval,c2]
   refine Dn rfl rfl ?_
   refine Dg rfl ?_
   simp -dsimp only [SE,astep,seval]
   refine Dm rfl ?_
   exact DR.ret ⟨_,by simp [aresult,ares,Env.get] <;> rfl,by unfold rank; rw [if_neg (by omega)],rfl⟩
end Go.Am.Rl
namespace Go.Am.Rl
open Go.Proofs
theorem TM.pures22 (a b:TM):AVal.pures [a.agg,b.agg]=true:=by
 have h1:=TM.pures1 a
 have h2:=TM.pures1 b
 simp only [AVal.pures,Bool.and_true] at h1 h2 ⊢
 rw [h1,h2]; rfl
def numb (t:TM):Prop:=t.k=1∨(t.k=2∧fin64 t.f=true)
theorem numb_of {t:TM} (h:fine t) (hk:t.k=1∨t.k=2):numb t:=by
 rcases ((fine_eq t).mp h).1 with ⟨h,_⟩ | ⟨h,_,_,_,hf⟩ | ⟨h,_⟩ | ⟨h | h,_⟩ | ⟨h,_⟩ | ⟨h | h,_⟩ <;> first | exact .inl h | exact .inr ⟨h,hf⟩ | omega
theorem g90 {a b:TM} (na:numb a) (nb:numb b) (H:AHeap):DCall Tryz.prog 114 [a.agg,b.agg] H fun r H'=>r = .int .i64 (numv a.k a.n a.f b.k b.n b.f)∧H'=H:=by
 have h:DCall Tryz.prog 114 [a.agg,b.agg] AHeap.empty fun r H'=>∃ n,r = .int .i64 n∧n=numv a.k a.n a.f b.k b.n b.f:=by
  have hz:z25=[.int .i64 0,.int .i64 0,.flt .f64 0,.str ⟨#[]⟩,.nils]:=rfl
  obtain ⟨H1,hH1,g1,n1,f1⟩:=psh AHeap.empty (.cells 27 (TM.c5 a))
  obtain ⟨H2,hH2,g2,n2,f2⟩:=psh H1 (.cells 27 (TM.c5 b))
  obtain ⟨H3,hH3,g3,n3,f3⟩:=psh H2 (.cells 27 z25)
  obtain ⟨H4,hH4,g4,n4,f4⟩:=psh H3 (.cells 27 z25)
  have a2:=(f2 _ (by omega)).trans g1
  have la2:=load_all (n:=5) a2 rfl
  have lb2:=load_all (n:=5) g2 rfl
  have t4:=(f4 _ (by omega)).trans g3
  have s5:=store_all (n:=5) t4 (new:=TM.c5 a) rfl (TM.ones5 _) rfl
  obtain ⟨H5,hH5,g5,n5,f5⟩:=upd t4 (.cells 27 (TM.c5 a))
  have t5:=(f5 _ (by omega)).trans g4
  have s6:=store_all (n:=5) t5 (new:=TM.c5 b) rfl (TM.ones5 _) rfl
  obtain ⟨H6,hH6,g6,n6,f6⟩:=upd t5 (.cells 27 (TM.c5 b))
  have a6:=(f6 _ (by omega)).trans g5
  have ka:=load_cell a6 (o:=0) (v:=.int .i64 a.k) rfl
  have na':=load_cell a6 (o:=1) (v:=.int .i64 a.n) rfl
  have fa:=load_cell a6 (o:=2) (v:=.flt .f64 a.f) rfl
  have kb:=load_cell g6 (o:=0) (v:=.int .i64 b.k) rfl
  have nb':=load_cell g6 (o:=1) (v:=.int .i64 b.n) rfl
  have fb:=load_cell g6 (o:=2) (v:=.flt .f64 b.f) rfl
  refine DCall.of_body (fn:=Tryz.f114) (by kernel_rfl) c114 (by kernel_rfl) (by simp [f114]) ?_
  unfold f114
  simp only []
  refine Dg rfl ?_
  simp -dsimp only [SE,astep,seval,← hH1,← hH2]
  refine Dm rfl ?_
  refine DR.drawX mixed (x:=3) (ms:=m114_1) (by kernel_rfl) (noSlot_ok (by rfl)) ?_
  have la3:=load_all (n:=5) ((f3 _ (by omega)).trans a2) rfl
  have lb3:=load_all (n:=5) ((f3 _ (by omega)).trans g2) rfl
  have la4:=load_all (n:=5) ((f4 _ (by omega)).trans ((f3 _ (by omega)).trans a2)) rfl
  have lb4:=load_all (n:=5) ((f4 _ (by omega)).trans ((f3 _ (by omega)).trans g2)) rfl
  have lb5:=load_all (n:=5) ((f5 _ (by omega)).trans ((f4 _ (by omega)).trans ((f3 _ (by omega)).trans g2))) rfl
  simp -dsimp only [m114_1,SE,astep,seval,DS_nil,DS_cons,seesAll,staysAll,abit,List.getD_cons_zero,List.getD_cons_succ,AOp.quiet,AOp.reads,true_and,and_true,decide_true,decide_false,and_self,la2,lb2,la3,lb3,la4,lb4,lb5,← hz,← hH3,← hH4,s5,← hH5,s6,← hH6]
  have one:∀ k:Int,k=1→abin .eql (.int .i64 k) (.int .i64 1)=some (.bool true):=fun k h=>by rw [eql_dec]; simp [h]
  have two:∀ k:Int,k=2→abin .eql (.int .i64 k) (.int .i64 1)=some (.bool false):=fun k h=>by rw [eql_dec]; simp [h]
  rcases na with hka | ⟨hka,hfa⟩
  ·have ca:=one _ hka
   rcases nb with hkb | ⟨hkb,hfb⟩
   ·have cb:=one _ hkb
    refine Dg rfl ?_
    simp -dsimp only [SE,astep,seval,ka,ca,kb,cb]
    refine Dy rfl rfl ?_
    refine Dg rfl ?_
    simp -dsimp only [SE,astep,seval,na',nb']
    refine (g136 a.n b.n H6).mono ?_
    rintro r H' ⟨rfl,he⟩
    obtain rfl:=he.symm
    simp -dsimp only [SE,astep,seval]
    refine Dm rfl ?_
    exact DR.ret ⟨_,by simp [aresult,ares,Env.get] <;> rfl,_,rfl,by unfold numv; rw [if_pos ⟨hka,hkb⟩]⟩
   ·have cb:=two _ hkb
    refine Dg rfl ?_
    simp -dsimp only [SE,astep,seval,ka,ca,kb,cb]
    refine Dn rfl rfl ?_
    refine Dg rfl ?_
    simp -dsimp only [SE,astep,seval,ka,ca]
    refine Dy rfl rfl ?_
    refine Dg rfl ?_
    simp -dsimp only [SE,astep,seval,fb,na']
    refine (g137 hfb a.n H6).mono ?_
    rintro r H' ⟨rfl,he⟩
    obtain rfl:=he.symm
    simp -dsimp only [SE,astep,seval]
    refine Dm rfl ?_
    exact DR.ret ⟨_,by simp [aresult,ares,Env.get] <;> rfl,_,rfl,by unfold numv; rw [if_neg (by omega),if_pos hka]; have:=exactv_in b.f a.n; rw [IntKind.wrap_i64]; omega⟩
  ·have ca:=two _ hka
   rcases nb with hkb | ⟨hkb,hfb⟩
   ·have cb:=one _ hkb
    refine Dg rfl ?_
    simp -dsimp only [SE,astep,seval,ka,ca]
    refine Dn rfl rfl ?_
    refine Dg rfl ?_
    simp -dsimp only [SE,astep,seval,ka,ca]
    refine Dn rfl rfl ?_
    refine Dg rfl ?_
    simp -dsimp only [SE,astep,seval,kb,cb]
    refine Dy rfl rfl ?_
    refine Dg rfl ?_
    simp -dsimp only [SE,astep,seval,fa,nb']
    refine (g137 hfa b.n H6).mono ?_
    rintro r H' ⟨rfl,he⟩
    obtain rfl:=he.symm
    simp -dsimp only [SE,astep,seval]
    refine Dm rfl ?_
    exact DR.ret ⟨_,by simp [aresult,ares,Env.get] <;> rfl,_,rfl,by unfold numv; rw [if_neg (by omega),if_neg (by omega),if_pos hkb]⟩
   ·have cb:=two _ hkb
    refine Dg rfl ?_
    simp -dsimp only [SE,astep,seval,ka,ca]
    refine Dn rfl rfl ?_
    refine Dg rfl ?_
    simp -dsimp only [SE,astep,seval,ka,ca]
    refine Dn rfl rfl ?_
    refine Dg rfl ?_
    simp -dsimp only [SE,astep,seval,kb,cb]
    refine Dn rfl rfl ?_
    refine Dg rfl ?_
    simp -dsimp only [SE,astep,seval,fa,fb]
    refine (g138 a.f b.f H6).mono ?_
    rintro r H' ⟨rfl,he⟩
    obtain rfl:=he.symm
    simp -dsimp only [SE,astep,seval]
    refine Dm rfl ?_
    exact DR.ret ⟨_,by simp [aresult,ares,Env.get] <;> rfl,_,rfl,by unfold numv; rw [if_neg (by omega),if_neg (by omega),if_neg (by omega)]⟩
 exact (DCall.ints (TM.pures22 a b) h H).mono fun r H' ⟨⟨n,h1,h3⟩,h2⟩=>⟨by rw [h1,h3],h2⟩
section
variable {u v:TM} {k k':List AItem} {Q:Env→AHeap→Prop}
theorem loop140 (ou:u.ok) (ov:v.ok) (ih:∀ x ∈ u.l,∀ y ∈ v.l,∀ H,DCall Tryz.prog 72 [x.agg,y.agg] H fun r H'=>r = .int .i64 (ord x y)∧H'=H) (hk:aexitTo 0 k=some k')
  (hend:∀ H,u.l.length≤v.l.length→ords u.l v.l=ords [] (v.l.drop u.l.length)→DR Tryz.prog (kof k161) 39 k' [(0,u.row),(1,v.row)] H Q)
  (hret:∀ T H,T.get 6=some (.int .i64 (ords u.l v.l))→Q T H) :
  ∀ (e i:Nat) (H:AHeap),i+e=u.l.length→i≤v.l.length→ords u.l v.l=ords (u.l.drop i) (v.l.drop i)→DR Tryz.prog (kof k161) 39 (.code l161_0::.inLoop l161_0::k) [(0,u.row),(1,v.row),(2,.fn (.func 72) [] []),(11,u.row),(12,.int .i64 (u.l.length:Nat)),(13,.int .i64 (i:Nat))] H Q:=by
 intro e
 induction e with
 | zero=>
  intro i H hi hiv heq
  have hc:abin .lss (.int .i64 (i:Nat)) (.int .i64 (u.l.length:Nat))=some (.bool false):=by simp [abin]; omega
  refine Dg rfl ?_
  simp -dsimp only [SE,astep,seval,hc]
  refine Dn rfl rfl ?_
  refine Dm rfl ?_
  refine DR.exit hk ?_
  obtain rfl:i=u.l.length:=by omega
  rw [List.drop_length] at heq
  exact DR.only [0,1] (hend H hiv heq)
 | succ e ih2=>
  intro i H hi hiv heq
  have hc:abin .lss (.int .i64 (i:Nat)) (.int .i64 (u.l.length:Nat))=some (.bool true):=by simp [abin]; omega
  have hlt:i < u.l.length:=by omega
  have hx:u.l[i]? = some u.l[i]:=List.getElem?_eq_getElem hlt
  have ra:=TM.row_at ou hx H
  have la:=TM.load u.l[i] (TM.flat (u.l.drop (i+1))) H
  have hle:=TM.len_le ou
  have hadd:abin .add (.int .i64 (i:Nat)) (.int .i64 1)=some (.int .i64 ((i+1:Nat):Int)):=add_nat (b:=1) (by omega)
  obtain ⟨H1,hH1,g1,n1,f1⟩:=psh H (.cells 27 [.int .i64 0,.int .i64 0,.flt .f64 0,.str ⟨#[]⟩,.nils])
  have st:astore H1 5 (.ptr H.next 0) (AVal.agg (TM.c5 u.l[i]))=some (H1.set H.next (.cells 27 (TM.c5 u.l[i]))):=store_all (n:=5) (new:=TM.c5 u.l[i]) g1 rfl (TM.ones5 _) rfl
  obtain ⟨H2,hH2,g2,n2,f2⟩:=upd g1 (.cells 27 (TM.c5 u.l[i]))
  have hlv:=TM.lenT ov H2
  have hdu:u.l.drop i=u.l[i]::u.l.drop (i+1):=List.drop_eq_getElem_cons hlt
  refine Dg rfl ?_
  simp -dsimp only [SE,astep,seval,hc]
  refine Dy rfl rfl ?_
  refine Dg rfl ?_
  simp -dsimp only [SE,astep,seval,ra,la,← hH1,st,← hH2]
  by_cases hv:i < v.l.length
  ·have c2:abin .geq (.int .i64 (i:Nat)) (.int .i64 (v.l.length:Nat))=some (.bool false):=by simp [abin]; omega
   have hy:v.l[i]? = some v.l[i]:=List.getElem?_eq_getElem hv
   have rb:=TM.row_at ov hy H2
   have lb:=TM.load v.l[i] (TM.flat (v.l.drop (i+1))) H2
   obtain ⟨H3,hH3,g3,n3,f3⟩:=psh H2 (.cells 27 [.int .i64 0,.int .i64 0,.flt .f64 0,.str ⟨#[]⟩,.nils])
   have st3:astore H3 5 (.ptr H2.next 0) (AVal.agg (TM.c5 v.l[i]))=some (H3.set H2.next (.cells 27 (TM.c5 v.l[i]))):=store_all (n:=5) (new:=TM.c5 v.l[i]) g3 rfl (TM.ones5 _) rfl
   obtain ⟨H4,hH4,g4,n4,f4⟩:=upd g3 (.cells 27 (TM.c5 v.l[i]))
   have x4:H4.get H.next=some (.cells 27 (TM.c5 u.l[i])):=by rw [f4 _ (by omega),f3 _ (by omega)]; exact g2
   have lx:=load_all (n:=5) x4 rfl
   have ly:=load_all (n:=5) g4 rfl
   have hdv:v.l.drop i=v.l[i]::v.l.drop (i+1):=List.drop_eq_getElem_cons hv
   refine Dg rfl ?_
   simp -dsimp only [SE,astep,seval,hlv,c2]
   refine Dn rfl rfl ?_
   refine Dg rfl ?_
   simp -dsimp only [SE,astep,seval,rb,lb,← hH3,st3,← hH4]
   refine Dg rfl ?_
   simp -dsimp only [SE,astep,seval,lx,ly,List.append_nil,List.nil_append]
   refine (ih _ (List.getElem_mem hlt) _ (List.getElem_mem hv) H4).mono ?_
   rintro r H' ⟨rfl,he⟩
   obtain rfl:=he.symm
   simp -dsimp only [SE,astep,seval]
   rw [hdu,hdv,ords] at heq
   by_cases h0:ord u.l[i] v.l[i]=0
   ·have c3:abin .neq (.int .i64 (ord u.l[i] v.l[i])) (.int .i64 0)=some (.bool false):=by rw [h0]; exact neq_int _ _
    refine Dg rfl ?_
    simp -dsimp only [SE,astep,seval,c3]
    refine Dn rfl rfl ?_
    refine Dg rfl ?_
    simp -dsimp only [SE,astep,seval,hadd]
    refine Dm rfl ?_
    refine DR.inLoop ?_
    rw [if_neg (by omega)] at heq
    exact ih2 (i+1) H4 (by omega) (by omega) heq
   ·have c3:abin .neq (.int .i64 (ord u.l[i] v.l[i])) (.int .i64 0)=some (.bool true):=by simp [abin,h0]
    refine Dg rfl ?_
    simp -dsimp only [SE,astep,seval,c3]
    refine Dy rfl rfl ?_
    refine Dg rfl ?_
    simp -dsimp only [SE,astep,seval]
    refine Dm rfl ?_
    rw [if_pos h0] at heq
    exact DR.ret (hret _ _ (by rw [heq]; rfl))
  ·have c2:abin .geq (.int .i64 (i:Nat)) (.int .i64 (v.l.length:Nat))=some (.bool true):=by simp [abin]; omega
   have hdv:v.l.drop i=[]:=List.drop_eq_nil_of_le (by omega)
   rw [hdu,hdv,ords] at heq
   refine Dg rfl ?_
   simp -dsimp only [SE,astep,seval,hlv,c2]
   refine Dy rfl rfl ?_
   refine Dg rfl ?_
   simp -dsimp only [SE,astep,seval]
   refine Dm rfl ?_
   exact DR.ret (hret _ _ (by rw [heq]; rfl))
end
theorem TM.purerr (u v:TM):AVal.pures [u.row,v.row]=true:=by
 have h1:=TM.purer (u:=u)
 have h2:=TM.purer (u:=v)
 simp only [AVal.pures,Bool.and_true] at h1 h2 ⊢
 rw [h1,h2]; rfl
theorem g140 {u v:TM} (ou:u.ok) (ov:v.ok) (ih:∀ x ∈ u.l,∀ y ∈ v.l,∀ H,DCall Tryz.prog 72 [x.agg,y.agg] H fun r H'=>r = .int .i64 (ord x y)∧H'=H) (H:AHeap) :
  DCall Tryz.prog 161 [u.row,v.row,.fn (.func 72) [] []] H fun r H'=>∃ n,r = .int .i64 n∧n=ords u.l v.l:=by
 have hlu:=TM.lenT ou H
 refine DCall.of_body (fn:=Tryz.f161) (by kernel_rfl) c161 (by kernel_rfl) (by simp [f161]) ?_
 unfold f161
 simp only []
 refine Dg rfl ?_
 simp -dsimp only [SE,astep,seval]
 refine Dg rfl ?_
 simp -dsimp only [SE,astep,seval,hlu]
 refine Dm rfl ?_
 refine DR.loop ?_
 refine loop140 ou ov ih rfl (fun H8 hle heq=> ?_) (fun T H8 hT=>⟨.int .i64 (ords u.l v.l),by simp [aresult,ares,hT],_,rfl,rfl⟩) u.l.length 0 H (by omega) (by omega) (by simp)
 have hlu:=TM.lenT ou H8
 have hlv:=TM.lenT ov H8
 by_cases h:u.l.length < v.l.length
 ·have c:abin .lss (.int .i64 (u.l.length:Nat)) (.int .i64 (v.l.length:Nat))=some (.bool true):=by simp [abin]; omega
  have hd:v.l.drop u.l.length=v.l[u.l.length]::v.l.drop (u.l.length+1):=List.drop_eq_getElem_cons h
  refine Dg rfl ?_
  simp -dsimp only [SE,astep,seval,hlu,hlv,c]
  refine Dy rfl rfl ?_
  refine Dg rfl ?_
  simp -dsimp only [SE,astep,seval]
  refine Dm rfl ?_
  exact DR.ret ⟨_,by simp [aresult,ares,Env.get] <;> rfl,_,rfl,by rw [heq,hd]; simp [ords]⟩
 ·have c:abin .lss (.int .i64 (u.l.length:Nat)) (.int .i64 (v.l.length:Nat))=some (.bool false):=by simp [abin]; omega
  have hd:v.l.drop u.l.length=[]:=List.drop_eq_nil_of_le (by omega)
  refine Dg rfl ?_
  simp -dsimp only [SE,astep,seval,hlu,hlv,c]
  refine Dn rfl rfl ?_
  refine Dg rfl ?_
  simp -dsimp only [SE,astep,seval]
  refine Dm rfl ?_
  exact DR.ret ⟨_,by simp [aresult,ares,Env.get] <;> rfl,_,rfl,by rw [heq,hd]; simp [ords]⟩
theorem g92 {u v:TM} (ou:u.ok) (ov:v.ok) (ih:∀ x ∈ u.l,∀ y ∈ v.l,∀ H,DCall Tryz.prog 72 [x.agg,y.agg] H fun r H'=>r = .int .i64 (ord x y)∧H'=H) (H:AHeap) :
  DCall Tryz.prog 116 [u.row,v.row] H fun r H'=>r = .int .i64 (ords u.l v.l)∧H'=H:=by
 have h:DCall Tryz.prog 116 [u.row,v.row] AHeap.empty fun r H'=>∃ n,r = .int .i64 n∧n=ords u.l v.l:=by
  refine DCall.of_body (fn:=Tryz.f116) (by kernel_rfl) c116 (by kernel_rfl) (by simp [f116]) ?_
  unfold f116
  simp only []
  refine Dg rfl ?_
  simp -dsimp only [SE,astep,seval]
  refine Dg rfl ?_
  simp -dsimp only [SE,astep,seval,List.append_nil,List.nil_append]
  refine (g140 ou ov ih AHeap.empty).mono ?_
  rintro r H' ⟨n,rfl,rfl⟩
  simp -dsimp only [SE,astep,seval]
  refine Dm rfl ?_
  exact DR.ret ⟨_,by simp [aresult,ares,Env.get] <;> rfl,_,rfl,rfl⟩
 exact (DCall.ints (TM.purerr u v) h H).mono fun r H' ⟨⟨n,h1,h3⟩,h2⟩=>⟨by rw [h1,h3],h2⟩
end Go.Am.Rl
namespace Go.Am.Rl
open Go.Proofs
theorem rank_in {k:Int} (h:1≤k∧k≤8):0≤rank k∧rank k≤8:=by unfold rank; split <;> omega
theorem neq_dec (k n:Int):abin .neq (.int .i64 k) (.int .i64 n)=some (.bool (decide (k≠n))):=by
 by_cases h:k=n
 ·subst h; rw [neq_int]; simp
 ·simp [abin,h]
theorem neqF {k n:Int} (h:k=n):abin .neq (.int .i64 k) (.int .i64 n)=some (.bool false):=by rw [neq_dec]; simp [h]
theorem neqT {k n:Int} (h:k≠n):abin .neq (.int .i64 k) (.int .i64 n)=some (.bool true):=by rw [neq_dec]; simp [h]
theorem eqlF {k n:Int} (h:k≠n):abin .eql (.int .i64 k) (.int .i64 n)=some (.bool false):=by rw [eql_dec]; simp [h]
theorem eqlT {k n:Int} (h:k=n):abin .eql (.int .i64 k) (.int .i64 n)=some (.bool true):=by rw [eql_dec]; simp [h]
theorem g55:∀ a:TM,a.ok→fine a→∀ b:TM,b.ok→fine b→∀ H:AHeap,DCall Tryz.prog 72 [a.agg,b.agg] H fun r H'=>r = .int .i64 (ord a b)∧H'=H:=by
 refine TM.all fun a ih oa fa b ob fb H=> ?_
 have ih':∀ x ∈ a.l,∀ y ∈ b.l,∀ H,DCall Tryz.prog 72 [x.agg,y.agg] H fun r H'=>r = .int .i64 (ord x y)∧H'=H:=fun x hx y hy H=>
  ih x hx (TM.oks_mem (TM.ok_oks oa) x hx) (fines_iff.mp ((fine_eq a).mp fa).2 x hx) y (TM.oks_mem (TM.ok_oks ob) y hy) (fines_iff.mp ((fine_eq b).mp fb).2 y hy) H
 have ka:=fine_kind fa
 have kb:=fine_kind fb
 have ra:=rank_in ka
 have rb:=rank_in kb
 have h:DCall Tryz.prog 72 [a.agg,b.agg] AHeap.empty fun r H'=>∃ n,r = .int .i64 n∧n=ord a b:=by
  obtain ⟨H1,hH1,g1,n1,f1⟩:=psh AHeap.empty (.cells 27 (TM.c5 a))
  obtain ⟨H2,hH2,g2,n2,f2⟩:=psh H1 (.cells 27 (TM.c5 b))
  have a2:=(f2 _ (by omega)).trans g1
  have la:=load_all (n:=5) a2 rfl
  have lb:=load_all (n:=5) g2 rfl
  have a0:=load_cell a2 (o:=0) (v:=.int .i64 a.k) rfl
  have a1:=load_cell a2 (o:=1) (v:=.int .i64 a.n) rfl
  have a3:=load_cell a2 (o:=3) (v:=.str a.s) rfl
  have a4:=load_cell a2 (o:=4) (v:=a.row) rfl
  have b0:=load_cell g2 (o:=0) (v:=.int .i64 b.k) rfl
  have b1:=load_cell g2 (o:=1) (v:=.int .i64 b.n) rfl
  have b3:=load_cell g2 (o:=3) (v:=.str b.s) rfl
  have b4:=load_cell g2 (o:=4) (v:=b.row) rfl
  have hla:=TM.lenT oa H2
  have hlb:=TM.lenT ob H2
  have hsub:abin .sub (.int .i64 (rank a.k)) (.int .i64 (rank b.k))=some (.int .i64 (rank a.k - rank b.k)):=by
   show some (AVal.int .i64 (IntKind.i64.wrap (rank a.k - rank b.k)))=_
   rw [IntKind.wrap_i64,show (rank a.k - rank b.k+9223372036854775808) % 18446744073709551616 - 9223372036854775808=rank a.k - rank b.k by omega]
  rw [ord_eq]
  refine DCall.of_body (fn:=Tryz.f72) (by kernel_rfl) c72 (by kernel_rfl) (by simp [f72]) ?_
  unfold f72
  simp only []
  refine Dg rfl ?_
  simp -dsimp only [SE,astep,seval,← hH1,← hH2]
  refine Dm rfl ?_
  refine DR.draw (by kernel_rfl) d72_1 ?_
  simp -dsimp only [m72_1,SE,astep,seval,DS_nil,DS_cons,seesAll,staysAll,abit,List.getD_cons_zero,List.getD_cons_succ,AOp.quiet,AOp.reads,true_and,and_true,decide_true,decide_false,and_self,a0,b0]
  refine (g88 a.k H2).mono ?_
  rintro r H' ⟨rfl,he⟩
  obtain rfl:=he.symm
  simp -dsimp only [SE,astep,seval,DS_nil,DS_cons,seesAll,staysAll,abit,List.getD_cons_zero,List.getD_cons_succ,AOp.quiet,AOp.reads,true_and,and_true,decide_true,decide_false,and_self,a0,b0]
  refine (g88 b.k H2).mono ?_
  rintro r H' ⟨rfl,he⟩
  obtain rfl:=he.symm
  simp -dsimp only [SE,astep,seval,DS_nil,DS_cons,seesAll,staysAll,abit,List.getD_cons_zero,List.getD_cons_succ,AOp.quiet,AOp.reads,true_and,and_true,decide_true,decide_false,and_self,a0,b0,hsub]
  by_cases hr:rank a.k - rank b.k=0
  ·have c:=neqF hr
   rw [if_neg (by omega)]
   refine Dg rfl ?_
   simp -dsimp only [SE,astep,seval,c]
   refine Dn rfl rfl ?_
   refine Dg rfl ?_
   simp -dsimp only [SE,astep,seval,a0]
   by_cases h12:a.k=1∨a.k=2
   ·have hb12:b.k=1∨b.k=2:=by
     have:=(rank_pos ka.1).mpr h12
     exact (rank_pos kb.1).mp (by omega)
    rw [if_pos h12]
    rcases h12 with h1 | h2
    ·have c1:=eqlT h1
     refine Dg rfl ?_
     simp -dsimp only [SE,astep,seval,c1]
     refine Dy rfl rfl ?_
     refine Dy rfl rfl ?_
     refine Dg rfl ?_
     simp -dsimp only [SE,astep,seval,la,lb]
     refine (g90 (numb_of fa (.inl h1)) (numb_of fb hb12) H2).mono ?_
     rintro r H' ⟨rfl,he⟩
     obtain rfl:=he.symm
     simp -dsimp only [SE,astep,seval]
     refine Dm rfl ?_
     exact DR.ret ⟨_,by simp [aresult,ares,Env.get] <;> rfl,_,rfl,rfl⟩
    ·have c1:abin .eql (.int .i64 a.k) (.int .i64 1)=some (.bool false):=eqlF (by omega)
     have c2:=eqlT h2
     refine Dg rfl ?_
     simp -dsimp only [SE,astep,seval,c1]
     refine Dn rfl rfl ?_
     refine Dg rfl ?_
     simp -dsimp only [SE,astep,seval,c2]
     refine Dy rfl rfl ?_
     refine Dg rfl ?_
     simp -dsimp only [SE,astep,seval,la,lb]
     refine (g90 (numb_of fa (.inr h2)) (numb_of fb hb12) H2).mono ?_
     rintro r H' ⟨rfl,he⟩
     obtain rfl:=he.symm
     simp -dsimp only [SE,astep,seval]
     refine Dm rfl ?_
     exact DR.ret ⟨_,by simp [aresult,ares,Env.get] <;> rfl,_,rfl,rfl⟩
   rw [if_neg h12]
   have c1:abin .eql (.int .i64 a.k) (.int .i64 1)=some (.bool false):=eqlF (by omega)
   have c2:abin .eql (.int .i64 a.k) (.int .i64 2)=some (.bool false):=eqlF (by omega)
   refine Dg rfl ?_
   simp -dsimp only [SE,astep,seval,c1]
   refine Dn rfl rfl ?_
   refine Dg rfl ?_
   simp -dsimp only [SE,astep,seval,c2]
   refine Dn rfl rfl ?_
   by_cases h3:a.k=3
   ·have c3:=eqlT h3
    rw [if_pos h3]
    refine Dg rfl ?_
    simp -dsimp only [SE,astep,seval,c3]
    refine Dy rfl rfl ?_
    refine Dg rfl ?_
    simp -dsimp only [SE,astep,seval,a3,b3]
    refine (g91 a.s b.s H2).mono ?_
    rintro r H' ⟨rfl,he⟩
    obtain rfl:=he.symm
    simp -dsimp only [SE,astep,seval]
    refine Dm rfl ?_
    exact DR.ret ⟨_,by simp [aresult,ares,Env.get] <;> rfl,_,rfl,rfl⟩
   have c3:=eqlF h3
   rw [if_neg h3]
   refine Dg rfl ?_
   simp -dsimp only [SE,astep,seval,c3]
   refine Dn rfl rfl ?_
   by_cases h46:a.k=4∨a.k=6
   ·rw [if_pos h46]
    rcases h46 with h4 | h6
    ·have c4:=eqlT h4
     refine Dg rfl ?_
     simp -dsimp only [SE,astep,seval,c4]
     refine Dy rfl rfl ?_
     refine Dy rfl rfl ?_
     refine Dg rfl ?_
     simp -dsimp only [SE,astep,seval,a1,b1]
     refine (g89 a.n b.n H2).mono ?_
     rintro r H' ⟨rfl,he⟩
     obtain rfl:=he.symm
     simp -dsimp only [SE,astep,seval]
     refine Dm rfl ?_
     exact DR.ret ⟨_,by simp [aresult,ares,Env.get] <;> rfl,_,rfl,rfl⟩
    ·have c4:abin .eql (.int .i64 a.k) (.int .i64 4)=some (.bool false):=eqlF (by omega)
     have c6:=eqlT h6
     refine Dg rfl ?_
     simp -dsimp only [SE,astep,seval,c4]
     refine Dn rfl rfl ?_
     refine Dg rfl ?_
     simp -dsimp only [SE,astep,seval,c6]
     refine Dy rfl rfl ?_
     refine Dg rfl ?_
     simp -dsimp only [SE,astep,seval,a1,b1]
     refine (g89 a.n b.n H2).mono ?_
     rintro r H' ⟨rfl,he⟩
     obtain rfl:=he.symm
     simp -dsimp only [SE,astep,seval]
     refine Dm rfl ?_
     exact DR.ret ⟨_,by simp [aresult,ares,Env.get] <;> rfl,_,rfl,rfl⟩
   rw [if_neg h46]
   have c4:abin .eql (.int .i64 a.k) (.int .i64 4)=some (.bool false):=eqlF (by omega)
   have c6:abin .eql (.int .i64 a.k) (.int .i64 6)=some (.bool false):=eqlF (by omega)
   refine Dg rfl ?_
   simp -dsimp only [SE,astep,seval,c4]
   refine Dn rfl rfl ?_
   refine Dg rfl ?_
   simp -dsimp only [SE,astep,seval,c6]
   refine Dn rfl rfl ?_
   by_cases h5:a.k=5
   ·have c5:=eqlT h5
    rw [if_pos h5]
    refine Dg rfl ?_
    simp -dsimp only [SE,astep,seval,c5]
    refine Dy rfl rfl ?_
    refine Dg rfl ?_
    simp -dsimp only [SE,astep,seval,a1,b1]
    refine (g89 a.n b.n H2).mono ?_
    rintro r H' ⟨rfl,he⟩
    obtain rfl:=he.symm
    simp -dsimp only [SE,astep,seval]
    by_cases h0:ordI a.n b.n=0
    ·have d:=neqF h0
     rw [if_neg (by omega)]
     refine Dg rfl ?_
     simp -dsimp only [SE,astep,seval,d]
     refine Dn rfl rfl ?_
     refine Dg rfl ?_
     simp -dsimp only [SE,astep,seval,a4,b4]
     refine (g92 oa ob ih' H2).mono ?_
     rintro r H' ⟨rfl,he⟩
     obtain rfl:=he.symm
     simp -dsimp only [SE,astep,seval]
     refine Dm rfl ?_
     exact DR.ret ⟨_,by simp [aresult,ares,Env.get] <;> rfl,_,rfl,rfl⟩
    ·have d:=neqT h0
     rw [if_pos h0]
     refine Dg rfl ?_
     simp -dsimp only [SE,astep,seval,d]
     refine Dy rfl rfl ?_
     refine Dg rfl ?_
     simp -dsimp only [SE,astep,seval]
     refine Dm rfl ?_
     exact DR.ret ⟨_,by simp [aresult,ares,Env.get] <;> rfl,_,rfl,rfl⟩
   rw [if_neg h5]
   have c5:=eqlF h5
   refine Dg rfl ?_
   simp -dsimp only [SE,astep,seval,c5]
   refine Dn rfl rfl ?_
   by_cases h7:a.k=7
   ·have c7:=eqlT h7
    rw [if_pos h7]
    refine Dg rfl ?_
    simp -dsimp only [SE,astep,seval,c7]
    refine Dy rfl rfl ?_
    refine Dg rfl ?_
    simp -dsimp only [SE,astep,seval,a4,b4,hla,hlb]
    refine (g89 (a.l.length:Nat) (b.l.length:Nat) H2).mono ?_
    rintro r H' ⟨rfl,he⟩
    obtain rfl:=he.symm
    simp -dsimp only [SE,astep,seval]
    by_cases h0:ordI (a.l.length:Nat) (b.l.length:Nat)=0
    ·have d:=neqF h0
     rw [if_neg (by omega)]
     refine Dg rfl ?_
     simp -dsimp only [SE,astep,seval,d]
     refine Dn rfl rfl ?_
     refine Dg rfl ?_
     simp -dsimp only [SE,astep,seval,a4,b4]
     refine (g92 oa ob ih' H2).mono ?_
     rintro r H' ⟨rfl,he⟩
     obtain rfl:=he.symm
     simp -dsimp only [SE,astep,seval]
     refine Dm rfl ?_
     exact DR.ret ⟨_,by simp [aresult,ares,Env.get] <;> rfl,_,rfl,rfl⟩
    ·have d:=neqT h0
     rw [if_pos h0]
     refine Dg rfl ?_
     simp -dsimp only [SE,astep,seval,d]
     refine Dy rfl rfl ?_
     refine Dg rfl ?_
     simp -dsimp only [SE,astep,seval]
     refine Dm rfl ?_
     exact DR.ret ⟨_,by simp [aresult,ares,Env.get] <;> rfl,_,rfl,rfl⟩
   rw [if_neg h7]
   have c7:=eqlF h7
   refine Dg rfl ?_
   simp -dsimp only [SE,astep,seval,c7]
   refine Dn rfl rfl ?_
   refine Dg rfl ?_
   simp -dsimp only [SE,astep,seval,a4,b4]
   refine (g92 oa ob ih' H2).mono ?_
   rintro r H' ⟨rfl,he⟩
   obtain rfl:=he.symm
   simp -dsimp only [SE,astep,seval]
   refine Dm rfl ?_
   exact DR.ret ⟨_,by simp [aresult,ares,Env.get] <;> rfl,_,rfl,rfl⟩
  ·have c:=neqT hr
   rw [if_pos hr]
   refine Dg rfl ?_
   simp -dsimp only [SE,astep,seval,c]
   refine Dy rfl rfl ?_
   refine Dg rfl ?_
   simp -dsimp only [SE,astep,seval]
   refine (g89 (rank a.k - rank b.k) 0 H2).mono ?_
   rintro r H' ⟨rfl,he⟩
   obtain rfl:=he.symm
   simp -dsimp only [SE,astep,seval]
   refine Dm rfl ?_
   exact DR.ret ⟨_,by simp [aresult,ares,Env.get] <;> rfl,_,rfl,rfl⟩
 exact (DCall.ints (TM.pures22 a b) h H).mono fun r H' ⟨⟨n,h1,h3⟩,h2⟩=>⟨by rw [h1,h3],h2⟩
theorem g54 {a b:TM} (oa:a.ok) (ob:b.ok) (ra:right a) (rb:right b) (H:AHeap):DCall Tryz.prog 71 [a.agg,b.agg] H fun r H'=>r = .int .i64 0∧H'=H:=by
 have h:DCall Tryz.prog 71 [a.agg,b.agg] AHeap.empty fun r H'=>∃ n,r = .int .i64 n∧n=0:=by
  obtain ⟨H1,hH1,g1,n1,f1⟩:=psh AHeap.empty (.cells 27 (TM.c5 a))
  obtain ⟨H2,hH2,g2,n2,f2⟩:=psh H1 (.cells 27 (TM.c5 b))
  have a2:=(f2 _ (by omega)).trans g1
  have la:=load_all (n:=5) a2 rfl
  have lb:=load_all (n:=5) g2 rfl
  refine DCall.of_body (fn:=Tryz.f71) (by kernel_rfl) c71 (by kernel_rfl) (by simp [f71]) ?_
  unfold f71
  simp only []
  refine Dg rfl ?_
  simp -dsimp only [SE,astep,seval,← hH1,← hH2]
  refine Dg rfl ?_
  simp -dsimp only [SE,astep,seval,la]
  refine (g87x a oa ra H2).mono ?_
  rintro r H' ⟨rfl,he⟩
  obtain rfl:=he.symm
  simp -dsimp only [SE,astep,seval]
  refine Dg rfl ?_
  simp -dsimp only [SE,astep,seval,neq_int]
  refine Dn rfl rfl ?_
  refine Dg rfl ?_
  simp -dsimp only [SE,astep,seval,lb]
  refine (g87x b ob rb H2).mono ?_
  rintro r H' ⟨rfl,he⟩
  obtain rfl:=he.symm
  simp -dsimp only [SE,astep,seval]
  refine Dm rfl ?_
  exact DR.ret ⟨_,by simp [aresult,ares,Env.get] <;> rfl,_,rfl,rfl⟩
 exact (DCall.ints (TM.pures22 a b) h H).mono fun r H' ⟨⟨n,h1,h3⟩,h2⟩=>⟨by rw [h1,h3],h2⟩
theorem g29 {a b:TM} (oa:a.ok) (ob:b.ok) (ra:right a) (rb:right b) (H:AHeap):DCall Tryz.prog 32 [a.agg,b.agg] H fun r H'=>r = .tup [.int .i64 (ord a b),.int .i64 0]∧H'=H:=by
 refine DCall.closed (sz:=szs) (TM.pures22 a b) (Q:=fun r _=>r = .tup [.int .i64 (ord a b),.int .i64 0]) (Q':=fun r=>r = .tup [.int .i64 (ord a b),.int .i64 0]) ?_ (fun r H1 e=>⟨5,r,by rw [e]; rfl,e⟩) H
 obtain ⟨H1,hH1,g1,n1,f1⟩:=psh AHeap.empty (.cells 27 (TM.c5 a))
 obtain ⟨H2,hH2,g2,n2,f2⟩:=psh H1 (.cells 27 (TM.c5 b))
 have a2:=(f2 _ (by omega)).trans g1
 have la:=load_all (n:=5) a2 rfl
 have lb:=load_all (n:=5) g2 rfl
 refine DCall.of_body (fn:=Tryz.f32) (by kernel_rfl) c32 (by kernel_rfl) (by simp [f32]) ?_
 unfold f32
 simp only []
 refine Dg rfl ?_
 simp -dsimp only [SE,astep,seval,← hH1,← hH2]
 refine Dg rfl ?_
 simp -dsimp only [SE,astep,seval,la,lb]
 refine (g54 oa ob ra rb H2).mono ?_
 rintro r H' ⟨rfl,he⟩
 obtain rfl:=he.symm
 simp -dsimp only [SE,astep,seval]
 refine Dg rfl ?_
 simp -dsimp only [SE,astep,seval,neq_int]
 refine Dn rfl rfl ?_
 refine Dg rfl ?_
 simp -dsimp only [SE,astep,seval,la,lb]
 refine (g55 a oa ra.2.2 b ob rb.2.2 H2).mono ?_
 rintro r H' ⟨rfl,he⟩
 obtain rfl:=he.symm
 simp -dsimp only [SE,astep,seval]
 refine Dm rfl ?_
 exact DR.ret ⟨_,by simp [aresult,ares,Env.get] <;> rfl,rfl⟩
end Go.Am.Rl
namespace Go.Am.Rl
open Go.Proofs
theorem e96 (f:Nat):runP 120 [.flt .f64 f,.int .i64 0] (fun r _=>isB r)=true:=by kernel_rfl
theorem g96 (f:Nat) (H:AHeap):DCall Tryz.prog 120 [.flt .f64 f,.int .i64 0] H fun r H'=>(∃ b,r = .bool b)∧H'=H:=by
 have h:DCall Tryz.prog 120 [.flt .f64 f,.int .i64 0] AHeap.empty fun r H'=>∃ b,r = .bool b∧True:=(runP_sound (e96 f)).mono fun r H' e=>by obtain ⟨n,hn⟩:=isB_ex e; exact ⟨n,hn,trivial⟩
 exact (DCall.bools rfl h H).mono fun r H' ⟨⟨n,h1,_⟩,h2⟩=>⟨⟨n,h1⟩,h2⟩
abbrev n3 (t:TM):List AVal:=[.int .i64 t.k,.int .i64 t.n,.int .u64 (t.f:Nat)]
abbrev z3:List AVal:=[.int .i64 0,.int .i64 0,.int .u64 0]
theorem g58 {t:TM} (ok:t.ok) (hf:fine t) (hk:t.k=1∨t.k=2) (H:AHeap):DCall Tryz.prog 75 [t.agg] H fun r H'=>(∃ b,r = .tup [.agg (n3 t),.bool b])∧H'=H:=by
 refine DCall.closed (sz:=szs) (TM.pures1 t) (Q:=fun r _=>∃ b,r = .tup [.agg (n3 t),.bool b]) (Q':=fun r=>∃ b,r = .tup [.agg (n3 t),.bool b]) ?_ (fun r H1 ⟨b,e⟩=>⟨5,r,by rw [e]; rfl,b,e⟩) H
 have hp:=((fine_eq t).mp hf).1
 have hz:z3=[.int .i64 0,.int .i64 0,.int .u64 0]:=rfl
 have hsl:t.s=⟨#[]⟩∧t.l=[]:=by
  rcases hp with ⟨h,h1,h2,_⟩ | ⟨h,h1,h2,_⟩ | ⟨h,_⟩ | ⟨h | h,_⟩ | ⟨h,_⟩ | ⟨h | h,_⟩ <;> first | exact ⟨h1,h2⟩ | omega
 obtain ⟨H1,hH1,g1,n1,f1⟩:=psh AHeap.empty (.cells 27 (TM.c5 t))
 obtain ⟨H2,hH2,g2,n2,f2⟩:=psh H1 (.cells 83 z3)
 obtain ⟨H3,hH3,g3,n3',f3⟩:=psh H2 (.cells 83 z3)
 have s4:=store_all (n:=3) g3 (new:=n3 t) rfl rfl rfl
 obtain ⟨H4,hH4,g4,n4,f4⟩:=upd g3 (.cells 83 (n3 t))
 have t2:=(f2 _ (by omega)).trans g1
 have t4:H4.get AHeap.empty.next=some (.cells 27 (TM.c5 t)):=by rw [f4 _ (by omega),f3 _ (by omega)]; exact t2
 have r4:H4.get H1.next=some (.cells 83 z3):=by rw [f4 _ (by omega),f3 _ (by omega)]; exact g2
 have k2:=load_cell t2 (o:=0) (v:=.int .i64 t.k) rfl
 have m2:=load_cell t2 (o:=1) (v:=.int .i64 t.n) rfl
 have q2:=load_cell t2 (o:=2) (v:=.flt .f64 t.f) rfl
 have t3:=(f3 _ (by omega)).trans t2
 have k3:=load_cell t3 (o:=0) (v:=.int .i64 t.k) rfl
 have m3:=load_cell t3 (o:=1) (v:=.int .i64 t.n) rfl
 have q3:=load_cell t3 (o:=2) (v:=.flt .f64 t.f) rfl
 have k4:=load_cell t4 (o:=0) (v:=.int .i64 t.k) rfl
 have m4:=load_cell t4 (o:=1) (v:=.int .i64 t.n) rfl
 have q4:=load_cell t4 (o:=2) (v:=.flt .f64 t.f) rfl
 have s4':=load_cell t4 (o:=3) (v:=.str ⟨#[]⟩) (by show some (AVal.str t.s)=_; rw [hsl.1])
 have l4:=load_cell t4 (o:=4) (v:=t.row) rfl
 have hl:alenT H4 1 t.row=some 0:=by have:=TM.lenT ok H4; rw [hsl.2] at this; exact this
 have u4:=load_cell g4 (o:=2) (v:=.int .u64 (t.f:Nat)) rfl
 have w4:=load_all (n:=3) g4 rfl
 have hx:aext 0 [.flt .f64 t.f]=some (.int .u64 (t.f:Nat)):=rfl
 have hfl:afill [.int .i64 0,.int .i64 0,.int .u64 0] [(0,1,.int .i64 t.k),(1,1,.int .i64 t.n),(2,1,.int .u64 (t.f:Nat))]=some (n3 t):=rfl
 have e0:=neq_str ⟨#[]⟩
 have s5:=store_all (n:=3) r4 (new:=n3 t) rfl rfl rfl
 obtain ⟨H5,hH5,g5,n5,f5⟩:=upd r4 (.cells 83 (n3 t))
 have l5:=load_all (n:=3) g5 rfl
 have t5:=(f5 _ (by omega)).trans t4
 have m5:=load_cell t5 (o:=1) (v:=.int .i64 t.n) rfl
 have q5:=load_cell t5 (o:=2) (v:=.flt .f64 t.f) rfl
 refine DCall.of_body (fn:=Tryz.f75) (by kernel_rfl) c75 (by kernel_rfl) (by simp [f75]) ?_
 unfold f75
 simp only []
 refine Dg rfl ?_
 simp -dsimp only [SE,astep,seval,← hH1,← hz,← hH2]
 refine Dm rfl ?_
 refine DR.draw (by kernel_rfl) d75_1 ?_
 simp -dsimp only [m75_1,SE,astep,seval,DS_nil,DS_cons,seesAll,staysAll,abit,List.getD_cons_zero,List.getD_cons_succ,AOp.quiet,AOp.reads,true_and,and_true,decide_true,decide_false,and_self,k2,m2,q2,k3,m3,q3,hx,Env.parts,hfl,← hz,← hH3,s4,← hH4]
 refine Dg rfl ?_
 simp -dsimp only [SE,astep,seval,s4',e0,l4,hl]
 refine Dn rfl rfl ?_
 refine Dg rfl ?_
 simp -dsimp only [SE,astep,seval,k4]
 rcases hk with h1 | h2
 ·have hn:(-576460752303423488≤t.n∧t.n≤576460752303423487)∧t.f=0:=by
   rcases hp with ⟨h,_,_,hn,hf⟩ | ⟨h,_⟩ | ⟨h,_⟩ | ⟨h | h,_⟩ | ⟨h,_⟩ | ⟨h | h,_⟩ <;> first | exact ⟨hn,hf⟩ | omega
  have c1:=eqlT h1
  have c2:abin .eql (.int .u64 (t.f:Nat)) (.int .u64 0)=some (.bool true):=by rw [hn.2]; rfl
  have c3:abin .geq (.int .i64 t.n) (.int .i64 (-576460752303423488))=some (.bool true):=by simp [abin]; omega
  have c4:abin .leq (.int .i64 t.n) (.int .i64 576460752303423487)=some (.bool true):=by simp [abin]; omega
  refine Dg rfl ?_
  simp -dsimp only [SE,astep,seval,c1]
  refine Dy rfl rfl ?_
  refine Dm rfl ?_
  refine DR.draw (by kernel_rfl) d75_6 ?_
  simp -dsimp only [m75_6,SE,astep,seval,DS_nil,DS_cons,seesAll,staysAll,abit,List.getD_cons_zero,List.getD_cons_succ,AOp.quiet,AOp.reads,true_and,and_true,decide_true,decide_false,and_self,w4,u4,c2,m4,m5,c3,c4,s5,← hH5]
  refine Dm rfl ?_
  exact DR.ret ⟨.tup [.agg (n3 t),.bool true],by simp [aresult,ares,Env.get,l5],_,rfl⟩
 ·have hn:t.n=0∧fin64 t.f=true:=by
   rcases hp with ⟨h,_⟩ | ⟨h,_,_,hn,hf⟩ | ⟨h,_⟩ | ⟨h | h,_⟩ | ⟨h,_⟩ | ⟨h | h,_⟩ <;> first | exact ⟨hn,hf⟩ | omega
  have c1:abin .eql (.int .i64 t.k) (.int .i64 1)=some (.bool false):=eqlF (by omega)
  have c2:=eqlT h2
  have c3:=eqlT hn.1
  refine Dg rfl ?_
  simp -dsimp only [SE,astep,seval,c1]
  refine Dn rfl rfl ?_
  refine Dg rfl ?_
  simp -dsimp only [SE,astep,seval,c2]
  refine Dy rfl rfl ?_
  refine Dm rfl ?_
  refine DR.draw (by kernel_rfl) d75_8 ?_
  simp -dsimp only [m75_8,SE,astep,seval,DS_nil,DS_cons,seesAll,staysAll,abit,List.getD_cons_zero,List.getD_cons_succ,AOp.quiet,AOp.reads,true_and,and_true,decide_true,decide_false,and_self,w4,m4,c3,q4]
  refine (g95 hn.2 H4).mono ?_
  rintro r H' ⟨rfl,he⟩
  obtain rfl:=he.symm
  simp -dsimp only [SE,astep,seval,DS_nil,DS_cons,seesAll,staysAll,abit,List.getD_cons_zero,List.getD_cons_succ,AOp.quiet,AOp.reads,true_and,and_true,decide_true,decide_false,and_self,w4,m4,c3,q4,Bool.not_false]
  refine (g96 t.f H4).mono ?_
  rintro r H' ⟨⟨z,rfl⟩,he⟩
  obtain rfl:=he.symm
  simp -dsimp only [SE,astep,seval,DS_nil,DS_cons,seesAll,staysAll,abit,List.getD_cons_zero,List.getD_cons_succ,AOp.quiet,AOp.reads,true_and,and_true,decide_true,decide_false,and_self,w4,m4,c3,q4,q5,Bool.not_false,s5,← hH5]
  refine Dm rfl ?_
  exact DR.ret ⟨.tup [.agg (n3 t),.bool (!z)],by simp [aresult,ares,Env.get,l5],_,rfl⟩
theorem aeqs3 (a b c a' b':Int) (d d':Nat):aeqs [1,1,1] [.int .i64 a,.int .i64 b,.int .u64 (d:Nat)] [.int .i64 a',.int .i64 b',.int .u64 (d':Nat)]=some (a==a'&&(b==b'&&d==d')):=by
 have hd:(((d:Nat):Int)==((d':Nat):Int))=(d==d'):=by
  by_cases h:d=d'
  ·subst h; simp
  ·have:¬ ((d:Int)=(d':Int)):=by omega
   rw [beq_false_of_ne this,beq_false_of_ne h]
 simp only [aeqs,hd]
 cases a==a' <;> cases b==b' <;> cases d==d' <;> rfl
theorem g93 {a b:TM} (oa:a.ok) (ob:b.ok) (fa:fine a) (fb:fine b) (ka:a.k=1∨a.k=2) (kb:b.k=1∨b.k=2) (H:AHeap):DCall Tryz.prog 117 [a.agg,b.agg] H fun r H'=>r = .bool (a.k==b.k&&(a.n==b.n&&a.f==b.f))∧H'=H:=by
 have h:DCall Tryz.prog 117 [a.agg,b.agg] AHeap.empty fun r H'=>∃ z,r = .bool z∧z=(a.k==b.k&&(a.n==b.n&&a.f==b.f)):=by
  have hz:z3=[.int .i64 0,.int .i64 0,.int .u64 0]:=rfl
  obtain ⟨H1,hH1,g1,n1,f1⟩:=psh AHeap.empty (.cells 27 (TM.c5 a))
  obtain ⟨H2,hH2,g2,n2,f2⟩:=psh H1 (.cells 27 (TM.c5 b))
  have la:=load_all (n:=5) ((f2 _ (by omega)).trans g1) rfl
  obtain ⟨H3,hH3,g3,n3',f3⟩:=psh H2 (.cells 83 z3)
  have s3:=store_all (n:=3) g3 (new:=n3 a) rfl rfl rfl
  obtain ⟨H4,hH4,g4,n4,f4⟩:=upd g3 (.cells 83 (n3 a))
  have b4:H4.get H1.next=some (.cells 27 (TM.c5 b)):=by rw [f4 _ (by omega),f3 _ (by omega)]; exact g2
  have lb:=load_all (n:=5) b4 rfl
  obtain ⟨H5,hH5,g5,n5,f5⟩:=psh H4 (.cells 83 z3)
  have s5:=store_all (n:=3) g5 (new:=n3 b) rfl rfl rfl
  obtain ⟨H6,hH6,g6,n6,f6⟩:=upd g5 (.cells 83 (n3 b))
  have a6:H6.get H2.next=some (.cells 83 (n3 a)):=by rw [f6 _ (by omega),f5 _ (by omega)]; exact g4
  have x6:=load_all (n:=3) a6 rfl
  have y6:=load_all (n:=3) g6 rfl
  refine DCall.of_body (fn:=Tryz.f117) (by kernel_rfl) c117 (by kernel_rfl) (by simp [f117]) ?_
  unfold f117
  simp only []
  refine Dg rfl ?_
  simp -dsimp only [SE,astep,seval,← hH1,← hH2]
  refine Dg rfl ?_
  simp -dsimp only [SE,astep,seval,la]
  refine (g58 oa fa ka H2).mono ?_
  rintro r H' ⟨⟨z,rfl⟩,he⟩
  obtain rfl:=he.symm
  have iy0:([.agg (n3 a),.bool z]:List AVal)[0]? = some (.agg (n3 a)):=rfl
  have iy1:([.agg (n3 a),.bool z]:List AVal)[1]? = some (.bool z):=rfl
  simp -dsimp only [SE,astep,seval,iy0,iy1,← hz,← hH3,s3,← hH4]
  refine Dg rfl ?_
  simp -dsimp only [SE,astep,seval,lb]
  refine (g58 ob fb kb H4).mono ?_
  rintro r H' ⟨⟨z',rfl⟩,he⟩
  obtain rfl:=he.symm
  have jy0:([.agg (n3 b),.bool z']:List AVal)[0]? = some (.agg (n3 b)):=rfl
  have jy1:([.agg (n3 b),.bool z']:List AVal)[1]? = some (.bool z'):=rfl
  simp -dsimp only [SE,astep,seval,jy0,jy1,← hz,← hH5,s5,← hH6]
  refine Dg rfl ?_
  simp -dsimp only [SE,astep,seval,x6,y6,aeqs3 a.k a.n 0 b.k b.n a.f b.f]
  refine Dm rfl ?_
  exact DR.ret ⟨_,by simp [aresult,ares,Env.get] <;> rfl,_,rfl,rfl⟩
 exact (DCall.bools (TM.pures22 a b) h H).mono fun r H' ⟨⟨n,h1,h3⟩,h2⟩=>⟨by rw [h1,h3],h2⟩
section
variable {u v:TM} {k k':List AItem} {Q:Env→AHeap→Prop}
theorem loop94 (ou:u.ok) (ov:v.ok) (hlen:u.l.length=v.l.length) (ih:∀ x ∈ u.l,∀ y ∈ v.l,∀ H,DCall Tryz.prog 74 [x.agg,y.agg] H fun r H'=>r = .bool (samev x y)∧H'=H) (hk:aexitTo 0 k=some k')
  (hend:∀ H,samevs u.l v.l=true→DR Tryz.prog (kof k118) 32 k' [] H Q)
  (hret:∀ T H,T.get 6=some (.bool false)→samevs u.l v.l=false→Q T H) :
  ∀ (e i:Nat) (H:AHeap),i+e=u.l.length→samevs u.l v.l=samevs (u.l.drop i) (v.l.drop i)→DR Tryz.prog (kof k118) 32 (.code l118_0::.inLoop l118_0::k) [(1,v.row),(2,.fn (.func 74) [] []),(15,u.row),(16,.int .i64 (u.l.length:Nat)),(17,.int .i64 (i:Nat))] H Q:=by
 intro e
 induction e with
 | zero=>
  intro i H hi heq
  have hc:abin .lss (.int .i64 (i:Nat)) (.int .i64 (u.l.length:Nat))=some (.bool false):=by simp [abin]; omega
  refine Dg rfl ?_
  simp -dsimp only [SE,astep,seval,hc]
  refine Dn rfl rfl ?_
  refine Dm rfl ?_
  refine DR.exit hk ?_
  rw [List.drop_eq_nil_of_le (by omega),List.drop_eq_nil_of_le (by omega)] at heq
  exact DR.only [] (hend H heq)
 | succ e ih2=>
  intro i H hi heq
  have hc:abin .lss (.int .i64 (i:Nat)) (.int .i64 (u.l.length:Nat))=some (.bool true):=by simp [abin]; omega
  have hlt:i < u.l.length:=by omega
  have hx:u.l[i]? = some u.l[i]:=List.getElem?_eq_getElem hlt
  have ra:=TM.row_at ou hx H
  have la:=TM.load u.l[i] (TM.flat (u.l.drop (i+1))) H
  have hle:=TM.len_le ou
  have hadd:abin .add (.int .i64 (i:Nat)) (.int .i64 1)=some (.int .i64 ((i+1:Nat):Int)):=add_nat (b:=1) (by omega)
  obtain ⟨H1,hH1,g1,n1,f1⟩:=psh H (.cells 27 [.int .i64 0,.int .i64 0,.flt .f64 0,.str ⟨#[]⟩,.nils])
  have st:astore H1 5 (.ptr H.next 0) (AVal.agg (TM.c5 u.l[i]))=some (H1.set H.next (.cells 27 (TM.c5 u.l[i]))):=store_all (n:=5) (new:=TM.c5 u.l[i]) g1 rfl (TM.ones5 _) rfl
  obtain ⟨H2,hH2,g2,n2,f2⟩:=upd g1 (.cells 27 (TM.c5 u.l[i]))
  have hdu:u.l.drop i=u.l[i]::u.l.drop (i+1):=List.drop_eq_getElem_cons hlt
  have hv:i < v.l.length:=by omega
  have hy:v.l[i]? = some v.l[i]:=List.getElem?_eq_getElem hv
  have rb:=TM.row_at ov hy H2
  have lb:=TM.load v.l[i] (TM.flat (v.l.drop (i+1))) H2
  obtain ⟨H3,hH3,g3,n3,f3⟩:=psh H2 (.cells 27 [.int .i64 0,.int .i64 0,.flt .f64 0,.str ⟨#[]⟩,.nils])
  have st3:astore H3 5 (.ptr H2.next 0) (AVal.agg (TM.c5 v.l[i]))=some (H3.set H2.next (.cells 27 (TM.c5 v.l[i]))):=store_all (n:=5) (new:=TM.c5 v.l[i]) g3 rfl (TM.ones5 _) rfl
  obtain ⟨H4,hH4,g4,n4,f4⟩:=upd g3 (.cells 27 (TM.c5 v.l[i]))
  have x4:H4.get H.next=some (.cells 27 (TM.c5 u.l[i])):=by rw [f4 _ (by omega),f3 _ (by omega)]; exact g2
  have lx:=load_all (n:=5) x4 rfl
  have ly:=load_all (n:=5) g4 rfl
  have hdv:v.l.drop i=v.l[i]::v.l.drop (i+1):=List.drop_eq_getElem_cons hv
  rw [hdu,hdv,samevs] at heq
  refine Dg rfl ?_
  simp -dsimp only [SE,astep,seval,hc]
  refine Dy rfl rfl ?_
  refine Dg rfl ?_
  simp -dsimp only [SE,astep,seval,ra,la,← hH1,st,← hH2]
  refine Dg rfl ?_
  simp -dsimp only [SE,astep,seval,rb,lb,← hH3,st3,← hH4]
  refine Dg rfl ?_
  simp -dsimp only [SE,astep,seval,lx,ly,List.append_nil,List.nil_append]
  refine (ih _ (List.getElem_mem hlt) _ (List.getElem_mem hv) H4).mono ?_
  rintro r H' ⟨rfl,he⟩
  obtain rfl:=he.symm
  cases hs:samev u.l[i] v.l[i] with
  | true=>
   rw [hs,Bool.true_and] at heq
   simp -dsimp only [SE,astep,seval,Bool.not_true]
   refine Dn rfl rfl ?_
   refine Dg rfl ?_
   simp -dsimp only [SE,astep,seval,hadd]
   refine Dm rfl ?_
   refine DR.inLoop ?_
   exact ih2 (i+1) H4 (by omega) heq
  | false=>
   rw [hs,Bool.false_and] at heq
   simp -dsimp only [SE,astep,seval,Bool.not_false]
   refine Dy rfl rfl ?_
   refine Dg rfl ?_
   simp -dsimp only [SE,astep,seval]
   refine Dm rfl ?_
   exact DR.ret (hret _ _ rfl heq)
end
theorem samevs_ne:∀ {l m:List TM},l.length≠m.length→samevs l m=false
 | l,m,h=>by
  cases hs:samevs l m with
  | false=>rfl
  | true=>exact absurd (samevs_len hs) h
theorem g94 {u v:TM} (ou:u.ok) (ov:v.ok) (ih:∀ x ∈ u.l,∀ y ∈ v.l,∀ H,DCall Tryz.prog 74 [x.agg,y.agg] H fun r H'=>r = .bool (samev x y)∧H'=H) (H:AHeap) :
  DCall Tryz.prog 118 [u.row,v.row,.fn (.func 74) [] []] H fun r H'=>∃ z,r = .bool z∧z=samevs u.l v.l:=by
 have hlu:=TM.lenT ou H
 have hlv:=TM.lenT ov H
 refine DCall.of_body (fn:=Tryz.f118) (by kernel_rfl) c118 (by kernel_rfl) (by simp [f118]) ?_
 unfold f118
 simp only []
 refine Dg rfl ?_
 simp -dsimp only [SE,astep,seval]
 by_cases h:u.l.length=v.l.length
 ·have c:abin .neq (.int .i64 (u.l.length:Nat)) (.int .i64 (v.l.length:Nat))=some (.bool false):=neqF (by omega)
  refine Dg rfl ?_
  simp -dsimp only [SE,astep,seval,hlu,hlv,c]
  refine Dn rfl rfl ?_
  refine Dg rfl ?_
  simp -dsimp only [SE,astep,seval,hlu]
  refine Dm rfl ?_
  refine DR.loop ?_
  refine loop94 ou ov h ih rfl (fun H8 heq=> ?_) (fun T H8 hT hs=>⟨.bool false,by simp [aresult,ares,hT],_,rfl,hs.symm⟩) u.l.length 0 H (by omega) (by simp)
  refine Dg rfl ?_
  simp -dsimp only [SE,astep,seval]
  refine Dm rfl ?_
  exact DR.ret ⟨_,by simp [aresult,ares,Env.get] <;> rfl,_,rfl,heq.symm⟩
 ·have c:abin .neq (.int .i64 (u.l.length:Nat)) (.int .i64 (v.l.length:Nat))=some (.bool true):=neqT (by omega)
  refine Dg rfl ?_
  simp -dsimp only [SE,astep,seval,hlu,hlv,c]
  refine Dy rfl rfl ?_
  refine Dg rfl ?_
  simp -dsimp only [SE,astep,seval]
  refine Dm rfl ?_
  exact DR.ret ⟨_,by simp [aresult,ares,Env.get] <;> rfl,_,rfl,(samevs_ne h).symm⟩
theorem DCall.boolsF {u v:TM} {f g:FuncId} {p:Bool} (h:∀ H,DCall Tryz.prog f [u.row,v.row,.fn (.func g) [] []] H fun r H'=>∃ z,r = .bool z∧z=p) (H:AHeap):DCall Tryz.prog f [u.row,v.row,.fn (.func g) [] []] H fun r H'=>r = .bool p∧H'=H:=by
 have hp:AVal.pures [u.row,v.row,.fn (.func g) [] []]=true:=by
  have h1:=TM.purer (u:=u)
  have h2:=TM.purer (u:=v)
  simp only [AVal.pures,Bool.and_true] at h1 h2 ⊢
  rw [h1,h2]; rfl
 exact (DCall.bools hp (h AHeap.empty) H).mono fun r H' ⟨⟨n,h1,h3⟩,h2⟩=>⟨by rw [h1,h3],h2⟩
theorem g57:∀ a:TM,a.ok→fine a→∀ b:TM,b.ok→fine b→∀ H:AHeap,DCall Tryz.prog 74 [a.agg,b.agg] H fun r H'=>r = .bool (samev a b)∧H'=H:=by
 refine TM.all fun a ih oa fa b ob fb H=> ?_
 have ih':∀ x ∈ a.l,∀ y ∈ b.l,∀ H,DCall Tryz.prog 74 [x.agg,y.agg] H fun r H'=>r = .bool (samev x y)∧H'=H:=fun x hx y hy H=>
  ih x hx (TM.oks_mem (TM.ok_oks oa) x hx) (fines_iff.mp ((fine_eq a).mp fa).2 x hx) y (TM.oks_mem (TM.ok_oks ob) y hy) (fines_iff.mp ((fine_eq b).mp fb).2 y hy) H
 have h:DCall Tryz.prog 74 [a.agg,b.agg] AHeap.empty fun r H'=>∃ n,r = .bool n∧n=samev a b:=by
  obtain ⟨H1,hH1,g1,n1,f1⟩:=psh AHeap.empty (.cells 27 (TM.c5 a))
  obtain ⟨H2,hH2,g2,n2,f2⟩:=psh H1 (.cells 27 (TM.c5 b))
  have a2:=(f2 _ (by omega)).trans g1
  have la:=load_all (n:=5) a2 rfl
  have lb:=load_all (n:=5) g2 rfl
  have a0:=load_cell a2 (o:=0) (v:=.int .i64 a.k) rfl
  have a1:=load_cell a2 (o:=1) (v:=.int .i64 a.n) rfl
  have a3:=load_cell a2 (o:=3) (v:=.str a.s) rfl
  have a4:=load_cell a2 (o:=4) (v:=a.row) rfl
  have b0:=load_cell g2 (o:=0) (v:=.int .i64 b.k) rfl
  have b1:=load_cell g2 (o:=1) (v:=.int .i64 b.n) rfl
  have b3:=load_cell g2 (o:=3) (v:=.str b.s) rfl
  have b4:=load_cell g2 (o:=4) (v:=b.row) rfl
  rw [samev_eq]
  refine DCall.of_body (fn:=Tryz.f74) (by kernel_rfl) c74 (by kernel_rfl) (by simp [f74]) ?_
  unfold f74
  simp only []
  refine Dg rfl ?_
  simp -dsimp only [SE,astep,seval,← hH1,← hH2]
  by_cases hk:a.k=b.k
  ·have c:=neqF hk
   have hkb:(a.k==b.k)=true:=by simp [hk]
   rw [hkb,Bool.true_and]
   refine Dg rfl ?_
   simp -dsimp only [SE,astep,seval,a0,b0,c]
   refine Dn rfl rfl ?_
   refine Dg rfl ?_
   simp -dsimp only [SE,astep,seval,a0]
   by_cases h12:a.k=1∨a.k=2
   ·rw [if_pos h12]
    rcases h12 with h1 | h2
    ·have c1:=eqlT h1
     refine Dg rfl ?_
     simp -dsimp only [SE,astep,seval,c1]
     refine Dy rfl rfl ?_
     refine Dy rfl rfl ?_
     refine Dg rfl ?_
     simp -dsimp only [SE,astep,seval,la,lb]
     refine (g93 oa ob fa fb (.inl h1) (.inl (by omega)) H2).mono ?_
     rintro r H' ⟨rfl,he⟩
     obtain rfl:=he.symm
     simp -dsimp only [SE,astep,seval]
     refine Dm rfl ?_
     exact DR.ret ⟨_,by simp [aresult,ares,Env.get] <;> rfl,_,rfl,by rw [hkb,Bool.true_and]⟩
    ·have c1:abin .eql (.int .i64 a.k) (.int .i64 1)=some (.bool false):=eqlF (by omega)
     have c2:=eqlT h2
     refine Dg rfl ?_
     simp -dsimp only [SE,astep,seval,c1]
     refine Dn rfl rfl ?_
     refine Dg rfl ?_
     simp -dsimp only [SE,astep,seval,c2]
     refine Dy rfl rfl ?_
     refine Dg rfl ?_
     simp -dsimp only [SE,astep,seval,la,lb]
     refine (g93 oa ob fa fb (.inr h2) (.inr (by omega)) H2).mono ?_
     rintro r H' ⟨rfl,he⟩
     obtain rfl:=he.symm
     simp -dsimp only [SE,astep,seval]
     refine Dm rfl ?_
     exact DR.ret ⟨_,by simp [aresult,ares,Env.get] <;> rfl,_,rfl,by rw [hkb,Bool.true_and]⟩
   rw [if_neg h12]
   have c1:abin .eql (.int .i64 a.k) (.int .i64 1)=some (.bool false):=eqlF (by omega)
   have c2:abin .eql (.int .i64 a.k) (.int .i64 2)=some (.bool false):=eqlF (by omega)
   refine Dg rfl ?_
   simp -dsimp only [SE,astep,seval,c1]
   refine Dn rfl rfl ?_
   refine Dg rfl ?_
   simp -dsimp only [SE,astep,seval,c2]
   refine Dn rfl rfl ?_
   by_cases hn:a.n=b.n
   ·have d1:=eqlT hn
    have hnb:(a.n==b.n)=true:=by simp [hn]
    rw [hnb,Bool.true_and]
    have d2:abin .eql (.str a.s) (.str b.s)=some (.bool (a.s.toList==b.s.toList)):=rfl
    cases hs:(a.s.toList==b.s.toList) with
    | true=>
     rw [hs] at d2
     refine Dg rfl ?_
     simp -dsimp only [SE,astep,seval,a1,b1,d1,a3,b3,d2,a4,b4,List.append_nil,List.nil_append]
     refine (DCall.boolsF (fun H=>g94 oa ob ih' H) H2).mono ?_
     rintro r H' ⟨rfl,he⟩
     obtain rfl:=he.symm
     simp -dsimp only [SE,astep,seval]
     refine Dm rfl ?_
     exact DR.ret ⟨_,by simp [aresult,ares,Env.get] <;> rfl,_,rfl,by rw [Bool.true_and]⟩
    | false=>
     rw [hs] at d2
     refine Dg rfl ?_
     simp -dsimp only [SE,astep,seval,a1,b1,d1,a3,b3,d2]
     refine Dm rfl ?_
     exact DR.ret ⟨_,by simp [aresult,ares,Env.get] <;> rfl,_,rfl,rfl⟩
   ·have d1:=eqlF hn
    have hnb:(a.n==b.n)=false:=by simp [hn]
    rw [hnb,Bool.false_and]
    refine Dg rfl ?_
    simp -dsimp only [SE,astep,seval,a1,b1,d1]
    refine Dm rfl ?_
    exact DR.ret ⟨_,by simp [aresult,ares,Env.get] <;> rfl,_,rfl,rfl⟩
  ·have c:=neqT hk
   have hkb:(a.k==b.k)=false:=by simp [hk]
   rw [hkb,Bool.false_and]
   refine Dg rfl ?_
   simp -dsimp only [SE,astep,seval,a0,b0,c]
   refine Dy rfl rfl ?_
   refine Dg rfl ?_
   simp -dsimp only [SE,astep,seval]
   refine Dm rfl ?_
   exact DR.ret ⟨_,by simp [aresult,ares,Env.get] <;> rfl,_,rfl,rfl⟩
 exact (DCall.bools (TM.pures22 a b) h H).mono fun r H' ⟨⟨n,h1,h3⟩,h2⟩=>⟨by rw [h1,h3],h2⟩
theorem g33 {a b:TM} (oa:a.ok) (ob:b.ok) (ra:right a) (rb:right b) (H:AHeap):DCall Tryz.prog 36 [a.agg,b.agg] H fun r H'=>r = .tup [.bool (samev a b),.int .i64 0]∧H'=H:=by
 refine DCall.closed (sz:=szs) (TM.pures22 a b) (Q:=fun r _=>r = .tup [.bool (samev a b),.int .i64 0]) (Q':=fun r=>r = .tup [.bool (samev a b),.int .i64 0]) ?_ (fun r H1 e=>⟨5,r,by rw [e]; rfl,e⟩) H
 obtain ⟨H1,hH1,g1,n1,f1⟩:=psh AHeap.empty (.cells 27 (TM.c5 a))
 obtain ⟨H2,hH2,g2,n2,f2⟩:=psh H1 (.cells 27 (TM.c5 b))
 have a2:=(f2 _ (by omega)).trans g1
 have la:=load_all (n:=5) a2 rfl
 have lb:=load_all (n:=5) g2 rfl
 refine DCall.of_body (fn:=Tryz.f36) (by kernel_rfl) c36 (by kernel_rfl) (by simp [f36]) ?_
 unfold f36
 simp only []
 refine Dg rfl ?_
 simp -dsimp only [SE,astep,seval,← hH1,← hH2]
 refine Dg rfl ?_
 simp -dsimp only [SE,astep,seval,la,lb]
 refine (g54 oa ob ra rb H2).mono ?_
 rintro r H' ⟨rfl,he⟩
 obtain rfl:=he.symm
 simp -dsimp only [SE,astep,seval]
 refine Dg rfl ?_
 simp -dsimp only [SE,astep,seval,neq_int]
 refine Dn rfl rfl ?_
 refine Dg rfl ?_
 simp -dsimp only [SE,astep,seval,la,lb]
 refine (g57 a oa ra.2.2 b ob rb.2.2 H2).mono ?_
 rintro r H' ⟨rfl,he⟩
 obtain rfl:=he.symm
 simp -dsimp only [SE,astep,seval]
 refine Dm rfl ?_
 exact DR.ret ⟨_,by simp [aresult,ares,Env.get] <;> rfl,rfl⟩
end Go.Am.Rl
namespace Go.Am.Rl
open Go.Proofs
theorem word_zero:FloatKind.f64.format.word false 0=0:=by decide
theorem fin_of {f:Nat} (h:f % 9223372036854775808 < 9218868437227405312):fin64 f=true:=by
 obtain ⟨m,j,hr,_,_⟩:=read_num h
 generalize (f / 9223372036854775808 % 2==1)=s at hr
 have hs:FloatKind.f64.format.sub f f=some 0:=by
  unfold Ieee.Format.sub
  rw [hr]
  simp only [Ieee.Datum.opposite,Ieee.Datum.sum,Option.map_some,Int.min_self,Int.sub_self]
  have ht:Ieee.signed s m (0:Int).toNat+Ieee.signed (!s) m (0:Int).toNat=0:=by
   cases s <;> simp [Ieee.signed] <;> omega
  rw [ht]
  simp only [if_true,Int.natAbs_zero]
  have hss:(s&& !s)=false:=by cases s <;> rfl
  rw [hss]
  show some (FloatKind.f64.format.nearest false 0 _)=some 0
  unfold Ieee.Format.nearest
  rw [if_pos rfl,word_zero]
 unfold fin64
 rw [hs]
 decide
theorem nan_neq {f:Nat} (h:9218868437227405312 < f % 9223372036854775808):abin .neq (.flt .f64 f) (.flt .f64 f)=some (.bool true):=by
 have:FloatKind.f64.format.order f f=none:=by
  unfold Ieee.Format.order Ieee.Format.read
  simp only [f64s,f64b,f64i]
  rw [if_neg (by omega),if_neg (by omega),if_neg (by omega)]
  rfl
 simp [abin,this]
theorem inf_neq {f:Nat} (h:f % 9223372036854775808=9218868437227405312):abin .neq (.flt .f64 f) (.flt .f64 f)=some (.bool false):=by
 have:FloatKind.f64.format.order f f=some .eq:=by
  unfold Ieee.Format.order Ieee.Format.read
  simp only [f64s,f64b,f64i]
  rw [if_neg (by omega),if_neg (by omega),if_pos h]
  cases (f / 9223372036854775808 % 2==1) <;> rfl
 simp [abin,this]
theorem inf_gtr {f:Nat} (hf:f < 18446744073709551616) (h:f % 9223372036854775808=9218868437227405312):abin .gtr (absv f) (.flt .f64 9218868437227405311)=some (.bool true):=by
 rw [abs_val hf,h]
 have:(FloatKind.f64.format.order 9218868437227405312 9218868437227405311==some .gt)=true:=by decide
 show some (AVal.bool (FloatKind.f64.format.order 9218868437227405312 9218868437227405311==some .gt))=_
 rw [this]
theorem fin_gtr {f:Nat} (hf:f < 18446744073709551616) (h:fin64 f=true):abin .gtr (absv f) (.flt .f64 9218868437227405311)=some (.bool false):=gtr_fin h hf
theorem word_lt (s:Bool) {r:Nat} (h:r≤9218868437227405312):FloatKind.f64.format.word s r < 18446744073709551616:=by
 unfold Ieee.Format.word
 rw [f64s]
 cases s
 ·simp; omega
 ·simp; omega
theorem nearest_lt (s:Bool) (m:Nat) (i:Int):FloatKind.f64.format.nearest s m i < 18446744073709551616:=by
 unfold Ieee.Format.nearest
 by_cases h:m=0
 ·rw [if_pos h]; exact word_lt s (by omega)
 ·rw [if_neg h]
  simp only []
  rw [f64i]
  exact word_lt s (Nat.min_le_right _ _)
theorem write_lt {d:Ieee.Datum} (h:∀ s t,d≠.nan s t):FloatKind.f64.format.write d < 18446744073709551616:=by
 cases d with
 | number s m i=>exact nearest_lt s m i
 | infinity s=>exact word_lt s (by rw [f64i]; omega)
 | nan s t=>exact absurd rfl (h s t)
theorem g147 (f:Nat) (H:AHeap):DCall Tryz.prog 162 [.flt .f64 f] H fun r H'=>r=absv f∧H'=H:=by
 refine DCall.of_body (fn:=Tryz.f162) (by kernel_rfl) c162 (by kernel_rfl) (by simp [f162]) ?_
 unfold f162
 simp only []
 refine Dg rfl ?_
 simp -dsimp only [SE,astep,seval]
 refine Dg rfl ?_
 simp -dsimp only [SE,astep,seval]
 refine Dm rfl ?_
 exact DR.ret ⟨_,by simp [aresult,ares,Env.get] <;> rfl,rfl,rfl⟩
theorem g107x {f:Nat} {b:Bool} (h:abin .gtr (absv f) (.flt .f64 9218868437227405311)=some (.bool b)) (H:AHeap):DCall Tryz.prog 120 [.flt .f64 f,.int .i64 0] H fun r H'=>r = .bool b∧H'=H:=by
 refine DCall.of_body (fn:=Tryz.f120) (by kernel_rfl) c120 (by kernel_rfl) (by simp [f120]) ?_
 unfold f120
 simp only []
 refine Dg rfl ?_
 simp -dsimp only [SE,astep,seval]
 refine Dg rfl ?_
 simp -dsimp only [SE,astep,seval]
 refine Dy rfl rfl ?_
 refine Dg rfl ?_
 simp -dsimp only [SE,astep,seval]
 refine (g147 f H).mono ?_
 rintro r H' ⟨rfl,he⟩
 obtain rfl:=he.symm
 simp -dsimp only [SE,astep,seval]
 refine Dg rfl ?_
 simp -dsimp only [SE,astep,seval,h]
 refine Dm rfl ?_
 exact DR.ret ⟨_,by simp [aresult,ares,Env.get] <;> rfl,rfl,rfl⟩
theorem g102x {v:AVal} {b:Bool} (h:abin .neq v v=some (.bool b)) (H:AHeap):DCall Tryz.prog 119 [v] H fun r H'=>r = .bool b∧H'=H:=by
 refine DCall.of_body (fn:=Tryz.f119) (by kernel_rfl) c119 (by kernel_rfl) (by simp [f119]) ?_
 unfold f119
 simp only []
 refine Dg rfl ?_
 simp -dsimp only [SE,astep,seval]
 refine Dg rfl ?_
 simp -dsimp only [SE,astep,seval,h]
 refine Dm rfl ?_
 exact DR.ret ⟨_,by simp [aresult,ares,Env.get] <;> rfl,rfl,rfl⟩
end Go.Am.Rl
namespace Go.Am.Rl
open Go.Proofs
abbrev Res:=Option TM × Int
abbrev cel (p:Res):List AVal:=match p.1 with
 | some y=>TM.c5 y
 | none=>z25
theorem cel_len (p:Res):(cel p).length=5:=by unfold cel; split <;> rfl
theorem cel_ones (p:Res):ones (cel p)=true:=by
 unfold cel
 split
 ·exact TM.ones5 _
 ·rfl
theorem cel_pures (p:Res):AVal.pures (cel p)=true:=by
 unfold cel
 split
 ·rename_i y _
  have:=TM.pures1 y
  simp only [AVal.pures,AVal.pure,Bool.and_true] at this ⊢
  exact this
 ·rfl
abbrev NR (p:Res):AVal:=.tup [.agg (cel p),.int .i64 p.2]
theorem NR_pure (p:Res):(NR p).pure=true:=by
 have:=cel_pures p
 simp only [AVal.pures,AVal.pure,Bool.and_true] at this ⊢
 exact this
theorem NR_closed {f:FuncId} {args:List AVal} {p:Res} (hp:AVal.pures args=true) (h:DCall Tryz.prog f args AHeap.empty fun r _=>r=NR p) (H:AHeap):DCall Tryz.prog f args H fun r H'=>r=NR p∧H'=H:=
 DCall.closed (sz:=szs) hp (Q:=fun r _=>r=NR p) h (fun r H1 hr=>⟨SizeOf.sizeOf r+1,r,freeze_pure _ _ (by omega) (by rw [hr]; exact NR_pure p),hr⟩) H
abbrev flt2 (f:Nat):TM:=.mk 2 0 f ⟨#[]⟩ true []
abbrev int1 (n:Int):TM:=.mk 1 n 0 ⟨#[]⟩ true []
def intR (n:Int):Res:=if n < -576460752303423488∨576460752303423487 < n then (none,12) else (some (int1 n),0)
def flV:AVal→Option Nat
 | .flt .f64 f=>if fin64 f=true then some f else none
 | _=>none
def fltR (v:AVal):Res:=match flV v with
 | some f=>(some (flt2 f),0)
 | none=>(none,11)
theorem g79 (n:Int) (H:AHeap):DCall Tryz.prog 83 [.int .i64 n] H fun r H'=>r=NR (intR n)∧H'=H:=by
 refine NR_closed rfl ?_ H
 have hz:z25=[.int .i64 0,.int .i64 0,.flt .f64 0,.str ⟨#[]⟩,.nils]:=rfl
 obtain ⟨H1,hH1,g1,n1,f1⟩:=psh AHeap.empty (.cells 27 z25)
 refine DCall.of_body (fn:=Tryz.f83) (by kernel_rfl) c83 (by kernel_rfl) (by simp [f83]) ?_
 unfold f83
 simp only []
 refine Dg rfl ?_
 simp -dsimp only [SE,astep,seval,← hz,← hH1]
 by_cases h1:n < -576460752303423488
 ·have c1:abin .lss (.int .i64 n) (.int .i64 (-576460752303423488))=some (.bool true):=by simp [abin]; omega
  refine Dg rfl ?_
  simp -dsimp only [SE,astep,seval,c1]
  refine Dy rfl rfl ?_
  have s1:=store_all (n:=5) g1 (new:=z25) rfl rfl rfl
  obtain ⟨H9,hH9,g9,n9,f9⟩:=upd g1 (.cells 27 z25)
  have l9:=load_all (n:=5) g9 rfl
  refine Dg rfl ?_
  simp -dsimp only [SE,astep,seval,Env.parts,afill,← hz,s1,← hH9]
  refine Dm rfl ?_
  exact DR.ret ⟨NR (none,12),by simp [aresult,ares,Env.get,l9],by unfold intR; rw [if_pos (.inl h1)]⟩
 have c1:abin .lss (.int .i64 n) (.int .i64 (-576460752303423488))=some (.bool false):=by simp [abin]; omega
 by_cases h2:576460752303423487 < n
 ·have c2:abin .gtr (.int .i64 n) (.int .i64 576460752303423487)=some (.bool true):=by simp [abin]; omega
  refine Dg rfl ?_
  simp -dsimp only [SE,astep,seval,c1,c2]
  refine Dy rfl rfl ?_
  have s1:=store_all (n:=5) g1 (new:=z25) rfl rfl rfl
  obtain ⟨H9,hH9,g9,n9,f9⟩:=upd g1 (.cells 27 z25)
  have l9:=load_all (n:=5) g9 rfl
  refine Dg rfl ?_
  simp -dsimp only [SE,astep,seval,Env.parts,afill,← hz,s1,← hH9]
  refine Dm rfl ?_
  exact DR.ret ⟨NR (none,12),by simp [aresult,ares,Env.get,l9],by unfold intR; rw [if_pos (.inr h2)]⟩
 have c2:abin .gtr (.int .i64 n) (.int .i64 576460752303423487)=some (.bool false):=by simp [abin]; omega
 have s1:=store_all (n:=5) g1 (new:=TM.c5 (int1 n)) rfl (TM.ones5 _) rfl
 obtain ⟨H9,hH9,g9,n9,f9⟩:=upd g1 (.cells 27 (TM.c5 (int1 n)))
 have l9:=load_all (n:=5) g9 rfl
 have hfl:afill z25 [(0,1,.int .i64 1),(1,1,.int .i64 n)]=some (TM.c5 (int1 n)):=rfl
 refine Dg rfl ?_
 simp -dsimp only [SE,astep,seval,c1,c2]
 refine Dn rfl rfl ?_
 refine Dg rfl ?_
 simp -dsimp only [SE,astep,seval,Env.parts,← hz,hfl,s1,← hH9]
 refine Dm rfl ?_
 exact DR.ret ⟨NR (some (int1 n),0),by simp [aresult,ares,Env.get,l9],by unfold intR; rw [if_neg (by omega)]⟩
theorem g80 {v:AVal} (hv:v = .nan .f64∨∃ f,v = .flt .f64 f∧f < 18446744073709551616) (H:AHeap):DCall Tryz.prog 84 [v] H fun r H'=>r=NR (fltR v)∧H'=H:=by
 have hp:AVal.pures [v]=true:=by rcases hv with rfl | ⟨f,rfl,_⟩ <;> rfl
 refine NR_closed hp ?_ H
 have hz:z25=[.int .i64 0,.int .i64 0,.flt .f64 0,.str ⟨#[]⟩,.nils]:=rfl
 obtain ⟨H1,hH1,g1,n1,f1⟩:=psh AHeap.empty (.cells 27 z25)
 refine DCall.of_body (fn:=Tryz.f84) (by kernel_rfl) c84 (by kernel_rfl) (by simp [f84]) ?_
 unfold f84
 simp only []
 refine Dg rfl ?_
 simp -dsimp only [SE,astep,seval,← hz,← hH1]
 by_cases hfin:∃ f,v = .flt .f64 f∧fin64 f=true
 ·obtain ⟨f,rfl,hf⟩:=hfin
  have hlt:f < 18446744073709551616:=by
   rcases hv with h | ⟨f',h,hl⟩
   ·cases h
   ·injection h with _ h; rw [h]; exact hl
  have s1:=store_all (n:=5) g1 (new:=TM.c5 (flt2 f)) rfl (TM.ones5 _) rfl
  obtain ⟨H9,hH9,g9,n9,f9⟩:=upd g1 (.cells 27 (TM.c5 (flt2 f)))
  have l9:=load_all (n:=5) g9 rfl
  have hfl:afill z25 [(0,1,.int .i64 2),(2,1,.flt .f64 f)]=some (TM.c5 (flt2 f)):=rfl
  refine Dg rfl ?_
  simp -dsimp only [SE,astep,seval]
  refine (g102x (neq_fin hf) H1).mono ?_
  rintro r H' ⟨rfl,he⟩
  obtain rfl:=he.symm
  simp -dsimp only [SE,astep,seval]
  refine (g107x (fin_gtr hlt hf) H1).mono ?_
  rintro r H' ⟨rfl,he⟩
  obtain rfl:=he.symm
  simp -dsimp only [SE,astep,seval]
  refine Dn rfl rfl ?_
  refine Dg rfl ?_
  simp -dsimp only [SE,astep,seval,Env.parts,← hz,hfl,s1,← hH9]
  refine Dm rfl ?_
  exact DR.ret ⟨NR (some (flt2 f),0),by simp [aresult,ares,Env.get,l9],by unfold fltR flV; simp only [hf,if_true]⟩
 ·have he:fltR v=(none,11):=by
   unfold fltR
   have:flV v=none:=by
    rcases hv with rfl | ⟨f,rfl,_⟩
    ·rfl
    ·show (if fin64 f=true then some f else none)=none
     rw [if_neg (fun h=>hfin ⟨f,rfl,h⟩)]
   rw [this]
  rw [he]
  have hbad:abin .neq v v=some (.bool true)∨(abin .neq v v=some (.bool false)∧∃ f,v = .flt .f64 f∧abin .gtr (absv f) (.flt .f64 9218868437227405311)=some (.bool true)):=by
   rcases hv with rfl | ⟨f,rfl,hlt⟩
   ·exact .inl rfl
   ·have hn:¬ f % 9223372036854775808 < 9218868437227405312:=fun h=>hfin ⟨f,rfl,fin_of h⟩
    by_cases hi:f % 9223372036854775808=9218868437227405312
    ·exact .inr ⟨inf_neq hi,f,rfl,inf_gtr hlt hi⟩
    ·exact .inl (nan_neq (by omega))
  rcases hbad with hb | ⟨hb,f,rfl,hg⟩
  ·refine Dg rfl ?_
   simp -dsimp only [SE,astep,seval]
   refine (g102x hb H1).mono ?_
   rintro r H' ⟨rfl,he⟩
   obtain rfl:=he.symm
   simp -dsimp only [SE,astep,seval]
   refine Dy rfl rfl ?_
   have s1:=store_all (n:=5) g1 (new:=z25) rfl rfl rfl
   obtain ⟨H9,hH9,g9,n9,f9⟩:=upd g1 (.cells 27 z25)
   have l9:=load_all (n:=5) g9 rfl
   refine Dg rfl ?_
   simp -dsimp only [SE,astep,seval,Env.parts,afill,← hz,s1,← hH9]
   refine Dm rfl ?_
   exact DR.ret ⟨NR (none,11),by simp [aresult,ares,Env.get,l9],rfl⟩
  ·refine Dg rfl ?_
   simp -dsimp only [SE,astep,seval]
   refine (g102x hb H1).mono ?_
   rintro r H' ⟨rfl,he⟩
   obtain rfl:=he.symm
   simp -dsimp only [SE,astep,seval]
   refine (g107x hg H1).mono ?_
   rintro r H' ⟨rfl,he⟩
   obtain rfl:=he.symm
   simp -dsimp only [SE,astep,seval]
   refine Dy rfl rfl ?_
   have s1:=store_all (n:=5) g1 (new:=z25) rfl rfl rfl
   obtain ⟨H9,hH9,g9,n9,f9⟩:=upd g1 (.cells 27 z25)
   have l9:=load_all (n:=5) g9 rfl
   refine Dg rfl ?_
   simp -dsimp only [SE,astep,seval,Env.parts,afill,← hz,s1,← hH9]
   refine Dm rfl ?_
   exact DR.ret ⟨NR (none,11),by simp [aresult,ares,Env.get,l9],rfl⟩
abbrev u64 (n:Nat):AVal:=.int .u64 (n:Nat)
theorem wrapu {n:Nat}:IntKind.u64.wrap (n:Int)=((n % 18446744073709551616:Nat):Int):=by
 simp only [IntKind.wrap,IntKind.bits,IntKind.signed]
 simp
theorem and32 (n:Nat):abin .and (u64 n) (.int .u64 4294967295)=some (u64 (n % 4294967296)):=by
 have e:(BitVec.ofInt 64 (n:Int) &&&BitVec.ofInt 64 4294967295).toNat=n % 4294967296:=by
  rw [show (BitVec.ofInt 64 4294967295:BitVec 64)=BitVec.ofNat 64 4294967295 by decide,BitVec.ofInt_natCast,BitVec.toNat_and,BitVec.toNat_ofNat,BitVec.toNat_ofNat]
  rw [show (4294967295 % 2 ^ 64:Nat)=2 ^ 32 - 1 by decide,Nat.and_two_pow_sub_one_eq_mod]
  omega
 show some (AVal.int .u64 (IntKind.u64.wrap ((BitVec.ofInt 64 (n:Int) &&&BitVec.ofInt 64 4294967295).toNat:Nat)))=_
 rw [e,wrapu]
 rw [show n % 4294967296 % 18446744073709551616=n % 4294967296 by omega]
theorem shr32 (n:Nat):abin .shr (u64 n) (.int .u64 32)=some (u64 (n / 4294967296)):=by
 show some (AVal.int .u64 ((n:Int).fdiv (2 ^ 32)))=_
 rw [Int.fdiv_eq_ediv_of_nonneg _ (by decide)]
 simp
theorem mulw (a b:Nat):abin .mul (u64 a) (u64 b)=some (u64 (a * b % 18446744073709551616)):=by
 show some (AVal.int .u64 (IntKind.u64.wrap ((a:Int) * (b:Int))))=_
 rw [show (a:Int) * (b:Int)=((a * b:Nat):Int) by simp,wrapu]
theorem mulu {a b:Nat} (h:a * b < 18446744073709551616):abin .mul (u64 a) (u64 b)=some (u64 (a * b)):=by
 rw [mulw,Nat.mod_eq_of_lt h]
theorem addu {a b:Nat} (h:a+b < 18446744073709551616):abin .add (u64 a) (u64 b)=some (u64 (a+b)):=by
 show some (AVal.int .u64 (IntKind.u64.wrap ((a:Int)+(b:Int))))=_
 rw [show (a:Int)+(b:Int)=((a+b:Nat):Int) by simp,wrapu,Nat.mod_eq_of_lt h]
theorem mul_split (x y:Nat):x * y=(x / 4294967296) * (y / 4294967296) * 18446744073709551616+((x / 4294967296) * (y % 4294967296)+(x % 4294967296) * (y / 4294967296)) * 4294967296+(x % 4294967296) * (y % 4294967296):=by
 conv=>lhs; rw [← Nat.div_add_mod x 4294967296,← Nat.div_add_mod y 4294967296]
 generalize x / 4294967296=a; generalize x % 4294967296=b; generalize y / 4294967296=c; generalize y % 4294967296=d
 rw [Nat.add_mul,Nat.mul_add,Nat.mul_add,show 4294967296 * a * (4294967296 * c)=a * c * 18446744073709551616 by rw [Nat.mul_mul_mul_comm,Nat.mul_comm]]
 rw [show 4294967296 * a * d=a * d * 4294967296 by rw [Nat.mul_assoc,Nat.mul_comm],show b * (4294967296 * c)=b * c * 4294967296 by rw [Nat.mul_left_comm,Nat.mul_comm]]
 omega
theorem mul_lt {a b n m:Nat} (ha:a≤n) (hb:b≤m):a * b≤n * m:=Nat.mul_le_mul ha hb
theorem g148 {x y:Nat} (hx:x < 18446744073709551616) (hy:y < 18446744073709551616) (H:AHeap):DCall Tryz.prog 163 [u64 x,u64 y] H fun r H'=>r = .tup [u64 (x * y / 18446744073709551616),u64 (x * y % 18446744073709551616)]∧H'=H:=by
 obtain ⟨x0,hx0⟩:∃ a,a=x % 4294967296:=⟨_,rfl⟩
 obtain ⟨x1,hx1⟩:∃ a,a=x / 4294967296:=⟨_,rfl⟩
 obtain ⟨y0,hy0⟩:∃ a,a=y % 4294967296:=⟨_,rfl⟩
 obtain ⟨y1,hy1⟩:∃ a,a=y / 4294967296:=⟨_,rfl⟩
 have b1:x0 * y0≤18446744065119617025:=mul_lt (n:=4294967295) (m:=4294967295) (by omega) (by omega)
 have b2:x1 * y0≤18446744065119617025:=mul_lt (n:=4294967295) (m:=4294967295) (by omega) (by omega)
 have b3:x0 * y1≤18446744065119617025:=mul_lt (n:=4294967295) (m:=4294967295) (by omega) (by omega)
 have b4:x1 * y1≤18446744065119617025:=mul_lt (n:=4294967295) (m:=4294967295) (by omega) (by omega)
 have sp:=mul_split x y
 rw [← hx0,← hx1,← hy0,← hy1] at sp
 have a1:=and32 x
 have a2:=shr32 x
 have a3:=and32 y
 have a4:=shr32 y
 rw [← hx0] at a1; rw [← hx1] at a2; rw [← hy0] at a3; rw [← hy1] at a4
 have m1:=mulu (a:=x0) (b:=y0) (by omega)
 have m2:=mulu (a:=x1) (b:=y0) (by omega)
 have m3:=mulu (a:=x0) (b:=y1) (by omega)
 have m4:=mulu (a:=x1) (b:=y1) (by omega)
 generalize x0 * y0=p at *
 generalize x1 * y0=q at *
 generalize x0 * y1=s at *
 generalize x1 * y1=t at *
 have w1:=shr32 p
 have w2:=addu (a:=q) (b:=p / 4294967296) (by omega)
 obtain ⟨w,hw⟩:∃ w,w=q+p / 4294967296:=⟨_,rfl⟩
 rw [← hw] at w2
 have w3:=and32 w
 have w4:=shr32 w
 have w5:=addu (a:=w % 4294967296) (b:=s) (by omega)
 obtain ⟨z,hzz⟩:∃ z,z=w % 4294967296+s:=⟨_,rfl⟩
 rw [← hzz] at w5
 have w6:=addu (a:=t) (b:=w / 4294967296) (by omega)
 have w7:=shr32 z
 have w8:=addu (a:=t+w / 4294967296) (b:=z / 4294967296) (by omega)
 have w9:=mulw x y
 have hi:t+w / 4294967296+z / 4294967296=x * y / 18446744073709551616:=by omega
 rw [hi] at w8
 refine DCall.of_body (fn:=Tryz.f163) (by kernel_rfl) c163 (by kernel_rfl) (by simp [f163]) ?_
 unfold f163
 simp only []
 refine Dg rfl ?_
 simp -dsimp only [SE,astep,seval]
 refine Dg rfl ?_
 simp -dsimp only [SE,astep,seval,a1]
 refine Dg rfl ?_
 simp -dsimp only [SE,astep,seval,a2]
 refine Dg rfl ?_
 simp -dsimp only [SE,astep,seval,a3]
 refine Dg rfl ?_
 simp -dsimp only [SE,astep,seval,a4]
 refine Dg rfl ?_
 simp -dsimp only [SE,astep,seval,m1]
 refine Dg rfl ?_
 simp -dsimp only [SE,astep,seval,m2,w1,w2]
 refine Dg rfl ?_
 simp -dsimp only [SE,astep,seval,w3]
 refine Dg rfl ?_
 simp -dsimp only [SE,astep,seval,w4]
 refine Dg rfl ?_
 simp -dsimp only [SE,astep,seval,m3,w5]
 refine Dg rfl ?_
 simp -dsimp only [SE,astep,seval,m4,w6,w7,w8]
 refine Dg rfl ?_
 simp -dsimp only [SE,astep,seval,w9]
 refine Dm rfl ?_
 exact DR.ret ⟨_,by simp [aresult,ares,Env.get] <;> rfl,rfl,rfl⟩
theorem g149 {n:Int} (h : -576460752303423488≤n∧n≤576460752303423488) (H:AHeap):DCall Tryz.prog 164 [.int .i64 n] H fun r H'=>r=u64 n.natAbs∧H'=H:=by
 by_cases hn:n < 0
 ·have c:abin .lss (.int .i64 n) (.int .i64 0)=some (.bool true):=by simp [abin,hn]
  have e:IntKind.u64.wrap (IntKind.i64.wrap (0 - n))=((n.natAbs:Nat):Int):=by
   rw [IntKind.wrap_i64,show (0 - n+9223372036854775808) % 18446744073709551616 - 9223372036854775808=((n.natAbs:Nat):Int) by omega,wrapu]
   omega
  refine DCall.of_body (fn:=Tryz.f164) (by kernel_rfl) c164 (by kernel_rfl) (by simp [f164]) ?_
  unfold f164
  simp only []
  refine Dg rfl ?_
  simp -dsimp only [SE,astep,seval]
  refine Dg rfl ?_
  simp -dsimp only [SE,astep,seval,c]
  refine Dy rfl rfl ?_
  refine Dg rfl ?_
  simp -dsimp only [SE,astep,seval]
  refine Dm rfl ?_
  exact DR.ret ⟨_,by simp [aresult,ares,Env.get] <;> rfl,by first | rw [e] | (simp only [Int.zero_sub] at e; rw [e]),rfl⟩
 ·have c:abin .lss (.int .i64 n) (.int .i64 0)=some (.bool false):=by simp [abin,hn]
  have e:IntKind.u64.wrap n=((n.natAbs:Nat):Int):=by
   rw [show n=((n.natAbs:Nat):Int) by omega,wrapu]
   omega
  refine DCall.of_body (fn:=Tryz.f164) (by kernel_rfl) c164 (by kernel_rfl) (by simp [f164]) ?_
  unfold f164
  simp only []
  refine Dg rfl ?_
  simp -dsimp only [SE,astep,seval]
  refine Dg rfl ?_
  simp -dsimp only [SE,astep,seval,c]
  refine Dn rfl rfl ?_
  refine Dg rfl ?_
  simp -dsimp only [SE,astep,seval]
  refine Dm rfl ?_
  exact DR.ret ⟨_,by simp [aresult,ares,Env.get] <;> rfl,by rw [e],rfl⟩
end Go.Am.Rl
namespace Go.Am.Rl
open Go.Proofs
abbrev atm (s:ByteArray):TM:=.mk 3 0 0 s true []
abbrev sTrue:ByteArray:=⟨#[116,114,117,101]⟩
abbrev sFalse:ByteArray:=⟨#[102,97,108,115,101]⟩
theorem truth_t:xclosed tab cmp90 100000 100 szs 33 [.bool true]=some (atm sTrue).agg:=by kernel_rfl
theorem truth_f:xclosed tab cmp90 100000 100 szs 33 [.bool false]=some (atm sFalse).agg:=by kernel_rfl
theorem g30 (b:Bool) (H:AHeap):DCall Tryz.prog 33 [.bool b] H fun r H'=>r=(atm (if b then sTrue else sFalse)).agg∧H'=H:=by
 cases b with
 | true=>exact (xclosed_sound mixed tab_ok cmp90_ok truth_t H).dcall
 | false=>exact (xclosed_sound mixed tab_ok cmp90_ok truth_f H).dcall
theorem atm_ok {s:ByteArray} (h:s.size≤reachBytes):(atm s).ok:=⟨by kernel_rfl,by kernel_rfl,by kernel_rfl,h,Nat.zero_le _,fun _=>rfl,trivial⟩
theorem neq_strs {s u:ByteArray}:abin .neq (.str s) (.str u)=some (.bool (decide (s≠u))):=by
 by_cases h:s=u
 ·subst h; rw [neq_str]; simp
 ·have:abin .neq (.str s) (.str u)=some (.bool (!(s.toList==u.toList))):=rfl
  rw [this]
  have hb:(s.toList==u.toList)=false:=by
   cases hb:(s.toList==u.toList) with
   | false=>rfl
   | true=>exact absurd (bytes_eq (by rw [beq_toListBytes]; exact hb)) h
  rw [hb]; simp [h]
theorem eql_strs {s u:ByteArray}:abin .eql (.str s) (.str u)=some (.bool (decide (s=u))):=by
 have:abin .eql (.str s) (.str u)=some (.bool (s.toList==u.toList)):=rfl
 rw [this]
 by_cases h:s=u
 ·subst h; simp
 ·have hb:(s.toList==u.toList)=false:=by
   cases hb:(s.toList==u.toList) with
   | false=>rfl
   | true=>exact absurd (bytes_eq (by rw [beq_toListBytes]; exact hb)) h
  rw [hb]; simp [h]
end Go.Am.Rl
