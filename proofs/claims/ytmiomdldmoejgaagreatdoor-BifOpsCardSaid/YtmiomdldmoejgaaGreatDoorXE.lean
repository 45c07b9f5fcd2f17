/- Parts: RB, NI, RC, RD, RE, RF. -/
import Derived.Test.YtmiomdldmoejgaaGreatDoorXD
import Derived.Test.YtmiomdldmoejgaaGreatDoorFnR
import Derived.Test.YtmiomdldmoejgaaGreatDoorXC
set_option linter.unusedVariables false
set_option linter.unusedSimpArgs false
set_option maxRecDepth 20000
namespace Go.Am.Rl
open Go.Proofs
theorem shrn {n i:Nat} (hi:i≤64):abin .shr (u64 n) (u64 i)=some (u64 (n / 2 ^ i)):=by
 have e:abin .shr (u64 n) (u64 i)=if ((i:Nat):Int) < 0 then none else some (AVal.int .u64 ((n:Int).fdiv (2 ^ (min ((i:Nat):Int).toNat 64)))):=rfl
 rw [e,if_neg (by omega),Int.toNat_natCast,Nat.min_eq_left hi,Int.fdiv_eq_ediv_of_nonneg _ (Int.pow_nonneg (by decide))]
 have:((2:Int) ^ i)=((2 ^ i:Nat):Int):=by simp
 rw [this,← Int.natCast_ediv]
theorem shln {n i:Nat} (hi:i≤64) (h:n * 2 ^ i < 18446744073709551616):abin .shl (u64 n) (u64 i)=some (u64 (n * 2 ^ i)):=by
 have e:abin .shl (u64 n) (u64 i)=if ((i:Nat):Int) < 0 then none else some (AVal.int .u64 (IntKind.u64.wrap ((n:Int) * 2 ^ (min ((i:Nat):Int).toNat 64)))):=rfl
 rw [e,if_neg (by omega),Int.toNat_natCast,Nat.min_eq_left hi]
 have:((n:Int) * 2 ^ i)=((n * 2 ^ i:Nat):Int):=by simp
 rw [this,wrapu,Nat.mod_eq_of_lt h]
theorem subu {a b:Nat} (h:b≤a) (ha:a < 18446744073709551616):abin .sub (u64 a) (u64 b)=some (u64 (a - b)):=by
 have e:abin .sub (u64 a) (u64 b)=some (AVal.int .u64 (IntKind.u64.wrap ((a:Int) - (b:Int)))):=rfl
 rw [e,show (a:Int) - (b:Int)=((a - b:Nat):Int) by omega,wrapu,Nat.mod_eq_of_lt (by omega)]
theorem wrapi {i:Nat} (h:i < 18446744073709551616):IntKind.u64.wrap (i:Int)=(i:Nat):=by rw [wrapu,Nat.mod_eq_of_lt h]
abbrev rest91:List AItem:=[.code (.region false r91_15 [3,5,9]),.code (.seq (.seq (.region false r91_16 [3,5,9,10]) (.block 2 (.loop l91_1))) (.seq (.seq (.region false r91_20 [9,75]) (.cond (.t 75) (.seq (.region false r91_21 [2]) .ret) .skip)) (.seq (.region false r91_22 [2]) .ret)))]
abbrev rest91a:ACode:=.seq (.block 0 (.loop l91_0)) (.seq (.region false r91_10 [3,4,5,6]) (.seq (.region false r91_11 [3,5,6,7]) (.seq (.region false r91_12 [3,5,6,7,8]) (.seq (.seq (.region false r91_13 [3,5,6,63]) (.cond (.t 63) (.region false r91_14 [3,5,6]) .skip)) (.seq (.region false r91_15 [3,5,9]) (.seq (.seq (.region false r91_16 [3,5,9,10]) (.block 2 (.loop l91_1))) (.seq (.seq (.region false r91_20 [9,75]) (.cond (.t 75) (.seq (.region false r91_21 [2]) .ret) .skip)) (.seq (.region false r91_22 [2]) .ret))))))))
section
variable {H:AHeap} {k k':List AItem} {Q:Env→AHeap→Prop} {u:Nat} {ng:Bool}
theorem loop91a (h1:9007199254740992≤u) (h2:u < 1152921504606846976) (hk:aexitTo 0 k=some k') (hend:DR Tryz.prog (kof k91) 79 k' [(3,.bool ng),(4,u64 u),(5,.int .i64 ((u.log2 - 52:Nat):Int))] H Q) :
  ∀ (e i:Nat),i+e=u.log2 - 52→DR Tryz.prog (kof k91) 79 (.code l91_0::.inLoop l91_0::k) [(3,.bool ng),(4,u64 u),(5,.int .i64 (i:Nat))] H Q:=by
 obtain ⟨b1,b2,b3,k1,k2⟩:=hand_bounds h1 h2
 intro e
 induction e with
 | zero=>
  intro i hi
  have hi:i=u.log2 - 52:=by omega
  subst hi
  have w:IntKind.u64.wrap ((u.log2 - 52:Nat):Int)=((u.log2 - 52:Nat):Nat):=wrapi (by omega)
  have s:=shrn (n:=u) (i:=u.log2 - 52) (by omega)
  have c:abin .geq (u64 (u / 2 ^ (u.log2 - 52))) (.int .u64 9007199254740992)=some (.bool false):=by
   show some (AVal.bool (decide (_≤_)))=_
   rw [decide_eq_false (by omega)]
  refine Dg rfl ?_
  simp -dsimp only [SE,astep,seval,w,s,c]
  refine Dn rfl rfl ?_
  refine Dm rfl ?_
  refine DR.exit hk ?_
  exact DR.only [3,4,5] hend
 | succ e ih=>
  intro i hi
  have w:IntKind.u64.wrap (i:Int)=(i:Nat):=wrapi (by omega)
  have s:=shrn (n:=u) (i:=i) (by omega)
  have hge:9007199254740992≤u / 2 ^ i:=by
   have hl:=Nat.log2_self_le (n:=u) (by omega)
   rw [Nat.le_div_iff_mul_le (Nat.two_pow_pos i)]
   refine Nat.le_trans ?_ hl
   rw [show 9007199254740992=2 ^ 53 by decide,← Nat.pow_add]
   exact Nat.pow_le_pow_right (by decide) (by omega)
  have c:abin .geq (u64 (u / 2 ^ i)) (.int .u64 9007199254740992)=some (.bool true):=by
   show some (AVal.bool (decide (_≤_)))=_
   rw [decide_eq_true (by omega)]
  have a:abin .add (.int .i64 (i:Nat)) (.int .i64 1)=some (.int .i64 ((i+1:Nat):Int)):=add_nat (b:=1) (by omega)
  refine Dg rfl ?_
  simp -dsimp only [SE,astep,seval,w,s,c]
  refine Dy rfl rfl ?_
  refine Dg rfl ?_
  simp -dsimp only [SE,astep,seval,a]
  refine Dm rfl ?_
  refine DR.inLoop ?_
  exact ih (i+1) (by omega)
theorem loop91b {f n:Nat} (hn:n≤100) (hm:∀ i,i < n→FloatKind.f64.format.mul (dbl f i) 4611686018427387904=some (dbl f (i+1))) (hk:aexitTo 2 k=some k') (hend:DR Tryz.prog (kof k91) 79 k' [(3,.bool ng),(9,.flt .f64 (dbl f n))] H Q) :
  ∀ (e i:Nat),i+e=n→DR Tryz.prog (kof k91) 79 (.code l91_1::.inLoop l91_1::k) [(3,.bool ng),(5,.int .i64 (n:Nat)),(9,.flt .f64 (dbl f i)),(10,.int .i64 (i:Nat))] H Q:=by
 intro e
 induction e with
 | zero=>
  intro i hi
  have hi:i=n:=by omega
  subst hi
  have c:abin .lss (.int .i64 (i:Nat)) (.int .i64 (i:Nat))=some (.bool false):=by simp [abin]
  refine Dg rfl ?_
  simp -dsimp only [SE,astep,seval,c]
  refine Dn rfl rfl ?_
  refine Dm rfl ?_
  refine DR.exit hk ?_
  exact DR.only [3,9] hend
 | succ e ih=>
  intro i hi
  have c:abin .lss (.int .i64 (i:Nat)) (.int .i64 (n:Nat))=some (.bool true):=by simp [abin]; omega
  have m:abin .mul (.flt .f64 (dbl f i)) (.flt .f64 4611686018427387904)=some (.flt .f64 (dbl f (i+1))):=by
   show some (flOr .f64 (FloatKind.f64.format.mul (dbl f i) 4611686018427387904))=_
   rw [hm i (by omega)]; rfl
  have a:abin .add (.int .i64 (i:Nat)) (.int .i64 1)=some (.int .i64 ((i+1:Nat):Int)):=add_nat (b:=1) (by omega)
  refine Dg rfl ?_
  simp -dsimp only [SE,astep,seval,c]
  refine Dy rfl rfl ?_
  refine Dg rfl ?_
  simp -dsimp only [SE,astep,seval,m]
  refine Dg rfl ?_
  simp -dsimp only [SE,astep,seval,a]
  refine Dm rfl ?_
  refine DR.inLoop ?_
  exact ih (i+1) (by omega)
theorem tail91 {T n:Nat} (hn:n≤100) {R:Nat} (hm:∀ i,i < n→FloatKind.f64.format.mul (dbl (FloatKind.f64.format.nearest false T 0) i) 4611686018427387904=some (dbl (FloatKind.f64.format.nearest false T 0) (i+1)))
  (hr:(ng=false→dbl (FloatKind.f64.format.nearest false T 0) n=R)∧(ng=true→FloatKind.f64.format.sub 0 (dbl (FloatKind.f64.format.nearest false T 0) n)=some R)) :
  DR Tryz.prog (kof k91) 79 rest91 [(3,.bool ng),(5,.int .i64 (n:Nat)),(6,u64 T)] H fun T' H'=>∃ r,aresult H' T' [.tmp 2]=some r∧r = .flt .f64 R:=by
 have hc:FloatKind.f64.nearest (T:Int)=FloatKind.f64.format.nearest false T 0:=by
  show FloatKind.f64.format.nearest (decide ((T:Int) < 0)) _ 0=_
  rw [decide_eq_false (by omega),Int.natAbs_natCast]
 obtain ⟨f,hf⟩:∃ f,f=FloatKind.f64.format.nearest false T 0:=⟨_,rfl⟩
 rw [← hf] at hm hr hc
 refine Dg rfl ?_
 simp -dsimp only [SE,astep,seval,hc]
 refine Dg rfl ?_
 simp -dsimp only [SE,astep,seval]
 refine Dm rfl ?_
 refine DR.loop ?_
 refine loop91b (f:=f) hn hm rfl ?_ n 0 (by omega)
 refine Dm rfl ?_
 cases ng with
 | false=>
  have h:=hr.1 rfl
  rw [h]
  refine Dg rfl ?_
  simp -dsimp only [SE,astep,seval]
  refine Dn rfl rfl ?_
  refine Dg rfl ?_
  simp -dsimp only [SE,astep,seval]
  refine Dm rfl ?_
  exact DR.ret ⟨_,by simp [aresult,ares,Env.get] <;> rfl,rfl⟩
 | true=>
  have s:abin .sub (.flt .f64 0) (.flt .f64 (dbl f n))=some (.flt .f64 R):=by
   show some (flOr .f64 (FloatKind.f64.format.sub 0 (dbl f n)))=_
   rw [hr.2 rfl]; rfl
  refine Dg rfl ?_
  simp -dsimp only [SE,astep,seval]
  refine Dy rfl rfl ?_
  refine Dg rfl ?_
  simp -dsimp only [SE,astep,seval,s]
  refine Dm rfl ?_
  exact DR.ret ⟨_,by simp [aresult,ares,Env.get] <;> rfl,rfl⟩
end
theorem go91 {n:Int} {u:Nat} {ng:Bool} (h1:9007199254740992≤u) (h2:u < 1152921504606846976) (hnf:nearf n=FloatKind.f64.format.nearest ng u 0):DR Tryz.prog (kof k91) 79 [.code (.region false r91_7 [3,4,5]),.code rest91a] [(3,.bool ng),(4,u64 u)] AHeap.empty fun T' H'=>∃ r,aresult H' T' [.tmp 2]=some r∧r = .flt .f64 (nearf n):=by
 obtain ⟨b1,b2,b3,k1,k2⟩:=hand_bounds h1 h2
 obtain ⟨t1,t2⟩:=topR_le h1 h2
 have fin:=tail91 (ng:=ng) (H:=AHeap.empty) (T:=topR u (u.log2 - 52)) (n:=u.log2 - 52) (R:=nearf n) (by omega) ?_ ?_
 rotate_left
 ·intro i hi
  rw [nearest_top false t1 t2]
  split
  ·exact dbl_mul false t1 (by omega) (by omega) (by omega)
  ·exact dbl_mul false (by omega) (by omega) (by omega) (by omega)
 ·obtain ⟨p1,p2⟩:=near_hand h1 h2
  rw [p1,hnf]
  constructor
  ·rintro rfl; rfl
  ·rintro rfl; exact p2
 obtain ⟨sh,hsh⟩:∃ sh,sh=u.log2 - 52:=⟨_,rfl⟩
 refine Dg rfl ?_
 simp -dsimp only [SE,astep,seval]
 refine Dm rfl ?_
 refine DR.loop ?_
 refine loop91a h1 h2 rfl ?_ (u.log2 - 52) 0 (by omega)
 rw [← hsh] at fin b1 b2 k1 k2 t1 t2 ⊢
 have w:IntKind.u64.wrap (sh:Int)=(sh:Nat):=wrapi (by omega)
 have s1:=shrn (n:=u) (i:=sh) (by omega)
 have hdm:=Nat.div_add_mod u (2 ^ sh)
 rw [Nat.mul_comm] at hdm
 have s2:=shln (n:=u / 2 ^ sh) (i:=sh) (by omega) (by omega)
 have s3:=subu (a:=u) (b:=u / 2 ^ sh * 2 ^ sh) (by omega) (by omega)
 rw [show u - u / 2 ^ sh * 2 ^ sh=u % 2 ^ sh by omega] at s3
 have hp:2 ^ sh≤2 ^ 7:=Nat.pow_le_pow_right (by decide) (by omega)
 have s4:abin .shl (.int .u64 1) (u64 sh)=some (u64 (2 ^ sh)):=by
  have:=shln (n:=1) (i:=sh) (by omega) (by omega)
  rw [Nat.one_mul] at this
  exact this
 have s5:abin .shr (u64 (2 ^ sh)) (.int .u64 1)=some (u64 (2 ^ (sh - 1))):=by
  have:=shrn (n:=2 ^ sh) (i:=1) (by omega)
  rw [show 2 ^ sh / 2 ^ 1=2 ^ (sh - 1) by
   obtain ⟨j,rfl⟩:∃ j,sh=j+1:=⟨sh - 1,by omega⟩
   rw [Nat.pow_succ,Nat.pow_one,Nat.mul_div_cancel _ (by decide)]; rfl] at this
  exact this
 refine Dm rfl ?_
 refine Dg rfl ?_
 simp -dsimp only [SE,astep,seval,w,s1]
 refine Dg rfl ?_
 simp -dsimp only [SE,astep,seval,w,s2,s3]
 refine Dg rfl ?_
 simp -dsimp only [SE,astep,seval,w,s4,s5]
 obtain ⟨top,htop⟩:∃ top,top=u / 2 ^ sh:=⟨_,rfl⟩
 obtain ⟨rest,hrest⟩:∃ rest,rest=u % 2 ^ sh:=⟨_,rfl⟩
 obtain ⟨half,hhalf⟩:∃ half,half=2 ^ (sh - 1):=⟨_,rfl⟩
 have htr:topR u sh=top+(if half < rest∨(rest=half∧top % 2=1) then 1 else 0):=by rw [htop,hrest,hhalf]; rfl
 rw [htr] at fin
 rw [← htop] at k1 k2
 rw [← htop,← hrest,← hhalf]
 have g1:abin .gtr (u64 rest) (u64 half)=some (.bool (decide (half < rest))):=by
  show some (AVal.bool (decide (((half:Nat):Int) < ((rest:Nat):Int))))=_
  congr 2
  exact decide_eq_decide.mpr (by omega)
 have g2:abin .eql (u64 rest) (u64 half)=some (.bool (decide (rest=half))):=by
  show some (AVal.bool (((rest:Nat):Int)==((half:Nat):Int)))=_
  rw [Bool.beq_eq_decide_eq]
  congr 2
  exact decide_eq_decide.mpr (by omega)
 have g3:abin .gtr (.int .i64 (sh:Nat)) (.int .i64 0)=some (.bool true):=by simp [abin]; omega
 have g4:abin .rem (u64 top) (.int .u64 2)=some (u64 (top % 2)):=by
  show some (AVal.int .u64 (Int.tmod (top:Int) 2))=_
  rw [Int.tmod_eq_emod_of_nonneg (by omega)]
  rfl
 have g5:abin .eql (u64 (top % 2)) (.int .u64 1)=some (.bool (decide (top % 2=1))):=by
  show some (AVal.bool (((top % 2:Nat):Int)==1))=_
  rw [Bool.beq_eq_decide_eq]
  congr 2
  exact decide_eq_decide.mpr (by omega)
 have a1:abin .add (u64 top) (.int .u64 1)=some (u64 (top+1)):=addu (a:=top) (b:=1) (by omega)
 by_cases c1:half < rest
 ·rw [decide_eq_true c1] at g1
  rw [if_pos (.inl c1)] at fin
  refine Dg rfl ?_
  simp -dsimp only [SE,astep,seval,g1,g2]
  refine Dy rfl rfl ?_
  refine Dg rfl ?_
  simp -dsimp only [SE,astep,seval,a1]
  refine Dm rfl ?_
  exact fin
 rw [decide_eq_false c1] at g1
 by_cases c2:rest=half
 ·rw [decide_eq_true c2] at g2
  by_cases c3:top % 2=1
  ·rw [decide_eq_true c3] at g5
   rw [if_pos (.inr ⟨c2,c3⟩)] at fin
   refine Dg rfl ?_
   simp -dsimp only [SE,astep,seval,g1,g2,g3,g4,g5]
   refine Dy rfl rfl ?_
   refine Dg rfl ?_
   simp -dsimp only [SE,astep,seval,a1]
   refine Dm rfl ?_
   exact fin
  ·rw [decide_eq_false c3] at g5
   rw [if_neg (by omega)] at fin
   refine Dg rfl ?_
   simp -dsimp only [SE,astep,seval,g1,g2,g3,g4,g5]
   refine Dn rfl rfl ?_
   refine Dm rfl ?_
   exact DR.only [3,5,6] fin
 ·rw [decide_eq_false c2] at g2
  rw [if_neg (by omega)] at fin
  refine Dg rfl ?_
  simp -dsimp only [SE,astep,seval,g1,g2,g3,g4,g5]
  refine Dn rfl rfl ?_
  refine Dm rfl ?_
  exact DR.only [3,5,6] fin
theorem r91 {n:Int} (hn:rng n) (H:AHeap):DCall Tryz.prog 91 [.int .i64 n] H fun r H'=>r = .flt .f64 (nearf n)∧H'=H:=by
 refine DCall.closed (sz:=szs) rfl (Q:=fun r _=>r = .flt .f64 (nearf n)) (Q':=fun r=>r = .flt .f64 (nearf n)) ?_ (fun r H1 e=>⟨1,r,by rw [e]; rfl,e⟩) H
 have hn':nearf n=FloatKind.f64.format.nearest (decide (n < 0)) n.natAbs 0:=rfl
 refine DCall.of_body (fn:=Tryz.f91) (by kernel_rfl) c91 (by kernel_rfl) (by simp [f91]) ?_
 unfold f91
 simp only []
 refine Dg rfl ?_
 simp -dsimp only [SE,astep,seval]
 have b1:abin .gtr (.int .i64 n) (.int .i64 (-9007199254740992))=some (.bool (decide (-9007199254740992 < n))):=rfl
 have b2:abin .lss (.int .i64 n) (.int .i64 9007199254740992)=some (.bool (decide (n < 9007199254740992))):=rfl
 by_cases hs : -9007199254740992 < n∧n < 9007199254740992
 ·rw [decide_eq_true hs.1] at b1
  rw [decide_eq_true hs.2] at b2
  refine Dg rfl ?_
  simp -dsimp only [SE,astep,seval,b1,b2]
  refine Dy rfl rfl ?_
  refine Dg rfl ?_
  simp -dsimp only [SE,astep,seval]
  refine Dm rfl ?_
  exact DR.ret ⟨_,by simp [aresult,ares,Env.get] <;> rfl,rfl⟩
 by_cases hneg:n < 0
 ·have b3:abin .lss (.int .i64 n) (.int .i64 0)=some (.bool true):=by simp [abin]; omega
  have w:IntKind.u64.wrap n=n+18446744073709551616:=by
   simp only [IntKind.wrap,IntKind.bits,IntKind.signed]
   simp
   omega
  have sb:abin .sub (.int .u64 0) (.int .u64 (n+18446744073709551616))=some (u64 n.natAbs):=by
   show some (AVal.int .u64 (IntKind.u64.wrap (0 - (n+18446744073709551616))))=_
   congr 2
   simp only [IntKind.wrap,IntKind.bits,IntKind.signed]
   simp
   omega
  have fin:=go91 (n:=n) (u:=n.natAbs) (ng:=true) (by omega) (by omega) (by rw [hn',decide_eq_true hneg])
  by_cases c0 : -9007199254740992 < n
  ·omega
  rw [decide_eq_false c0] at b1
  refine Dg rfl ?_
  simp -dsimp only [SE,astep,seval,b1,b2]
  refine Dn rfl rfl ?_
  refine Dg rfl ?_
  simp -dsimp only [SE,astep,seval,b3]
  refine Dg rfl ?_
  simp -dsimp only [SE,astep,seval,w]
  refine Dg rfl ?_
  simp -dsimp only [SE,astep,seval]
  refine Dy rfl rfl ?_
  refine Dg rfl ?_
  simp -dsimp only [SE,astep,seval,sb]
  refine Dm rfl ?_
  exact fin
 ·have b3:abin .lss (.int .i64 n) (.int .i64 0)=some (.bool false):=by simp [abin]; omega
  have w:IntKind.u64.wrap n=((n.natAbs:Nat):Int):=by
   simp only [IntKind.wrap,IntKind.bits,IntKind.signed]
   simp
   omega
  have fin:=go91 (n:=n) (u:=n.natAbs) (ng:=false) (by omega) (by omega) (by rw [hn',decide_eq_false hneg])
  rw [decide_eq_true (show -9007199254740992 < n by omega)] at b1
  rw [decide_eq_false (show ¬ n < 9007199254740992 by omega)] at b2
  refine Dg rfl ?_
  simp -dsimp only [SE,astep,seval,b1,b2]
  refine Dn rfl rfl ?_
  refine Dg rfl ?_
  simp -dsimp only [SE,astep,seval,b3]
  refine Dg rfl ?_
  simp -dsimp only [SE,astep,seval,w]
  refine Dg rfl ?_
  simp -dsimp only [SE,astep,seval]
  refine Dn rfl rfl ?_
  refine Dm rfl ?_
  exact DR.only [3,4] fin
theorem r60 {t:TM} (hr:rng t.n) (ok:t.ok) (hk:t.k=1∨t.k=2) (H:AHeap):DCall Tryz.prog 60 [t.agg] H fun r H'=>r = .flt .f64 (realv t.k t.n t.f)∧H'=H:=by
 refine DCall.closed (sz:=szs) (TM.pures1 t) (Q:=fun r _=>r = .flt .f64 (realv t.k t.n t.f)) (Q':=fun r=>r = .flt .f64 (realv t.k t.n t.f)) ?_ (fun r H1 e=>⟨1,r,by rw [e]; rfl,e⟩) H
 obtain ⟨H1,hH1,g1,n1,f1⟩:=psh AHeap.empty (.cells 27 (TM.c5 t))
 have k0:=load_cell g1 (o:=0) (v:=.int .i64 t.k) rfl
 have k1:=load_cell g1 (o:=1) (v:=.int .i64 t.n) rfl
 have k2:=load_cell g1 (o:=2) (v:=.flt .f64 t.f) rfl
 refine DCall.of_body (fn:=Tryz.f60) (by kernel_rfl) c60 (by kernel_rfl) (by simp [f60]) ?_
 unfold f60
 simp only []
 refine Dg rfl ?_
 simp -dsimp only [SE,astep,seval,← hH1]
 rcases hk with h | h
 ·have c:abin .eql (.int .i64 t.k) (.int .i64 2)=some (.bool false):=eqlF (by omega)
  refine Dg rfl ?_
  simp -dsimp only [SE,astep,seval,k0,c]
  refine Dn rfl rfl ?_
  refine Dg rfl ?_
  simp -dsimp only [SE,astep,seval,k1]
  refine (r91 hr H1).mono ?_
  rintro r H' ⟨rfl,he⟩
  obtain rfl:=he.symm
  simp -dsimp only [SE,astep,seval]
  refine Dm rfl ?_
  exact DR.ret ⟨_,by simp [aresult,ares,Env.get] <;> rfl,by unfold realv; rw [if_pos h]⟩
 ·have c:=eqlT h
  refine Dg rfl ?_
  simp -dsimp only [SE,astep,seval,k0,c]
  refine Dy rfl rfl ?_
  refine Dg rfl ?_
  simp -dsimp only [SE,astep,seval,k2]
  refine Dm rfl ?_
  exact DR.ret ⟨_,by simp [aresult,ares,Env.get] <;> rfl,by unfold realv; rw [if_neg (by omega)]⟩
end Go.Am.Rl
namespace Go.Am.Rl
theorem nearest_small (s:Bool) {q:Nat} (h0:0 < q) (hL:q.log2≤52):FloatKind.f64.format.nearest s q 0=Wd s q.log2 (q <<< (52 - q.log2)):=by
 unfold Ieee.Format.nearest
 rw [if_neg (by omega)]
 simp only [w64f,w64l,w64b,w64i]
 have hlast:max ((0:Int)+(q.log2:Int) - ((52:Nat):Int)) (-1074)=(q.log2:Int) - 52:=by omega
 rw [hlast]
 have e1:((0:Int) - ((q.log2:Int) - 52)).toNat=52 - q.log2:=by omega
 have e2:((q.log2:Int) - 52 - 0).toNat=0:=by omega
 have e3:((q.log2:Int) - 52 - -1074).toNat=q.log2+1022:=by omega
 obtain ⟨k1,k2⟩:=kept_small h0 hL
 rw [e1,e2,e3,cut0,Nat.min_eq_left (by omega)]
theorem nearest_form (s:Bool) {q:Nat} (h0:0 < q) (hq:q≤9223372036854775808) (hd:52 < q.log2→q % 2 ^ (q.log2 - 52)=0) :
  ∃ k,4503599627370496≤k∧k < 9007199254740992∧q.log2≤63∧FloatKind.f64.format.nearest s q 0=Wd s q.log2 k∧(q.log2≤52→k=q * 2 ^ (52 - q.log2))∧(52 < q.log2→q=k * 2 ^ (q.log2 - 52)):=by
 have hL:q.log2≤63:=by
  have:=(Nat.log2_lt (n:=q) (by omega) (k:=64)).mpr (by omega)
  omega
 by_cases h:q.log2≤52
 ·obtain ⟨k1,k2⟩:=kept_small h0 h
  exact ⟨_,k1,k2,hL,nearest_small s h0 h,fun _=>Nat.shiftLeft_eq _ _,fun h'=>by omega⟩
 ·have h:=Nat.lt_of_not_le h
  obtain ⟨k1,k2⟩:=kept_big h
  have e:q=q / 2 ^ (q.log2 - 52) * 2 ^ (q.log2 - 52):=by
   have:=Nat.div_add_mod q (2 ^ (q.log2 - 52))
   rw [hd h,Nat.add_zero,Nat.mul_comm] at this
   exact this.symm
  refine ⟨q / 2 ^ (q.log2 - 52),k1,k2,hL,?_,fun h'=>by omega,fun _=>e⟩
  have:=nearest_wd (d:=q.log2 - 52) (L:=q.log2) (i:=0) s k1 k2 (by omega) (by omega)
  rw [← e] at this
  exact this
theorem whole_eq (s:Bool) {q:Nat} (hq:q≤9223372036854775808) (hd:52 < q.log2→q % 2 ^ (q.log2 - 52)=0):(FloatKind.f64.decode (FloatKind.f64.format.nearest s q 0)).toInt .zero=some (Ieee.signed s q 0):=by
 by_cases h0:q=0
 ·subst h0
  cases s <;> decide
 obtain ⟨k,k1,k2,hL,hn,hs,hb⟩:=nearest_form s (by omega) hq hd
 rw [hn]
 unfold FloatKind.decode
 rw [read_wd s (by omega) k1 k2]
 simp only [Ieee.Datum.toInt,Ieee.Datum.integral]
 by_cases h:q.log2≤52
 ·have e1:((q.log2:Int) - 52).toNat=0:=by omega
  have e2:(-((q.log2:Int) - 52)).toNat=52 - q.log2:=by omega
  have hc:Ieee.Toward.zero.cut s k (52 - q.log2)=q:=by
   have hlk:52≤k.log2:=(Nat.le_log2 (by omega)).mpr k1
   have hg:1 <<< min (52 - q.log2) (k.log2+2)=2 ^ (52 - q.log2):=by rw [Nat.min_eq_left (by omega),Nat.shiftLeft_eq,Nat.one_mul]
   simp only [Ieee.Toward.cut,hg,Bool.toNat_false,Nat.add_zero]
   rw [hs h,Nat.mul_div_cancel _ (Nat.two_pow_pos _)]
  rw [e1,e2,Nat.shiftLeft_zero,hc]
 ·have h:=Nat.lt_of_not_le h
  have e1:((q.log2:Int) - 52).toNat=q.log2 - 52:=by omega
  have e2:(-((q.log2:Int) - 52)).toNat=0:=by omega
  rw [e1,e2,cut0,Nat.shiftLeft_eq,← hb h]
theorem word_mod {s:Bool} {r:Nat} (h:r < 9218868437227405312):FloatKind.f64.format.word s r % 9223372036854775808 < 9218868437227405312:=by
 unfold Ieee.Format.word
 rw [w64s]
 cases s
 ·simp only [Bool.false_eq_true,if_false]; omega
 ·simp only [if_true]; omega
theorem nearest_fin (s:Bool) {q:Nat} (hq:q≤9223372036854775808) (hd:52 < q.log2→q % 2 ^ (q.log2 - 52)=0):FloatKind.f64.format.nearest s q 0 % 9223372036854775808 < 9218868437227405312:=by
 by_cases h0:q=0
 ·subst h0
  unfold Ieee.Format.nearest
  rw [if_pos rfl]
  exact word_mod (by omega)
 obtain ⟨k,k1,k2,hL,hn,_,_⟩:=nearest_form s (by omega) hq hd
 rw [hn]
 exact word_mod (by omega)
theorem exact_parts {f:Nat} (hf:fin64 f=true) (hg:abin .geq (.flt .f64 f) (.flt .f64 4890909195324358656)=some (.bool false)) (hl:abin .lss (.flt .f64 f) (.flt .f64 14114281232179134464)=some (.bool false)) :
  ∃ t w r,aext 3 [.flt .f64 f]=some (.flt .f64 t)∧fltInt .f64 .f64 .i64 t=some w∧fltInt .f64 .f64 .i64 f=some w∧FloatKind.f64.format.sub f (FloatKind.f64.nearest w)=some r∧FloatKind.f64.format.order r 0=FloatKind.f64.format.order f t:=by
 obtain ⟨m,j,hr,hm,hj⟩:=read_num (fin_lt hf)
 generalize (f / 9223372036854775808 % 2==1)=s at hr
 obtain ⟨i,hi⟩:∃ i,i=FloatKind.f64.format.leastPlace+(j:Nat):=⟨_,rfl⟩
 rw [← hi] at hr
 have hg:(some (compare (Ieee.signed s m (i - min i 11).toNat) (Ieee.signed false 4503599627370496 (11 - min i 11).toNat))==some Ordering.gt || some (compare (Ieee.signed s m (i - min i 11).toNat) (Ieee.signed false 4503599627370496 (11 - min i 11).toNat))==some Ordering.eq)=false:=by
  have:abin .geq (.flt .f64 f) (.flt .f64 4890909195324358656)=some (.bool (FloatKind.f64.format.order f 4890909195324358656==some .gt || FloatKind.f64.format.order f 4890909195324358656==some .eq)):=rfl
  rw [this] at hg
  have ho:FloatKind.f64.format.order f 4890909195324358656=some (compare (Ieee.signed s m (i - min i 11).toNat) (Ieee.signed false 4503599627370496 (11 - min i 11).toNat)):=by
   unfold Ieee.Format.order
   rw [hr,read_hi]; rfl
  rw [ho] at hg
  simpa using hg
 have hl:(some (compare (Ieee.signed s m (i - min i 11).toNat) (Ieee.signed true 4503599627370496 (11 - min i 11).toNat))==some Ordering.lt)=false:=by
  have:abin .lss (.flt .f64 f) (.flt .f64 14114281232179134464)=some (.bool (FloatKind.f64.format.order f 14114281232179134464==some .lt)):=rfl
  rw [this] at hl
  have ho:FloatKind.f64.format.order f 14114281232179134464=some (compare (Ieee.signed s m (i - min i 11).toNat) (Ieee.signed true 4503599627370496 (11 - min i 11).toNat)):=by
   unfold Ieee.Format.order
   rw [hr,read_lo]; rfl
  rw [ho] at hl
  simpa using hl
 have hg:=cmp_lt hg
 have hl:=cmp_nlt hl
 have key:m * 2 ^ (i - min i 11).toNat≤4503599627370496 * 2 ^ (11 - min i 11).toNat∧(s=false→m * 2 ^ (i - min i 11).toNat < 4503599627370496 * 2 ^ (11 - min i 11).toNat):=by
  cases s with
  | false=>
   simp only [Ieee.signed,Bool.false_eq_true,if_false,Nat.shiftLeft_eq] at hg
   have:m * 2 ^ (i - min i 11).toNat < 4503599627370496 * 2 ^ (11 - min i 11).toNat:=by omega
   exact ⟨by omega,fun _=>this⟩
  | true=>
   simp only [Ieee.signed,if_true,Nat.shiftLeft_eq] at hl
   exact ⟨by omega,fun h=>nomatch h⟩
 obtain ⟨c1,c2,c3⟩:=cut_bounds (s:=s) hm key.1
 obtain ⟨q,hq⟩:∃ q,q=Ieee.Toward.zero.cut s (m <<< i.toNat) (-i).toNat:=⟨_,rfl⟩
 rw [← hq] at c1 c2 c3
 have hd:FloatKind.f64.decode f = .number s m i:=hr
 have ht:=whole_eq s c1 c2
 have hmin:IntKind.i64.min = -9223372036854775808:=by decide
 have hmax:IntKind.i64.max=9223372036854775807:=by decide
 have hrange:IntKind.i64.min≤Ieee.signed s q 0∧Ieee.signed s q 0≤IntKind.i64.max:=by
  rw [hmin,hmax]
  cases s with
  | false=>
   have:=c3 (key.2 rfl)
   simp only [Ieee.signed,Bool.false_eq_true,if_false,Nat.shiftLeft_zero]
   omega
  | true=>
   simp only [Ieee.signed,if_true,Nat.shiftLeft_zero]
   omega
 have hw:FloatKind.f64.nearest (Ieee.signed s q 0)=FloatKind.f64.format.nearest (decide (Ieee.signed s q 0 < 0)) q 0:=by
  show FloatKind.f64.format.nearest (decide (Ieee.signed s q 0 < 0)) (Ieee.signed s q 0).natAbs 0=_
  have:(Ieee.signed s q 0).natAbs=q:=by cases s <;> simp [Ieee.signed]
  rw [this]
 have hfin:=nearest_fin (decide (Ieee.signed s q 0 < 0)) c1 c2
 rw [← hw] at hfin
 obtain ⟨r,hr1,hr2⟩:=sub_order (fin_lt hf) hfin
 refine ⟨FloatKind.f64.format.nearest s q 0,Ieee.signed s q 0,r,?_,?_,?_,hr1,?_⟩
 ·show aext3 .zero [.flt .f64 f]=_
  simp only [aext3,hd]
  rw [hq]
  rfl
 ·unfold fltInt
  rw [if_pos rfl,ht]
  simp only []
  rw [if_pos hrange]
 ·unfold fltInt
  rw [if_pos rfl,hd]
  simp only [Ieee.Datum.toInt,Ieee.Datum.integral,← hq]
  rw [if_pos hrange]
 ·rw [hr2,hw]
  by_cases h0:q=0
  ·subst h0
   have z:∀ b:Bool,FloatKind.f64.format.read (FloatKind.f64.format.nearest b 0 0) = .number b 0 (-1074):=by intro b; cases b <;> decide
   unfold Ieee.Format.order
   rw [z,z,hr]
   simp only [Ieee.Datum.order]
   have zz:∀ (b:Bool) (u:Nat),Ieee.signed b 0 u=0:=by intro b u; cases b <;> simp [Ieee.signed]
   rw [zz,zz]
  ·have:decide (Ieee.signed s q 0 < 0)=s:=by
    cases s with
    | false=>exact decide_eq_false (by simp only [Ieee.signed,Bool.false_eq_true,if_false,Nat.shiftLeft_zero]; omega)
    | true=>exact decide_eq_true (by simp only [Ieee.signed,if_true,Nat.shiftLeft_zero]; omega)
   rw [this]
end Go.Am.Rl
namespace Go.Am.Rl
open Go.Proofs
theorem natAbs_neg' {a:Int} (h:a < 0):abin .sub (.int .i64 0) (.int .i64 a)=some (.int .i64 (IntKind.i64.wrap (-a))):=by
 show some (AVal.int .i64 (IntKind.i64.wrap (0 - a)))=_
 rw [Int.zero_sub]
theorem lssT {a b:Int} (h:a < b):abin .lss (.int .i64 a) (.int .i64 b)=some (.bool true):=by simp [abin]; omega
theorem lssF {a b:Int} (h:¬ a < b):abin .lss (.int .i64 a) (.int .i64 b)=some (.bool false):=by simp [abin]; omega
theorem gtrT {a b:Int} (h:b < a):abin .gtr (.int .i64 a) (.int .i64 b)=some (.bool true):=by simp [abin]; omega
theorem gtrF {a b:Int} (h:¬ b < a):abin .gtr (.int .i64 a) (.int .i64 b)=some (.bool false):=by simp [abin]; omega
theorem geqT {a b:Int} (h:b≤a):abin .geq (.int .i64 a) (.int .i64 b)=some (.bool true):=by simp [abin]; omega
theorem times_by {a b:Int} (p:Int) (ok:Bool) (h:(ok=true→p=a * b∧rng p)∧(ok=false→576460752303423488≤a.natAbs * b.natAbs∧¬ rng (a * b))):(if ok=true then intR p else (none,12))=timesR a b:=by
 have hab:(a * b).natAbs=a.natAbs * b.natAbs:=Int.natAbs_mul a b
 unfold timesR
 cases ok with
 | true=>
  obtain ⟨rfl,hr⟩:=h.1 rfl
  rw [if_pos rfl,if_neg (by omega)]
 | false=>
  obtain ⟨h1,h2⟩:=h.2 rfl
  rw [if_neg (by decide)]
  split
  ·rfl
  ·unfold intR
   rw [if_pos (by omega)]
theorem t90 {a b:Int} (ha:rng a) (hb:rng b) (ha0:a≠0) (hb0:b≠0) {X Y:Int} (hX:X=(a.natAbs:Nat)) (hY:Y=(b.natAbs:Nat)):DR Tryz.prog (kof k90) 39 [.code (.region false r90_9 [0,1,28]),.code (.cond (.t 28) (.seq (.region false r90_10 [4,5]) .ret) .skip),.code (.seq (.region false r90_11 [8]) (.seq (.region false r90_12 [4,5]) .ret))] [(0,.int .i64 a),(1,.int .i64 b),(6,.int .i64 X),(7,.int .i64 Y)] AHeap.empty fun T' H'=>∃ r,aresult H' T' [.tmp 4,.tmp 5]=some r∧∃ p ok,r = .tup [.int .i64 p,.bool ok]∧(if ok=true then intR p else (none,12))=timesR a b:=by
 have hab:(a * b).natAbs=a.natAbs * b.natAbs:=Int.natAbs_mul a b
 subst hX hY
 obtain ⟨x,hx⟩:∃ x,x=a.natAbs:=⟨_,rfl⟩
 obtain ⟨y,hy⟩:∃ y,y=b.natAbs:=⟨_,rfl⟩
 rw [← hx,← hy]
 have q:abin .quo (.int .i64 576460752303423488) (.int .i64 (y:Nat))=some (.int .i64 ((576460752303423488 / y:Nat):Int)):=by
  have e:∀ c:Int,abin .quo (.int .i64 c) (.int .i64 (y:Nat))=if ((y:Nat):Int)=0 then none else some (.int .i64 (IntKind.i64.wrap (Int.tdiv c (y:Int)))):=fun _=>rfl
  have ht:Int.tdiv 576460752303423488 (y:Int)=((576460752303423488 / y:Nat):Int):=(Int.ofNat_tdiv 576460752303423488 y).symm
  have hle:576460752303423488 / y≤576460752303423488:=Nat.div_le_self _ _
  obtain ⟨z,hz⟩:∃ z,z=576460752303423488 / y:=⟨_,rfl⟩
  rw [← hz] at ht hle ⊢
  rw [e,if_neg (by omega),ht,IntKind.wrap_i64,show ((z:Nat)+9223372036854775808:Int) % 18446744073709551616 - 9223372036854775808=(z:Nat) by omega]
 have hy0:0 < y:=by omega
 by_cases hg:576460752303423488 / y < x
 ·have g:abin .gtr (.int .i64 (x:Nat)) (.int .i64 ((576460752303423488 / y:Nat):Int))=some (.bool true):=gtrT (by omega)
  have hlt:576460752303423488 < x * y:=(Nat.div_lt_iff_lt_mul hy0).mp hg
  refine Dg rfl ?_
  simp -dsimp only [SE,astep,seval,q,g]
  refine Dy rfl rfl ?_
  refine Dg rfl ?_
  simp -dsimp only [SE,astep,seval]
  refine Dm rfl ?_
  exact DR.ret ⟨_,by simp [aresult,ares,Env.get] <;> rfl,_,_,rfl,times_by 0 false ⟨fun h=>(nomatch h),fun _=>⟨by rw [← hx,← hy]; omega,fun h=>by obtain ⟨h1,h2⟩:=h; rw [← hx,← hy] at hab; omega⟩⟩⟩
 ·have g:abin .gtr (.int .i64 (x:Nat)) (.int .i64 ((576460752303423488 / y:Nat):Int))=some (.bool false):=gtrF (by omega)
  have hle:x * y≤576460752303423488:=by
   have:x≤576460752303423488 / y:=by omega
   exact (Nat.le_div_iff_mul_le hy0).mp this
  rw [← hx,← hy] at hab
  have m:abin .mul (.int .i64 a) (.int .i64 b)=some (.int .i64 (a * b)):=by
   show some (AVal.int .i64 (IntKind.i64.wrap (a * b)))=_
   rw [IntKind.wrap_i64]
   congr 2
   omega
  have l1:abin .geq (.int .i64 (a * b)) (.int .i64 (-576460752303423488))=some (.bool true):=geqT (by omega)
  have l2:abin .leq (.int .i64 (a * b)) (.int .i64 576460752303423487)=some (.bool (decide (a * b≤576460752303423487))):=rfl
  refine Dg rfl ?_
  simp -dsimp only [SE,astep,seval,q,g]
  refine Dn rfl rfl ?_
  refine Dg rfl ?_
  simp -dsimp only [SE,astep,seval,m]
  refine Dg rfl ?_
  simp -dsimp only [SE,astep,seval,l1,l2]
  refine Dm rfl ?_
  exact DR.ret ⟨_,by simp [aresult,ares,Env.get] <;> rfl,_,_,rfl,times_by _ _ ⟨fun h=>⟨rfl,by omega,of_decide_eq_true h⟩,fun h=>⟨by have:=of_decide_eq_false h; rw [← hx,← hy]; omega,fun h'=>of_decide_eq_false h h'.2⟩⟩⟩
theorem r90 {a b:Int} (ha:rng a) (hb:rng b) (H:AHeap):DCall Tryz.prog 90 [.int .i64 a,.int .i64 b] H fun r H'=>(∃ p ok,r = .tup [.int .i64 p,.bool ok]∧(if ok=true then intR p else (none,12))=timesR a b)∧H'=H:=by
 refine DCall.closed (sz:=szs) rfl (Q:=fun r _=>∃ p ok,r = .tup [.int .i64 p,.bool ok]∧(if ok=true then intR p else (none,12))=timesR a b) (Q':=fun r=>∃ p ok,r = .tup [.int .i64 p,.bool ok]∧(if ok=true then intR p else (none,12))=timesR a b) ?_ (fun r H1 ⟨p,ok,e,h⟩=>⟨3,r,by rw [e]; rfl,p,ok,e,h⟩) H
 have hab:(a * b).natAbs=a.natAbs * b.natAbs:=Int.natAbs_mul a b
 refine DCall.of_body (fn:=Tryz.f90) (by kernel_rfl) c90 (by kernel_rfl) (by simp [f90]) ?_
 unfold f90
 simp only []
 refine Dg rfl ?_
 simp -dsimp only [SE,astep,seval]
 by_cases ha0:a=0
 ·have c:=eqlT ha0
  refine Dg rfl ?_
  simp -dsimp only [SE,astep,seval,c]
  refine Dy rfl rfl ?_
  refine Dg rfl ?_
  simp -dsimp only [SE,astep,seval]
  refine Dm rfl ?_
  exact DR.ret ⟨_,by simp [aresult,ares,Env.get] <;> rfl,_,_,rfl,times_by 0 true ⟨fun _=>⟨by rw [ha0]; simp,by decide,by decide⟩,fun h=>(nomatch h)⟩⟩
 have ca:abin .eql (.int .i64 a) (.int .i64 0)=some (.bool false):=eqlF ha0
 by_cases hb0:b=0
 ·have c:=eqlT hb0
  refine Dg rfl ?_
  simp -dsimp only [SE,astep,seval,ca,c]
  refine Dy rfl rfl ?_
  refine Dg rfl ?_
  simp -dsimp only [SE,astep,seval]
  refine Dm rfl ?_
  exact DR.ret ⟨_,by simp [aresult,ares,Env.get] <;> rfl,_,_,rfl,times_by 0 true ⟨fun _=>⟨by rw [hb0]; simp,by decide,by decide⟩,fun h=>(nomatch h)⟩⟩
 have cb:abin .eql (.int .i64 b) (.int .i64 0)=some (.bool false):=eqlF hb0
 refine Dg rfl ?_
 simp -dsimp only [SE,astep,seval,ca,cb]
 refine Dn rfl rfl ?_
 refine Dg rfl ?_
 simp -dsimp only [SE,astep,seval]
 by_cases hna:a < 0
 ·have c1:abin .lss (.int .i64 a) (.int .i64 0)=some (.bool true):=lssT (by omega)
  have e1:abin .sub (.int .i64 0) (.int .i64 a)=some (.int .i64 (a.natAbs:Nat)):=by rw [natAbs_neg' hna,IntKind.wrap_i64]; congr 2; omega
  refine Dg rfl ?_
  simp -dsimp only [SE,astep,seval,c1]
  refine Dy rfl rfl ?_
  refine Dg rfl ?_
  simp -dsimp only [SE,astep,seval,e1]
  refine Dg rfl ?_
  simp -dsimp only [SE,astep,seval]
  by_cases hnb:b < 0
  ·have c2:abin .lss (.int .i64 b) (.int .i64 0)=some (.bool true):=lssT (by omega)
   have e2:abin .sub (.int .i64 0) (.int .i64 b)=some (.int .i64 (b.natAbs:Nat)):=by rw [natAbs_neg' hnb,IntKind.wrap_i64]; congr 2; omega
   refine Dg rfl ?_
   simp -dsimp only [SE,astep,seval,c2]
   refine Dy rfl rfl ?_
   refine Dg rfl ?_
   simp -dsimp only [SE,astep,seval,e2]
   refine Dm rfl ?_
   exact t90 ha hb ha0 hb0 rfl rfl
  ·have c2:abin .lss (.int .i64 b) (.int .i64 0)=some (.bool false):=lssF (by omega)
   have e2:b=(b.natAbs:Nat):=by omega
   refine Dg rfl ?_
   simp -dsimp only [SE,astep,seval,c2]
   refine Dn rfl rfl ?_
   refine Dm rfl ?_
   refine DR.only [0,1,6,7] ?_
   exact t90 ha hb ha0 hb0 rfl e2
 ·have c1:abin .lss (.int .i64 a) (.int .i64 0)=some (.bool false):=lssF (by omega)
  have e1:a=(a.natAbs:Nat):=by omega
  refine Dg rfl ?_
  simp -dsimp only [SE,astep,seval,c1]
  refine Dn rfl rfl ?_
  refine Dg rfl ?_
  simp -dsimp only [SE,astep,seval]
  by_cases hnb:b < 0
  ·have c2:abin .lss (.int .i64 b) (.int .i64 0)=some (.bool true):=lssT (by omega)
   have e2:abin .sub (.int .i64 0) (.int .i64 b)=some (.int .i64 (b.natAbs:Nat)):=by rw [natAbs_neg' hnb,IntKind.wrap_i64]; congr 2; omega
   refine Dg rfl ?_
   simp -dsimp only [SE,astep,seval,c2]
   refine Dy rfl rfl ?_
   refine Dg rfl ?_
   simp -dsimp only [SE,astep,seval,e2]
   refine Dm rfl ?_
   exact t90 ha hb ha0 hb0 e1 rfl
  ·have c2:abin .lss (.int .i64 b) (.int .i64 0)=some (.bool false):=lssF (by omega)
   have e2:b=(b.natAbs:Nat):=by omega
   refine Dg rfl ?_
   simp -dsimp only [SE,astep,seval,c2]
   refine Dn rfl rfl ?_
   refine Dm rfl ?_
   refine DR.only [0,1,6,7] ?_
   exact t90 ha hb ha0 hb0 e1 e2
theorem r59 {sg:ByteArray} {a b:Int} (ha:rng a) (hb:rng b) (H:AHeap):DCall Tryz.prog 59 [.str sg,.int .i64 a,.int .i64 b] H fun r H'=>r=NR (exactR sg a b)∧H'=H:=by
 refine NR_closed rfl ?_ H
 have hz:z25=[.int .i64 0,.int .i64 0,.flt .f64 0,.str ⟨#[]⟩,.nils]:=rfl
 obtain ⟨H1,hH1,g1,n1,f1⟩:=psh AHeap.empty (.cells 27 z25)
 refine DCall.of_body (fn:=Tryz.f59) (by kernel_rfl) c59 (by kernel_rfl) (by simp [f59]) ?_
 unfold f59
 simp only []
 refine Dg rfl ?_
 simp -dsimp only [SE,astep,seval,← hz,← hH1]
 refine Dg rfl ?_
 simp -dsimp only [SE,astep,seval]
 by_cases h1:sg=o_add
 ·have c1:=sgT h1
  have e:exactR sg a b=intR (a+b):=by unfold exactR; rw [if_pos h1]
  have a1:=addI ha hb
  rw [e]
  refine Dg rfl ?_
  simp -dsimp only [SE,astep,seval,c1]
  refine Dy rfl rfl ?_
  refine Dg rfl ?_
  simp -dsimp only [SE,astep,seval,a1]
  refine (r55 (a+b) H1).mono ?_
  rintro r H' ⟨rfl,he⟩
  obtain rfl:=he.symm
  have s1:=store_all (n:=5) g1 (new:=cel (intR (a+b))) (cel_len _) (cel_ones _) rfl
  obtain ⟨H9,hH9,g9,n9,f9⟩:=upd g1 (.cells 27 (cel (intR (a+b))))
  have l9:=load_all (n:=5) g9 (cel_len _)
  have i0:([.agg (cel (intR (a+b))),.int .i64 (intR (a+b)).2]:List AVal)[0]? = some (.agg (cel (intR (a+b)))):=rfl
  have i1:([.agg (cel (intR (a+b))),.int .i64 (intR (a+b)).2]:List AVal)[1]? = some (.int .i64 (intR (a+b)).2):=rfl
  simp -dsimp only [SE,astep,seval,i0,i1,s1,← hH9]
  refine Dm rfl ?_
  exact DR.ret ⟨NR (intR (a+b)),by simp [aresult,ares,Env.get,l9],rfl⟩
 have c1:=sgF h1
 refine Dg rfl ?_
 simp -dsimp only [SE,astep,seval,c1]
 refine Dn rfl rfl ?_
 by_cases h2:sg=o_sub
 ·have c2:=sgT h2
  have e:exactR sg a b=intR (a - b):=by unfold exactR; rw [if_neg h1,if_pos h2]
  have a2:=subI ha hb
  rw [e]
  refine Dg rfl ?_
  simp -dsimp only [SE,astep,seval,c2]
  refine Dy rfl rfl ?_
  refine Dg rfl ?_
  simp -dsimp only [SE,astep,seval,a2]
  refine (r55 (a - b) H1).mono ?_
  rintro r H' ⟨rfl,he⟩
  obtain rfl:=he.symm
  have s1:=store_all (n:=5) g1 (new:=cel (intR (a - b))) (cel_len _) (cel_ones _) rfl
  obtain ⟨H9,hH9,g9,n9,f9⟩:=upd g1 (.cells 27 (cel (intR (a - b))))
  have l9:=load_all (n:=5) g9 (cel_len _)
  have i0:([.agg (cel (intR (a - b))),.int .i64 (intR (a - b)).2]:List AVal)[0]? = some (.agg (cel (intR (a - b)))):=rfl
  have i1:([.agg (cel (intR (a - b))),.int .i64 (intR (a - b)).2]:List AVal)[1]? = some (.int .i64 (intR (a - b)).2):=rfl
  simp -dsimp only [SE,astep,seval,i0,i1,s1,← hH9]
  refine Dm rfl ?_
  exact DR.ret ⟨NR (intR (a - b)),by simp [aresult,ares,Env.get,l9],rfl⟩
 have c2:=sgF h2
 have e:exactR sg a b=timesR a b:=by unfold exactR; rw [if_neg h1,if_neg h2]
 rw [e]
 refine Dg rfl ?_
 simp -dsimp only [SE,astep,seval,c2]
 refine Dn rfl rfl ?_
 refine Dg rfl ?_
 simp -dsimp only [SE,astep,seval]
 refine (r90 ha hb H1).mono ?_
 rintro r H' ⟨⟨p,ok,rfl,hp⟩,he⟩
 obtain rfl:=he.symm
 have j0:([.int .i64 p,.bool ok]:List AVal)[0]? = some (.int .i64 p):=rfl
 have j1:([.int .i64 p,.bool ok]:List AVal)[1]? = some (.bool ok):=rfl
 simp -dsimp only [SE,astep,seval,j0,j1]
 cases ok with
 | false=>
  rw [if_neg (by decide)] at hp
  rw [← hp]
  refine Dg rfl ?_
  simp -dsimp only [SE,astep,seval,Bool.not_false]
  refine Dy rfl rfl ?_
  have s1:=store_all (n:=5) g1 (new:=z25) rfl rfl rfl
  obtain ⟨H9,hH9,g9,n9,f9⟩:=upd g1 (.cells 27 z25)
  have l9:=load_all (n:=5) g9 rfl
  refine Dg rfl ?_
  simp -dsimp only [SE,astep,seval,Env.parts,afill,← hz,s1,← hH9]
  refine Dm rfl ?_
  exact DR.ret ⟨NR (none,12),by simp [aresult,ares,Env.get,l9],rfl⟩
 | true=>
  rw [if_pos rfl] at hp
  rw [← hp]
  refine Dg rfl ?_
  simp -dsimp only [SE,astep,seval,Bool.not_true]
  refine Dn rfl rfl ?_
  refine Dg rfl ?_
  simp -dsimp only [SE,astep,seval]
  refine (r55 p H1).mono ?_
  rintro r H' ⟨rfl,he⟩
  obtain rfl:=he.symm
  have s1:=store_all (n:=5) g1 (new:=cel (intR p)) (cel_len _) (cel_ones _) rfl
  obtain ⟨H9,hH9,g9,n9,f9⟩:=upd g1 (.cells 27 (cel (intR p)))
  have l9:=load_all (n:=5) g9 (cel_len _)
  have i0:([.agg (cel (intR p)),.int .i64 (intR p).2]:List AVal)[0]? = some (.agg (cel (intR p))):=rfl
  have i1:([.agg (cel (intR p)),.int .i64 (intR p).2]:List AVal)[1]? = some (.int .i64 (intR p).2):=rfl
  simp -dsimp only [SE,astep,seval,i0,i1,s1,← hH9]
  refine Dm rfl ?_
  exact DR.ret ⟨NR (intR p),by simp [aresult,ares,Env.get,l9],rfl⟩
theorem read_fin {f:Nat} (h:fin64 f=true):∃ s m j,FloatKind.f64.format.read f = .number s m j:=by
 obtain ⟨m,j,hr,_⟩:=read_num (fin_lt h)
 exact ⟨_,m,_,hr⟩
theorem add_some {x y:Nat} (hx:fin64 x=true) (hy:fin64 y=true):∃ z,FloatKind.f64.format.add x y=some z:=by
 obtain ⟨s,m,j,h1⟩:=read_fin hx
 obtain ⟨s',m',j',h2⟩:=read_fin hy
 unfold Ieee.Format.add
 rw [h1,h2]
 exact ⟨_,rfl⟩
theorem sub_some2 {x y:Nat} (hx:fin64 x=true) (hy:fin64 y=true):∃ z,FloatKind.f64.format.sub x y=some z:=by
 obtain ⟨s,m,j,h1⟩:=read_fin hx
 obtain ⟨s',m',j',h2⟩:=read_fin hy
 unfold Ieee.Format.sub
 rw [h1,h2]
 exact ⟨_,rfl⟩
theorem mul_some {x y:Nat} (hx:fin64 x=true) (hy:fin64 y=true):∃ z,FloatKind.f64.format.mul x y=some z:=by
 obtain ⟨s,m,j,h1⟩:=read_fin hx
 obtain ⟨s',m',j',h2⟩:=read_fin hy
 unfold Ieee.Format.mul
 rw [h1,h2]
 exact ⟨_,rfl⟩
theorem zero_read:FloatKind.f64.format.read 0 = .number false 0 (-1074):=by decide
theorem div_some {x y:Nat} (hx:fin64 x=true) (hy:fin64 y=true) (h0:(FloatKind.f64.format.order y 0==some .eq)=false):∃ z,FloatKind.f64.format.div x y=some z:=by
 obtain ⟨s,m,j,h1⟩:=read_fin hx
 obtain ⟨s',m',j',h2⟩:=read_fin hy
 have hm:m'≠0:=by
  rintro rfl
  unfold Ieee.Format.order at h0
  rw [h2,zero_read] at h0
  have:∀ u:Nat,Ieee.signed s' 0 u=0:=by intro u; cases s' <;> simp [Ieee.signed]
  simp [Ieee.Datum.order,Ieee.signed,compare,compareOfLessAndEq] at h0
 unfold Ieee.Format.div
 rw [h1,h2]
 simp only [Ieee.Datum.quotient,if_neg hm]
 exact ⟨_,rfl⟩
theorem nearf_fin {n:Int} (hn:rng n):fin64 (nearf n)=true:=by
 refine fin_of ?_
 show FloatKind.f64.format.nearest (decide (n < 0)) n.natAbs 0 % 9223372036854775808 < _
 by_cases h:n.natAbs < 9007199254740992
 ·refine nearest_fin _ (by omega) fun hl=> ?_
  have:n.natAbs.log2 < 53:=by
   by_cases h0:n.natAbs=0
   ·rw [h0]; decide
   ·exact (Nat.log2_lt h0).mpr h
  omega
 ·have h2:n.natAbs < 1152921504606846976:=by omega
  obtain ⟨b1,b2,b3,k1,k2⟩:=hand_bounds (by omega:9007199254740992≤n.natAbs) h2
  obtain ⟨t1,t2⟩:=topR_le (by omega:9007199254740992≤n.natAbs) h2
  rw [nearest_hand _ (by omega) h2]
  split
  ·exact word_mod (by omega)
  ·exact word_mod (by omega)
theorem real_fin {t:TM} (hf:fine t) (hb:isNb t=true):fin64 (realv t.k t.n t.f)=true:=by
 obtain ⟨_,_,⟨h,hr,_⟩ | ⟨h,_,hfin⟩⟩:=pl_rng hf hb
 ·unfold realv; rw [if_pos h]; exact nearf_fin hr
 ·unfold realv; rw [if_neg (by omega)]; exact hfin
end Go.Am.Rl
namespace Go.Am.Rl
open Go.Proofs
theorem flt_some {z:Nat} {o:Option Nat} (h:o=some z):flOr .f64 o = .flt .f64 z:=by rw [h]; rfl
abbrev FQ (R:Res):Env→AHeap→Prop:=fun T' H'=>∃ r,aresult H' T' [.cell 6 (some 5),.tmp 7]=some r∧r=NR R
theorem t22f {sg:ByteArray} {a b:TM} {H:AHeap} {i4 i5 i6:Nat} (oa:a.ok) (ob:b.ok) (fa:fine a) (fb:fine b) (na:isNb a=true) (nb:isNb b=true)
  (ga:H.get i4=some (.cells 27 (TM.c5 a))) (gb:H.get i5=some (.cells 27 (TM.c5 b))) (gr:H.get i6=some (.cells 27 z25)) :
  DR Tryz.prog (kof k22) 120 [.code (.region false r22_20 [0,5,6,9]),.code (.seq (.region false r22_21 [0,6,9,10]) (.seq (.seq (.region false r22_22 [6,9,10,86]) (.block 1 (.seq (.region false r22_23 [6,9,10,86,87]) (.cond (.t 87) (.seq (.region false r22_24 [6,7]) .ret) (.seq (.region false r22_25 [6,9,10,86,95]) (.cond (.t 95) (.seq (.region false r22_26 [6,7]) .ret) (.seq (.region false r22_27 [6,9,10,103]) (.cond (.t 103) (.seq (.region false r22_28 [6,7]) .ret) .skip)))))))) (.seq (.seq (.region false r22_29 [6,9,10,112]) (.cond (.t 112) (.seq (.region false r22_30 [6,7]) .ret) .skip)) (.seq (.region false r22_31 [6,7]) .ret))))] [(0,.str sg),(4,.ptr i4 0),(5,.ptr i5 0),(6,.ptr i6 0)] H (FQ (floatingR sg (realv a.k a.n a.f) (realv b.k b.n b.f))):=by
 have hz:z25=[.int .i64 0,.int .i64 0,.flt .f64 0,.str ⟨#[]⟩,.nils]:=rfl
 have la:=load_all (n:=5) ga rfl
 have lb:=load_all (n:=5) gb rfl
 have hra:rng a.n:=by have:=nn_rng fa; unfold nn at this; rw [if_pos na] at this; exact this
 have hrb:rng b.n:=by have:=nn_rng fb; unfold nn at this; rw [if_pos nb] at this; exact this
 have ka:a.k=1∨a.k=2:=by simpa [isNb] using na
 have kb:b.k=1∨b.k=2:=by simpa [isNb] using nb
 have fx:=real_fin fa na
 have fy:=real_fin fb nb
 refine Dg rfl ?_
 simp -dsimp only [SE,astep,seval,la]
 refine (r60 hra oa ka H).mono ?_
 rintro r H' ⟨rfl,he⟩
 obtain rfl:=he.symm
 simp -dsimp only [SE,astep,seval]
 refine Dg rfl ?_
 simp -dsimp only [SE,astep,seval,lb]
 refine (r60 hrb ob kb H).mono ?_
 rintro r H' ⟨rfl,he⟩
 obtain rfl:=he.symm
 simp -dsimp only [SE,astep,seval]
 generalize realv a.k a.n a.f=x at fx ⊢
 generalize realv b.k b.n b.f=y at fy ⊢
 refine Dg rfl ?_
 simp -dsimp only [SE,astep,seval]
 by_cases h1:sg=o_add
 ·have c1:=sgT h1
  obtain ⟨z,hzz⟩:=add_some fx fy
  have a1:abin .add (.flt .f64 x) (.flt .f64 y)=some (.flt .f64 z):=by
   show some (flOr .f64 (FloatKind.f64.format.add x y))=_
   rw [flt_some hzz]
  have e:floatingR sg x y=fltR (.flt .f64 z):=by unfold floatingR; rw [if_pos h1,flt_some hzz]
  rw [e]
  refine Dg rfl ?_
  simp -dsimp only [SE,astep,seval,c1]
  refine Dy rfl rfl ?_
  refine Dg rfl ?_
  simp -dsimp only [SE,astep,seval,a1]
  refine (r61 z H).mono ?_
  rintro r H' ⟨rfl,he⟩
  obtain rfl:=he.symm
  have s1:=store_all (n:=5) gr (new:=cel (fltR (.flt .f64 z))) (cel_len _) (cel_ones _) rfl
  obtain ⟨H9,hH9,g9,n9,f9⟩:=upd gr (.cells 27 (cel (fltR (.flt .f64 z))))
  have l9:=load_all (n:=5) g9 (cel_len _)
  have i0:([.agg (cel (fltR (.flt .f64 z))),.int .i64 (fltR (.flt .f64 z)).2]:List AVal)[0]? = some (.agg (cel (fltR (.flt .f64 z)))):=rfl
  have i1:([.agg (cel (fltR (.flt .f64 z))),.int .i64 (fltR (.flt .f64 z)).2]:List AVal)[1]? = some (.int .i64 (fltR (.flt .f64 z)).2):=rfl
  simp -dsimp only [SE,astep,seval,i0,i1,s1,← hH9]
  refine Dm rfl ?_
  exact DR.ret ⟨NR (fltR (.flt .f64 z)),by simp [aresult,ares,Env.get,l9],rfl⟩
 have c1:=sgF h1
 refine Dg rfl ?_
 simp -dsimp only [SE,astep,seval,c1]
 refine Dn rfl rfl ?_
 by_cases h2:sg=o_sub
 ·have c2:=sgT h2
  obtain ⟨z,hzz⟩:=sub_some2 fx fy
  have a1:abin .sub (.flt .f64 x) (.flt .f64 y)=some (.flt .f64 z):=by
   show some (flOr .f64 (FloatKind.f64.format.sub x y))=_
   rw [flt_some hzz]
  have e:floatingR sg x y=fltR (.flt .f64 z):=by unfold floatingR; rw [if_neg h1,if_pos h2,flt_some hzz]
  rw [e]
  refine Dg rfl ?_
  simp -dsimp only [SE,astep,seval,c2]
  refine Dy rfl rfl ?_
  refine Dg rfl ?_
  simp -dsimp only [SE,astep,seval,a1]
  refine (r61 z H).mono ?_
  rintro r H' ⟨rfl,he⟩
  obtain rfl:=he.symm
  have s1:=store_all (n:=5) gr (new:=cel (fltR (.flt .f64 z))) (cel_len _) (cel_ones _) rfl
  obtain ⟨H9,hH9,g9,n9,f9⟩:=upd gr (.cells 27 (cel (fltR (.flt .f64 z))))
  have l9:=load_all (n:=5) g9 (cel_len _)
  have i0:([.agg (cel (fltR (.flt .f64 z))),.int .i64 (fltR (.flt .f64 z)).2]:List AVal)[0]? = some (.agg (cel (fltR (.flt .f64 z)))):=rfl
  have i1:([.agg (cel (fltR (.flt .f64 z))),.int .i64 (fltR (.flt .f64 z)).2]:List AVal)[1]? = some (.int .i64 (fltR (.flt .f64 z)).2):=rfl
  simp -dsimp only [SE,astep,seval,i0,i1,s1,← hH9]
  refine Dm rfl ?_
  exact DR.ret ⟨NR (fltR (.flt .f64 z)),by simp [aresult,ares,Env.get,l9],rfl⟩
 have c2:=sgF h2
 refine Dg rfl ?_
 simp -dsimp only [SE,astep,seval,c2]
 refine Dn rfl rfl ?_
 by_cases h3:sg=o_mul
 ·have c3:=sgT h3
  obtain ⟨z,hzz⟩:=mul_some fx fy
  have a1:abin .mul (.flt .f64 x) (.flt .f64 y)=some (.flt .f64 z):=by
   show some (flOr .f64 (FloatKind.f64.format.mul x y))=_
   rw [flt_some hzz]
  have e:floatingR sg x y=fltR (.flt .f64 z):=by unfold floatingR; rw [if_neg h1,if_neg h2,if_pos h3,flt_some hzz]
  rw [e]
  refine Dg rfl ?_
  simp -dsimp only [SE,astep,seval,c3]
  refine Dy rfl rfl ?_
  refine Dg rfl ?_
  simp -dsimp only [SE,astep,seval,a1]
  refine (r61 z H).mono ?_
  rintro r H' ⟨rfl,he⟩
  obtain rfl:=he.symm
  have s1:=store_all (n:=5) gr (new:=cel (fltR (.flt .f64 z))) (cel_len _) (cel_ones _) rfl
  obtain ⟨H9,hH9,g9,n9,f9⟩:=upd gr (.cells 27 (cel (fltR (.flt .f64 z))))
  have l9:=load_all (n:=5) g9 (cel_len _)
  have i0:([.agg (cel (fltR (.flt .f64 z))),.int .i64 (fltR (.flt .f64 z)).2]:List AVal)[0]? = some (.agg (cel (fltR (.flt .f64 z)))):=rfl
  have i1:([.agg (cel (fltR (.flt .f64 z))),.int .i64 (fltR (.flt .f64 z)).2]:List AVal)[1]? = some (.int .i64 (fltR (.flt .f64 z)).2):=rfl
  simp -dsimp only [SE,astep,seval,i0,i1,s1,← hH9]
  refine Dm rfl ?_
  exact DR.ret ⟨NR (fltR (.flt .f64 z)),by simp [aresult,ares,Env.get,l9],rfl⟩
 have c3:=sgF h3
 refine Dg rfl ?_
 simp -dsimp only [SE,astep,seval,c3]
 refine Dn rfl rfl ?_
 have c4:abin .eql (.flt .f64 y) (.flt .f64 0)=some (.bool (FloatKind.f64.format.order y 0==some .eq)):=rfl
 cases hq:(FloatKind.f64.format.order y 0==some .eq) with
 | true=>
  rw [hq] at c4
  have e:floatingR sg x y=(none,11):=by unfold floatingR; rw [if_neg h1,if_neg h2,if_neg h3,if_pos hq]
  rw [e]
  refine Dg rfl ?_
  simp -dsimp only [SE,astep,seval,c4]
  refine Dy rfl rfl ?_
  have s1:=store_all (n:=5) gr (new:=z25) rfl rfl rfl
  obtain ⟨H9,hH9,g9,n9,f9⟩:=upd gr (.cells 27 z25)
  have l9:=load_all (n:=5) g9 rfl
  refine Dg rfl ?_
  simp -dsimp only [SE,astep,seval,Env.parts,afill,← hz,s1,← hH9]
  refine Dm rfl ?_
  exact DR.ret ⟨NR (none,11),by simp [aresult,ares,Env.get,l9],rfl⟩
 | false=>
  rw [hq] at c4
  obtain ⟨z,hzz⟩:=div_some fx fy hq
  have a1:abin .quo (.flt .f64 x) (.flt .f64 y)=some (.flt .f64 z):=by
   show some (flOr .f64 (FloatKind.f64.format.div x y))=_
   rw [flt_some hzz]
  have e:floatingR sg x y=fltR (.flt .f64 z):=by unfold floatingR; rw [if_neg h1,if_neg h2,if_neg h3,if_neg (by rw [hq]; decide),flt_some hzz]
  rw [e]
  refine Dg rfl ?_
  simp -dsimp only [SE,astep,seval,c4]
  refine Dn rfl rfl ?_
  refine Dg rfl ?_
  simp -dsimp only [SE,astep,seval,a1]
  refine (r61 z H).mono ?_
  rintro r H' ⟨rfl,he⟩
  obtain rfl:=he.symm
  have s1:=store_all (n:=5) gr (new:=cel (fltR (.flt .f64 z))) (cel_len _) (cel_ones _) rfl
  obtain ⟨H9,hH9,g9,n9,f9⟩:=upd gr (.cells 27 (cel (fltR (.flt .f64 z))))
  have l9:=load_all (n:=5) g9 (cel_len _)
  have i0:([.agg (cel (fltR (.flt .f64 z))),.int .i64 (fltR (.flt .f64 z)).2]:List AVal)[0]? = some (.agg (cel (fltR (.flt .f64 z)))):=rfl
  have i1:([.agg (cel (fltR (.flt .f64 z))),.int .i64 (fltR (.flt .f64 z)).2]:List AVal)[1]? = some (.int .i64 (fltR (.flt .f64 z)).2):=rfl
  simp -dsimp only [SE,astep,seval,i0,i1,s1,← hH9]
  refine Dm rfl ?_
  exact DR.ret ⟨NR (fltR (.flt .f64 z)),by simp [aresult,ares,Env.get,l9],rfl⟩
end Go.Am.Rl
namespace Go.Am.Rl
open Go.Proofs
theorem opR_nums {sg:ByteArray} {a b:TM} (na:isNb a=true) (nb:isNb b=true):opR sg a b=if sg=o_div∨sg=o_rem then (if a.k=1∧b.k=1 then dividedR sg a.n b.n else (none,11)) else if (a.k=1∧b.k=1)∧sg≠o_quo then exactR sg a.n b.n else floatingR sg (realv a.k a.n a.f) (realv b.k b.n b.f):=by
 unfold opR kk nn ff
 rw [na,nb,if_neg (by simp)]
 simp only [if_true]
theorem t22w {sg:ByteArray} (hsg:sg=o_add∨sg=o_sub∨sg=o_mul∨sg=o_quo∨sg=o_div∨sg=o_rem) {a b:TM} {H:AHeap} {i4 i5 i6:Nat} (oa:a.ok) (ob:b.ok) (fa:fine a) (fb:fine b) (na:isNb a=true) (nb:isNb b=true)
  (ga:H.get i4=some (.cells 27 (TM.c5 a))) (gb:H.get i5=some (.cells 27 (TM.c5 b))) (gr:H.get i6=some (.cells 27 z25)) (w:Bool) (hw:w=decide (a.k=1∧b.k=1)) :
  DR Tryz.prog (kof k22) 120 [.code (.region false r22_12 [0,4,5,6,8,42]),.code (.cond (.t 42) (.seq (.seq (.region false r22_13 [0,4,5,6,49]) (.cond (.t 49) (.seq (.region false r22_14 [6,7]) .ret) .skip)) (.seq (.seq (.region false r22_15 [4,5,6,52]) (.cond (.t 52) (.seq (.region false r22_16 [6,7]) .ret) .skip)) (.seq (.region false r22_17 [6,7]) .ret))) .skip),.code (.seq (.seq (.region false r22_18 [0,4,5,6,73]) (.cond (.t 73) (.seq (.region false r22_19 [6,7]) .ret) .skip)) (.seq (.region false r22_20 [0,5,6,9]) (.seq (.region false r22_21 [0,6,9,10]) (.seq (.seq (.region false r22_22 [6,9,10,86]) (.block 1 (.seq (.region false r22_23 [6,9,10,86,87]) (.cond (.t 87) (.seq (.region false r22_24 [6,7]) .ret) (.seq (.region false r22_25 [6,9,10,86,95]) (.cond (.t 95) (.seq (.region false r22_26 [6,7]) .ret) (.seq (.region false r22_27 [6,9,10,103]) (.cond (.t 103) (.seq (.region false r22_28 [6,7]) .ret) .skip)))))))) (.seq (.seq (.region false r22_29 [6,9,10,112]) (.cond (.t 112) (.seq (.region false r22_30 [6,7]) .ret) .skip)) (.seq (.region false r22_31 [6,7]) .ret))))))] [(0,.str sg),(4,.ptr i4 0),(5,.ptr i5 0),(6,.ptr i6 0),(8,.bool w)] H (FQ (opR sg a b)):=by
 have hz:z25=[.int .i64 0,.int .i64 0,.flt .f64 0,.str ⟨#[]⟩,.nils]:=rfl
 have hra:rng a.n:=by have:=nn_rng fa; unfold nn at this; rw [if_pos na] at this; exact this
 have hrb:rng b.n:=by have:=nn_rng fb; unfold nn at this; rw [if_pos nb] at this; exact this
 have xa:=load_cell ga (o:=1) (v:=.int .i64 a.n) rfl
 have xb:=load_cell gb (o:=1) (v:=.int .i64 b.n) rfl
 rw [opR_nums na nb]
 by_cases hdr:sg=o_div∨sg=o_rem
 ·rw [if_pos hdr]
  have go:DR Tryz.prog (kof k22) 120 [.code (.cond (.t 42) (.seq (.seq (.region false r22_13 [0,4,5,6,49]) (.cond (.t 49) (.seq (.region false r22_14 [6,7]) .ret) .skip)) (.seq (.seq (.region false r22_15 [4,5,6,52]) (.cond (.t 52) (.seq (.region false r22_16 [6,7]) .ret) .skip)) (.seq (.region false r22_17 [6,7]) .ret))) .skip),.code (.seq (.seq (.region false r22_18 [0,4,5,6,73]) (.cond (.t 73) (.seq (.region false r22_19 [6,7]) .ret) .skip)) (.seq (.region false r22_20 [0,5,6,9]) (.seq (.region false r22_21 [0,6,9,10]) (.seq (.seq (.region false r22_22 [6,9,10,86]) (.block 1 (.seq (.region false r22_23 [6,9,10,86,87]) (.cond (.t 87) (.seq (.region false r22_24 [6,7]) .ret) (.seq (.region false r22_25 [6,9,10,86,95]) (.cond (.t 95) (.seq (.region false r22_26 [6,7]) .ret) (.seq (.region false r22_27 [6,9,10,103]) (.cond (.t 103) (.seq (.region false r22_28 [6,7]) .ret) .skip)))))))) (.seq (.seq (.region false r22_29 [6,9,10,112]) (.cond (.t 112) (.seq (.region false r22_30 [6,7]) .ret) .skip)) (.seq (.region false r22_31 [6,7]) .ret))))))] [(0,.str sg),(4,.ptr i4 0),(5,.ptr i5 0),(6,.ptr i6 0),(8,.bool w),(42,.bool true)] H (FQ (if a.k=1∧b.k=1 then dividedR sg a.n b.n else (none,11))):=by
   refine Dy rfl rfl ?_
   cases hwc:w with
   | false=>
    rw [if_neg (by rw [hwc] at hw; exact of_decide_eq_false hw.symm)]
    refine Dg rfl ?_
    simp -dsimp only [SE,astep,seval,Bool.not_false]
    refine Dy rfl rfl ?_
    have s1:=store_all (n:=5) gr (new:=z25) rfl rfl rfl
    obtain ⟨H9,hH9,g9,n9,f9⟩:=upd gr (.cells 27 z25)
    have l9:=load_all (n:=5) g9 rfl
    refine Dg rfl ?_
    simp -dsimp only [SE,astep,seval,Env.parts,afill,← hz,s1,← hH9]
    refine Dm rfl ?_
    exact DR.ret ⟨NR (none,11),by simp [aresult,ares,Env.get,l9],rfl⟩
   | true=>
    rw [if_pos (by rw [hwc] at hw; exact of_decide_eq_true hw.symm)]
    by_cases hb0:b.n=0
    ·have c0:=eqlT hb0
     have e:dividedR sg a.n b.n=(none,11):=by unfold dividedR; rw [if_pos hb0]
     rw [e]
     refine Dg rfl ?_
     simp -dsimp only [SE,astep,seval,Bool.not_true,xb,c0]
     refine Dy rfl rfl ?_
     have s1:=store_all (n:=5) gr (new:=z25) rfl rfl rfl
     obtain ⟨H9,hH9,g9,n9,f9⟩:=upd gr (.cells 27 z25)
     have l9:=load_all (n:=5) g9 rfl
     refine Dg rfl ?_
     simp -dsimp only [SE,astep,seval,Env.parts,afill,← hz,s1,← hH9]
     refine Dm rfl ?_
     exact DR.ret ⟨NR (none,11),by simp [aresult,ares,Env.get,l9],rfl⟩
    have c0:abin .eql (.int .i64 b.n) (.int .i64 0)=some (.bool false):=eqlF hb0
    refine Dg rfl ?_
    simp -dsimp only [SE,astep,seval,Bool.not_true,xb,c0]
    refine Dn rfl rfl ?_
    have q1:=quoI hra hrb hb0
    have q2:=remI (a:=a.n) hb0
    rcases hdr with rfl | rfl
    ·have c1:abin .eql (.str o_div) (.str o_rem)=some (.bool false):=sgF (by decide)
     have e:dividedR o_div a.n b.n=intR (a.n.tdiv b.n):=by unfold dividedR; rw [if_neg hb0,if_pos rfl]
     rw [e]
     refine Dg rfl ?_
     simp -dsimp only [SE,astep,seval,c1]
     refine Dn rfl rfl ?_
     refine Dg rfl ?_
     simp -dsimp only [SE,astep,seval,xa,xb,q1]
     refine (r55 (a.n.tdiv b.n) H).mono ?_
     rintro r H' ⟨rfl,he⟩
     obtain rfl:=he.symm
     have s1:=store_all (n:=5) gr (new:=cel (intR (a.n.tdiv b.n))) (cel_len _) (cel_ones _) rfl
     obtain ⟨H9,hH9,g9,n9,f9⟩:=upd gr (.cells 27 (cel (intR (a.n.tdiv b.n))))
     have l9:=load_all (n:=5) g9 (cel_len _)
     have i0:([.agg (cel (intR (a.n.tdiv b.n))),.int .i64 (intR (a.n.tdiv b.n)).2]:List AVal)[0]? = some (.agg (cel (intR (a.n.tdiv b.n)))):=rfl
     have i1:([.agg (cel (intR (a.n.tdiv b.n))),.int .i64 (intR (a.n.tdiv b.n)).2]:List AVal)[1]? = some (.int .i64 (intR (a.n.tdiv b.n)).2):=rfl
     simp -dsimp only [SE,astep,seval,i0,i1,s1,← hH9]
     refine Dm rfl ?_
     exact DR.ret ⟨NR (intR (a.n.tdiv b.n)),by simp [aresult,ares,Env.get,l9],rfl⟩
    ·have c1:abin .eql (.str o_rem) (.str o_rem)=some (.bool true):=sgT rfl
     have e:dividedR o_rem a.n b.n=intR (a.n.tmod b.n):=by unfold dividedR; rw [if_neg hb0,if_neg (by decide)]
     rw [e]
     refine Dg rfl ?_
     simp -dsimp only [SE,astep,seval,c1]
     refine Dy rfl rfl ?_
     refine Dg rfl ?_
     simp -dsimp only [SE,astep,seval,xa,xb,q2]
     refine (r55 (a.n.tmod b.n) H).mono ?_
     rintro r H' ⟨rfl,he⟩
     obtain rfl:=he.symm
     have s1:=store_all (n:=5) gr (new:=cel (intR (a.n.tmod b.n))) (cel_len _) (cel_ones _) rfl
     obtain ⟨H9,hH9,g9,n9,f9⟩:=upd gr (.cells 27 (cel (intR (a.n.tmod b.n))))
     have l9:=load_all (n:=5) g9 (cel_len _)
     have i0:([.agg (cel (intR (a.n.tmod b.n))),.int .i64 (intR (a.n.tmod b.n)).2]:List AVal)[0]? = some (.agg (cel (intR (a.n.tmod b.n)))):=rfl
     have i1:([.agg (cel (intR (a.n.tmod b.n))),.int .i64 (intR (a.n.tmod b.n)).2]:List AVal)[1]? = some (.int .i64 (intR (a.n.tmod b.n)).2):=rfl
     simp -dsimp only [SE,astep,seval,i0,i1,s1,← hH9]
     refine Dm rfl ?_
     exact DR.ret ⟨NR (intR (a.n.tmod b.n)),by simp [aresult,ares,Env.get,l9],rfl⟩
  rcases hdr with rfl | rfl
  ·have d1:abin .eql (.str o_div) (.str o_div)=some (.bool true):=sgT rfl
   refine Dg rfl ?_
   simp -dsimp only [SE,astep,seval,d1]
   exact go
  ·have d1:abin .eql (.str o_rem) (.str o_div)=some (.bool false):=sgF (by decide)
   have d2:abin .eql (.str o_rem) (.str o_rem)=some (.bool true):=sgT rfl
   refine Dg rfl ?_
   simp -dsimp only [SE,astep,seval,d1,d2]
   exact go
 ·rw [if_neg hdr]
  have d1:abin .eql (.str sg) (.str o_div)=some (.bool false):=sgF fun h=>hdr (.inl h)
  have d2:abin .eql (.str sg) (.str o_rem)=some (.bool false):=sgF fun h=>hdr (.inr h)
  refine Dg rfl ?_
  simp -dsimp only [SE,astep,seval,d1,d2]
  refine Dn rfl rfl ?_
  have fl:∀ T,T=0→DR Tryz.prog (kof k22) 120 [.code (.region false r22_20 [0,5,6,9]),.code (.seq (.region false r22_21 [0,6,9,10]) (.seq (.seq (.region false r22_22 [6,9,10,86]) (.block 1 (.seq (.region false r22_23 [6,9,10,86,87]) (.cond (.t 87) (.seq (.region false r22_24 [6,7]) .ret) (.seq (.region false r22_25 [6,9,10,86,95]) (.cond (.t 95) (.seq (.region false r22_26 [6,7]) .ret) (.seq (.region false r22_27 [6,9,10,103]) (.cond (.t 103) (.seq (.region false r22_28 [6,7]) .ret) .skip)))))))) (.seq (.seq (.region false r22_29 [6,9,10,112]) (.cond (.t 112) (.seq (.region false r22_30 [6,7]) .ret) .skip)) (.seq (.region false r22_31 [6,7]) .ret))))] [(0,.str sg),(4,.ptr i4 0),(5,.ptr i5 0),(6,.ptr i6 0)] H (FQ (floatingR sg (realv a.k a.n a.f) (realv b.k b.n b.f))):=fun _ _=>t22f oa ob fa fb na nb ga gb gr
  cases hwc:w with
  | false=>
   have hn:¬ (a.k=1∧b.k=1):=by rw [hwc] at hw; exact of_decide_eq_false hw.symm
   rw [if_neg (fun h=>hn h.1)]
   refine Dg rfl ?_
   simp -dsimp only [SE,astep,seval]
   refine Dn rfl rfl ?_
   refine Dm rfl ?_
   exact DR.only [0,4,5,6] (fl 0 rfl)
  | true=>
   have hn:a.k=1∧b.k=1:=by rw [hwc] at hw; exact of_decide_eq_true hw.symm
   by_cases hq:sg=o_quo
   ·rw [if_neg (fun h=>h.2 hq)]
    have d3:abin .neq (.str sg) (.str o_quo)=some (.bool false):=by rw [neq_strs]; simp [hq]
    refine Dg rfl ?_
    simp -dsimp only [SE,astep,seval,d3]
    refine Dn rfl rfl ?_
    refine Dm rfl ?_
    exact DR.only [0,4,5,6] (fl 0 rfl)
   ·rw [if_pos ⟨hn,hq⟩]
    have d3:abin .neq (.str sg) (.str o_quo)=some (.bool true):=by rw [neq_strs]; simp [hq]
    refine Dg rfl ?_
    simp -dsimp only [SE,astep,seval,d3]
    refine Dy rfl rfl ?_
    refine Dg rfl ?_
    simp -dsimp only [SE,astep,seval,xa,xb]
    refine (r59 (sg:=sg) hra hrb H).mono ?_
    rintro r H' ⟨rfl,he⟩
    obtain rfl:=he.symm
    have s1:=store_all (n:=5) gr (new:=cel (exactR sg a.n b.n)) (cel_len _) (cel_ones _) rfl
    obtain ⟨H9,hH9,g9,n9,f9⟩:=upd gr (.cells 27 (cel (exactR sg a.n b.n)))
    have l9:=load_all (n:=5) g9 (cel_len _)
    have i0:([.agg (cel (exactR sg a.n b.n)),.int .i64 (exactR sg a.n b.n).2]:List AVal)[0]? = some (.agg (cel (exactR sg a.n b.n))):=rfl
    have i1:([.agg (cel (exactR sg a.n b.n)),.int .i64 (exactR sg a.n b.n).2]:List AVal)[1]? = some (.int .i64 (exactR sg a.n b.n).2):=rfl
    simp -dsimp only [SE,astep,seval,i0,i1,s1,← hH9]
    refine Dm rfl ?_
    exact DR.ret ⟨NR (exactR sg a.n b.n),by simp [aresult,ares,Env.get,l9],rfl⟩
theorem t22 {sg:ByteArray} (hsg:sg=o_add∨sg=o_sub∨sg=o_mul∨sg=o_quo∨sg=o_div∨sg=o_rem) {a b:TM} {H:AHeap} {i4 i5 i6:Nat} (oa:a.ok) (ob:b.ok) (fa:fine a) (fb:fine b)
  (ga:H.get i4=some (.cells 27 (TM.c5 a))) (gb:H.get i5=some (.cells 27 (TM.c5 b))) (gr:H.get i6=some (.cells 27 z25)) :
  DR Tryz.prog (kof k22) 120 [.code (.region false r22_9 [0,4,5,6,27]),.code (.cond (.t 27) (.seq (.region false r22_10 [6,7]) .ret) .skip),.code (.seq (.region false r22_11 [0,4,5,6,8]) (.seq (.seq (.region false r22_12 [0,4,5,6,8,42]) (.cond (.t 42) (.seq (.seq (.region false r22_13 [0,4,5,6,49]) (.cond (.t 49) (.seq (.region false r22_14 [6,7]) .ret) .skip)) (.seq (.seq (.region false r22_15 [4,5,6,52]) (.cond (.t 52) (.seq (.region false r22_16 [6,7]) .ret) .skip)) (.seq (.region false r22_17 [6,7]) .ret))) .skip)) (.seq (.seq (.region false r22_18 [0,4,5,6,73]) (.cond (.t 73) (.seq (.region false r22_19 [6,7]) .ret) .skip)) (.seq (.region false r22_20 [0,5,6,9]) (.seq (.region false r22_21 [0,6,9,10]) (.seq (.seq (.region false r22_22 [6,9,10,86]) (.block 1 (.seq (.region false r22_23 [6,9,10,86,87]) (.cond (.t 87) (.seq (.region false r22_24 [6,7]) .ret) (.seq (.region false r22_25 [6,9,10,86,95]) (.cond (.t 95) (.seq (.region false r22_26 [6,7]) .ret) (.seq (.region false r22_27 [6,9,10,103]) (.cond (.t 103) (.seq (.region false r22_28 [6,7]) .ret) .skip)))))))) (.seq (.seq (.region false r22_29 [6,9,10,112]) (.cond (.t 112) (.seq (.region false r22_30 [6,7]) .ret) .skip)) (.seq (.region false r22_31 [6,7]) .ret))))))))] [(0,.str sg),(4,.ptr i4 0),(5,.ptr i5 0),(6,.ptr i6 0)] H (FQ (opR sg a b)):=by
 have hz:z25=[.int .i64 0,.int .i64 0,.flt .f64 0,.str ⟨#[]⟩,.nils]:=rfl
 have la:=load_all (n:=5) ga rfl
 have lb:=load_all (n:=5) gb rfl
 have ka:=load_cell ga (o:=0) (v:=.int .i64 a.k) rfl
 have kb:=load_cell gb (o:=0) (v:=.int .i64 b.k) rfl
 refine Dg rfl ?_
 simp -dsimp only [SE,astep,seval,la]
 refine (r54 oa fa H).mono ?_
 rintro r H' ⟨rfl,he⟩
 obtain rfl:=he.symm
 cases na:isNb a with
 | false=>
  have e:opR sg a b=(none,11):=by unfold opR; rw [na]; simp
  rw [e]
  simp -dsimp only [SE,astep,seval,Bool.not_false]
  refine Dy rfl rfl ?_
  have s1:=store_all (n:=5) gr (new:=z25) rfl rfl rfl
  obtain ⟨H9,hH9,g9,n9,f9⟩:=upd gr (.cells 27 z25)
  have l9:=load_all (n:=5) g9 rfl
  refine Dg rfl ?_
  simp -dsimp only [SE,astep,seval,Env.parts,afill,← hz,s1,← hH9]
  refine Dm rfl ?_
  exact DR.ret ⟨NR (none,11),by simp [aresult,ares,Env.get,l9],rfl⟩
 | true=>
  simp -dsimp only [SE,astep,seval,Bool.not_true,lb]
  refine (r54 ob fb H).mono ?_
  rintro r H' ⟨rfl,he⟩
  obtain rfl:=he.symm
  cases nb:isNb b with
  | false=>
   have e:opR sg a b=(none,11):=by unfold opR; rw [nb]; simp
   rw [e]
   simp -dsimp only [SE,astep,seval,Bool.not_false]
   refine Dy rfl rfl ?_
   have s1:=store_all (n:=5) gr (new:=z25) rfl rfl rfl
   obtain ⟨H9,hH9,g9,n9,f9⟩:=upd gr (.cells 27 z25)
   have l9:=load_all (n:=5) g9 rfl
   refine Dg rfl ?_
   simp -dsimp only [SE,astep,seval,Env.parts,afill,← hz,s1,← hH9]
   refine Dm rfl ?_
   exact DR.ret ⟨NR (none,11),by simp [aresult,ares,Env.get,l9],rfl⟩
  | true=>
   simp -dsimp only [SE,astep,seval,Bool.not_true]
   refine Dn rfl rfl ?_
   by_cases h1:a.k=1
   ·have c1:=eqlT h1
    have c2:=eql_dec b.k 1
    refine Dg rfl ?_
    simp -dsimp only [SE,astep,seval,ka,c1,kb,c2]
    refine Dm rfl ?_
    exact t22w hsg oa ob fa fb na nb ga gb gr _ (by simp [h1])
   ·have c1:abin .eql (.int .i64 a.k) (.int .i64 1)=some (.bool false):=eqlF h1
    refine Dg rfl ?_
    simp -dsimp only [SE,astep,seval,ka,c1]
    refine Dm rfl ?_
    exact t22w hsg oa ob fa fb na nb ga gb gr _ (by simp [h1])
theorem r22 {sg:ByteArray} (hsg:sg=o_add∨sg=o_sub∨sg=o_mul∨sg=o_quo∨sg=o_div∨sg=o_rem) {a b:TM} (oa:a.ok) (ob:b.ok) (fa:fine a) (fb:fine b) (H:AHeap):DCall Tryz.prog 22 [.str sg,a.agg,b.agg] H fun r H'=>r=NR (opR sg a b)∧H'=H:=by
 refine NR_closed (by have h1:=TM.pures1 a; have h2:=TM.pures1 b; simp only [AVal.pures,AVal.pure,Bool.and_true,Bool.true_and] at h1 h2 ⊢; rw [h1,h2]; rfl) ?_ H
 have hz:z25=[.int .i64 0,.int .i64 0,.flt .f64 0,.str ⟨#[]⟩,.nils]:=rfl
 obtain ⟨H1,hH1,g1,n1,f1⟩:=psh AHeap.empty (.cells 27 (TM.c5 a))
 obtain ⟨H2,hH2,g2,n2,f2⟩:=psh H1 (.cells 27 (TM.c5 b))
 obtain ⟨H3,hH3,g3,n3',f3⟩:=psh H2 (.cells 27 z25)
 have a3:H3.get AHeap.empty.next=some (.cells 27 (TM.c5 a)):=by rw [f3 _ (by rw [n2,n1]; omega),f2 _ (by rw [n1]; omega)]; exact g1
 have b3:H3.get H1.next=some (.cells 27 (TM.c5 b)):=by rw [f3 _ (by rw [n2]; omega)]; exact g2
 have fin:=t22 hsg oa ob fa fb a3 b3 g3
 refine DCall.of_body (fn:=Tryz.f22) (by kernel_rfl) c22 (by kernel_rfl) (by simp [f22]) ?_
 unfold f22
 simp only []
 refine Dg rfl ?_
 simp -dsimp only [SE,astep,seval,← hH1,← hH2,← hz,← hH3]
 refine Dg rfl ?_
 simp -dsimp only [SE,astep,seval]
 rcases hsg with rfl | rfl | rfl | rfl | rfl | rfl
 ·have c0:abin .eql (.str o_add) (.str o_add)=some (.bool true):=sgT rfl
  refine Dg rfl ?_
  simp -dsimp only [SE,astep,seval,c0]
  refine Dy rfl rfl ?_
  refine Dm rfl ?_
  refine Dy rfl rfl ?_
  refine Dm rfl ?_
  exact DR.only [0,4,5,6] fin
 ·have c0:abin .eql (.str o_sub) (.str o_add)=some (.bool false):=sgF (by decide)
  have c1:abin .eql (.str o_sub) (.str o_sub)=some (.bool true):=sgT rfl
  refine Dg rfl ?_
  simp -dsimp only [SE,astep,seval,c0]
  refine Dn rfl rfl ?_
  refine Dg rfl ?_
  simp -dsimp only [SE,astep,seval,c1]
  refine Dy rfl rfl ?_
  refine Dm rfl ?_
  refine Dy rfl rfl ?_
  refine Dm rfl ?_
  exact DR.only [0,4,5,6] fin
 ·have c0:abin .eql (.str o_mul) (.str o_add)=some (.bool false):=sgF (by decide)
  have c1:abin .eql (.str o_mul) (.str o_sub)=some (.bool false):=sgF (by decide)
  have c2:abin .eql (.str o_mul) (.str o_mul)=some (.bool true):=sgT rfl
  refine Dg rfl ?_
  simp -dsimp only [SE,astep,seval,c0]
  refine Dn rfl rfl ?_
  refine Dg rfl ?_
  simp -dsimp only [SE,astep,seval,c1]
  refine Dn rfl rfl ?_
  refine Dg rfl ?_
  simp -dsimp only [SE,astep,seval,c2]
  refine Dy rfl rfl ?_
  refine Dm rfl ?_
  refine Dy rfl rfl ?_
  refine Dm rfl ?_
  exact DR.only [0,4,5,6] fin
 ·have c0:abin .eql (.str o_quo) (.str o_add)=some (.bool false):=sgF (by decide)
  have c1:abin .eql (.str o_quo) (.str o_sub)=some (.bool false):=sgF (by decide)
  have c2:abin .eql (.str o_quo) (.str o_mul)=some (.bool false):=sgF (by decide)
  have c3:abin .eql (.str o_quo) (.str o_quo)=some (.bool true):=sgT rfl
  refine Dg rfl ?_
  simp -dsimp only [SE,astep,seval,c0]
  refine Dn rfl rfl ?_
  refine Dg rfl ?_
  simp -dsimp only [SE,astep,seval,c1]
  refine Dn rfl rfl ?_
  refine Dg rfl ?_
  simp -dsimp only [SE,astep,seval,c2]
  refine Dn rfl rfl ?_
  refine Dg rfl ?_
  simp -dsimp only [SE,astep,seval,c3]
  refine Dy rfl rfl ?_
  refine Dm rfl ?_
  refine Dy rfl rfl ?_
  refine Dm rfl ?_
  exact DR.only [0,4,5,6] fin
 ·have c0:abin .eql (.str o_div) (.str o_add)=some (.bool false):=sgF (by decide)
  have c1:abin .eql (.str o_div) (.str o_sub)=some (.bool false):=sgF (by decide)
  have c2:abin .eql (.str o_div) (.str o_mul)=some (.bool false):=sgF (by decide)
  have c3:abin .eql (.str o_div) (.str o_quo)=some (.bool false):=sgF (by decide)
  have c4:abin .eql (.str o_div) (.str o_div)=some (.bool true):=sgT rfl
  refine Dg rfl ?_
  simp -dsimp only [SE,astep,seval,c0]
  refine Dn rfl rfl ?_
  refine Dg rfl ?_
  simp -dsimp only [SE,astep,seval,c1]
  refine Dn rfl rfl ?_
  refine Dg rfl ?_
  simp -dsimp only [SE,astep,seval,c2]
  refine Dn rfl rfl ?_
  refine Dg rfl ?_
  simp -dsimp only [SE,astep,seval,c3]
  refine Dn rfl rfl ?_
  refine Dg rfl ?_
  simp -dsimp only [SE,astep,seval,c4]
  refine Dy rfl rfl ?_
  refine Dm rfl ?_
  refine Dy rfl rfl ?_
  refine Dm rfl ?_
  exact DR.only [0,4,5,6] fin
 ·have c0:abin .eql (.str o_rem) (.str o_add)=some (.bool false):=sgF (by decide)
  have c1:abin .eql (.str o_rem) (.str o_sub)=some (.bool false):=sgF (by decide)
  have c2:abin .eql (.str o_rem) (.str o_mul)=some (.bool false):=sgF (by decide)
  have c3:abin .eql (.str o_rem) (.str o_quo)=some (.bool false):=sgF (by decide)
  have c4:abin .eql (.str o_rem) (.str o_div)=some (.bool false):=sgF (by decide)
  have c5:abin .eql (.str o_rem) (.str o_rem)=some (.bool true):=sgT rfl
  refine Dg rfl ?_
  simp -dsimp only [SE,astep,seval,c0]
  refine Dn rfl rfl ?_
  refine Dg rfl ?_
  simp -dsimp only [SE,astep,seval,c1]
  refine Dn rfl rfl ?_
  refine Dg rfl ?_
  simp -dsimp only [SE,astep,seval,c2]
  refine Dn rfl rfl ?_
  refine Dg rfl ?_
  simp -dsimp only [SE,astep,seval,c3]
  refine Dn rfl rfl ?_
  refine Dg rfl ?_
  simp -dsimp only [SE,astep,seval,c4]
  refine Dn rfl rfl ?_
  refine Dg rfl ?_
  simp -dsimp only [SE,astep,seval,c5]
  refine Dy rfl rfl ?_
  refine Dm rfl ?_
  exact DR.only [0,4,5,6] fin
end Go.Am.Rl
namespace Go.Am.Rl
open Go.Proofs
def lcmp:List UInt8→List UInt8→Int
 | [],[]=>0
 | [],_::_=> -1
 | _::_,[]=>1
 | a::x,b::y=>if a≠b then (if a < b then -1 else 1) else lcmp x y
theorem lcmp_find:∀ x y:List UInt8,(match (List.range (min x.length y.length)).find? fun i=>x[i]! != y[i]! with
 | some i=>if x[i]! < y[i]! then (-1:Int) else 1
 | none=>if x.length < y.length then -1 else if x.length > y.length then 1 else 0)=lcmp x y
 | [],[]=>rfl
 | [],_::_=>by simp [lcmp]
 | _::_,[]=>by simp [lcmp]
 | a::x,b::y=>by
  have ih:=lcmp_find x y
  rw [show min (a::x).length (b::y).length=min x.length y.length+1 by simp only [List.length_cons]; omega,List.range_succ_eq_map,List.find?_cons]
  by_cases h:a=b
  ·subst h
   have h0:((a::x)[0]! != (a::y)[0]!)=false:=by simp
   rw [h0,List.find?_map]
   have hc:((fun i=>(a::x)[i]! != (a::y)[i]!) ∘ Nat.succ)=fun i=>x[i]! != y[i]! :=by funext i; simp
   rw [hc]
   rw [show lcmp (a::x) (a::y)=lcmp x y by simp [lcmp],← ih]
   cases (List.range (min x.length y.length)).find? fun i=>x[i]! != y[i]! with
   | none=>simp
   | some i=>simp
  ·have h0:((a::x)[0]! != (b::y)[0]!)=true:=by simp [h]
   rw [h0]
   simp [lcmp,h]
theorem cmpv_list (a b:ByteArray):cmpv a b=lcmp a.toList b.toList:=by
 rw [← lcmp_find,ByteArray.toList_eq,ByteArray.toList_eq]
 unfold cmpv Extern.BytealgCompare.cmp
 have h:∀ (c:ByteArray) (i:Nat),c[i]! = c.data.toList[i]! :=by
  intro c i
  simp only [getElem!_def]
  simp
  rfl
 simp only [h]
 simp
 rfl
theorem less_list:∀ x y:List UInt8,Op.bytesLess x y=decide (lcmp x y = -1)
 | [],[]=>by simp [Op.bytesLess,lcmp]
 | [],_::_=>by simp [Op.bytesLess,lcmp]
 | _::_,[]=>by simp [Op.bytesLess,lcmp]
 | a::x,b::y=>by
  have ih:=less_list x y
  simp only [Op.bytesLess,lcmp]
  by_cases h:a=b
  ·subst h
   have:¬ a < a:=UInt8.lt_irrefl a
   simp [this,ih]
  ·by_cases h':a < b
   ·simp [h,h']
   ·simp [h,h']
theorem lcmp_zero:∀ x y:List UInt8,(x==y)=decide (lcmp x y=0)
 | [],[]=>by simp [lcmp]
 | [],_::_=>by simp [lcmp]
 | _::_,[]=>by simp [lcmp]
 | a::x,b::y=>by
  have ih:=lcmp_zero x y
  rw [List.cons_beq_cons,ih]
  simp only [lcmp]
  by_cases h:a=b
  ·subst h; simp
  ·have hb:(a==b)=false:=by simp [h]
   rw [hb]
   by_cases h':a < b <;> simp [h,h']
theorem lss_str (a b:ByteArray):abin .lss (.str a) (.str b)=some (.bool (decide (cmpv a b = -1))):=by
 have e:abin .lss (.str a) (.str b)=some (.bool (Op.bytesLess a.toList b.toList)):=rfl
 rw [e,less_list,cmpv_list]
theorem gtr_str (a b:ByteArray):abin .gtr (.str a) (.str b)=some (.bool (decide (cmpv a b=1))):=by
 have e:abin .gtr (.str a) (.str b)=some (.bool !(Op.bytesLess a.toList b.toList || a.toList==b.toList)):=rfl
 have hi:=cmpv_in a b
 rw [e,less_list,lcmp_zero,← cmpv_list]
 congr 2
 generalize cmpv a b=c at hi
 rcases (show c = -1∨c=0∨c=1 by omega) with rfl | rfl | rfl <;> rfl
theorem r62 (a b:Int) (H:AHeap):DCall Tryz.prog 62 [.int .i64 a,.int .i64 b] H fun r H'=>r = .int .i64 (ordI a b)∧H'=H:=by
 refine DCall.of_body (fn:=Tryz.f62) (by kernel_rfl) c62 (by kernel_rfl) (by simp [f62]) ?_
 unfold f62
 simp only []
 refine Dg rfl ?_
 simp -dsimp only [SE,astep,seval]
 by_cases h1:a < b
 ·have c1:=lssT h1
  refine Dg rfl ?_
  simp -dsimp only [SE,astep,seval,c1]
  refine Dy rfl rfl ?_
  refine Dg rfl ?_
  simp -dsimp only [SE,astep,seval]
  refine Dm rfl ?_
  exact DR.ret ⟨_,by simp [aresult,ares,Env.get] <;> rfl,by unfold ordI; rw [if_pos h1],rfl⟩
 have c1:=lssF h1
 refine Dg rfl ?_
 simp -dsimp only [SE,astep,seval,c1]
 refine Dn rfl rfl ?_
 by_cases h2:b < a
 ·have c2:=gtrT h2
  refine Dg rfl ?_
  simp -dsimp only [SE,astep,seval,c2]
  refine Dy rfl rfl ?_
  refine Dg rfl ?_
  simp -dsimp only [SE,astep,seval]
  refine Dm rfl ?_
  exact DR.ret ⟨_,by simp [aresult,ares,Env.get] <;> rfl,by unfold ordI; rw [if_neg h1,if_pos h2],rfl⟩
 have c2:=gtrF h2
 refine Dg rfl ?_
 simp -dsimp only [SE,astep,seval,c2]
 refine Dn rfl rfl ?_
 refine Dg rfl ?_
 simp -dsimp only [SE,astep,seval]
 refine Dm rfl ?_
 exact DR.ret ⟨_,by simp [aresult,ares,Env.get] <;> rfl,by unfold ordI; rw [if_neg h1,if_neg h2],rfl⟩
def rk (k:Int):Int:=if k=1∨k=2 then 1 else if k=3∨k=4∨k=5∨k=6∨k=7 then k - 1 else 7
theorem r63 (t:TM) (H:AHeap):DCall Tryz.prog 63 [t.agg] H fun r H'=>r = .int .i64 (rk t.k)∧H'=H:=by
 have h:DCall Tryz.prog 63 [t.agg] AHeap.empty fun r H'=>∃ n,r = .int .i64 n∧n=rk t.k:=by
  obtain ⟨H1,hH1,g1,n1,f1⟩:=psh AHeap.empty (.cells 27 (TM.c5 t))
  have k0:=load_cell g1 (o:=0) (v:=.int .i64 t.k) rfl
  refine DCall.of_body (fn:=Tryz.f63) (by kernel_rfl) c63 (by kernel_rfl) (by simp [f63]) ?_
  unfold f63
  simp only []
  refine Dg rfl ?_
  simp -dsimp only [SE,astep,seval,← hH1]
  refine Dg rfl ?_
  simp -dsimp only [SE,astep,seval,k0]
  generalize t.k=k
  have lit:∀ n:Int,abin .eql (.int .i64 k) (.int .i64 n)=some (.bool (decide (k=n))):=eql_dec k
  by_cases h1:k=1
  ·have c:=(lit 1).trans (by rw [decide_eq_true h1])
   refine Dg rfl ?_
   simp -dsimp only [SE,astep,seval,c]
   refine Dy rfl rfl ?_
   refine Dy rfl rfl ?_
   refine Dg rfl ?_
   simp -dsimp only [SE,astep,seval]
   refine Dm rfl ?_
   exact DR.ret ⟨_,by simp [aresult,ares,Env.get] <;> rfl,_,rfl,by unfold rk; rw [if_pos (.inl h1)]⟩
  have c1:=(lit 1).trans (by rw [decide_eq_false h1])
  refine Dg rfl ?_
  simp -dsimp only [SE,astep,seval,c1]
  refine Dn rfl rfl ?_
  by_cases h2:k=2
  ·have c:=(lit 2).trans (by rw [decide_eq_true h2])
   refine Dg rfl ?_
   simp -dsimp only [SE,astep,seval,c]
   refine Dy rfl rfl ?_
   refine Dg rfl ?_
   simp -dsimp only [SE,astep,seval]
   refine Dm rfl ?_
   exact DR.ret ⟨_,by simp [aresult,ares,Env.get] <;> rfl,_,rfl,by unfold rk; rw [if_pos (.inr h2)]⟩
  have c2:=(lit 2).trans (by rw [decide_eq_false h2])
  refine Dg rfl ?_
  simp -dsimp only [SE,astep,seval,c2]
  refine Dn rfl rfl ?_
  by_cases h3:k=3
  ·have c:=(lit 3).trans (by rw [decide_eq_true h3])
   refine Dg rfl ?_
   simp -dsimp only [SE,astep,seval,c]
   refine Dy rfl rfl ?_
   refine Dg rfl ?_
   simp -dsimp only [SE,astep,seval]
   refine Dm rfl ?_
   exact DR.ret ⟨_,by simp [aresult,ares,Env.get] <;> rfl,_,rfl,by unfold rk; rw [if_neg (by omega),if_pos (by omega),h3]; rfl⟩
  have c3:=(lit 3).trans (by rw [decide_eq_false h3])
  refine Dg rfl ?_
  simp -dsimp only [SE,astep,seval,c3]
  refine Dn rfl rfl ?_
  by_cases h4:k=4
  ·have c:=(lit 4).trans (by rw [decide_eq_true h4])
   refine Dg rfl ?_
   simp -dsimp only [SE,astep,seval,c]
   refine Dy rfl rfl ?_
   refine Dg rfl ?_
   simp -dsimp only [SE,astep,seval]
   refine Dm rfl ?_
   exact DR.ret ⟨_,by simp [aresult,ares,Env.get] <;> rfl,_,rfl,by unfold rk; rw [if_neg (by omega),if_pos (by omega),h4]; rfl⟩
  have c4:=(lit 4).trans (by rw [decide_eq_false h4])
  refine Dg rfl ?_
  simp -dsimp only [SE,astep,seval,c4]
  refine Dn rfl rfl ?_
  by_cases h5:k=5
  ·have c:=(lit 5).trans (by rw [decide_eq_true h5])
   refine Dg rfl ?_
   simp -dsimp only [SE,astep,seval,c]
   refine Dy rfl rfl ?_
   refine Dg rfl ?_
   simp -dsimp only [SE,astep,seval]
   refine Dm rfl ?_
   exact DR.ret ⟨_,by simp [aresult,ares,Env.get] <;> rfl,_,rfl,by unfold rk; rw [if_neg (by omega),if_pos (by omega),h5]; rfl⟩
  have c5:=(lit 5).trans (by rw [decide_eq_false h5])
  refine Dg rfl ?_
  simp -dsimp only [SE,astep,seval,c5]
  refine Dn rfl rfl ?_
  by_cases h6:k=6
  ·have c:=(lit 6).trans (by rw [decide_eq_true h6])
   refine Dg rfl ?_
   simp -dsimp only [SE,astep,seval,c]
   refine Dy rfl rfl ?_
   refine Dg rfl ?_
   simp -dsimp only [SE,astep,seval]
   refine Dm rfl ?_
   exact DR.ret ⟨_,by simp [aresult,ares,Env.get] <;> rfl,_,rfl,by unfold rk; rw [if_neg (by omega),if_pos (by omega),h6]; rfl⟩
  have c6:=(lit 6).trans (by rw [decide_eq_false h6])
  refine Dg rfl ?_
  simp -dsimp only [SE,astep,seval,c6]
  refine Dn rfl rfl ?_
  by_cases h7:k=7
  ·have c:=(lit 7).trans (by rw [decide_eq_true h7])
   refine Dg rfl ?_
   simp -dsimp only [SE,astep,seval,c]
   refine Dy rfl rfl ?_
   refine Dg rfl ?_
   simp -dsimp only [SE,astep,seval]
   refine Dm rfl ?_
   exact DR.ret ⟨_,by simp [aresult,ares,Env.get] <;> rfl,_,rfl,by unfold rk; rw [if_neg (by omega),if_pos (by omega),h7]; rfl⟩
  have c7:=(lit 7).trans (by rw [decide_eq_false h7])
  refine Dg rfl ?_
  simp -dsimp only [SE,astep,seval,c7]
  refine Dn rfl rfl ?_
  refine Dg rfl ?_
  simp -dsimp only [SE,astep,seval]
  refine Dm rfl ?_
  exact DR.ret ⟨_,by simp [aresult,ares,Env.get] <;> rfl,_,rfl,by unfold rk; rw [if_neg (by omega),if_neg (by omega)]⟩
 exact (DCall.ints (TM.pures1 t) h H).mono fun r H' ⟨⟨n,h1,h3⟩,h2⟩=>⟨by rw [h1,h3],h2⟩
theorem rk_ord {a b:Int} (ha:1≤a∧a≤8) (hb:1≤b∧b≤8):ordI (rk a) (rk b)=ordI (rank a - rank b) 0:=by
 unfold rk rank ordI
 repeat' split <;> omega
theorem r92 {f:Nat} (hf:fin64 f=true) (n:Int) (H:AHeap):DCall Tryz.prog 92 [.flt .f64 f,.int .i64 n] H fun r H'=>r = .int .i64 (exactv f n)∧H'=H:=by
 have b2:∀ op,(op = .lss∨op = .gtr∨op = .geq)→∀ x y:Nat,∃ b,abin op (.flt .f64 x) (.flt .f64 y)=some (.bool b):=by
  rintro op (rfl | rfl | rfl) x y <;> exact ⟨_,rfl⟩
 have c0:abin .neq (.flt .f64 f) (.flt .f64 f)=some (.bool false):=neq_fin hf
 refine DCall.of_body (fn:=Tryz.f92) (by kernel_rfl) c92 (by kernel_rfl) (by simp [f92]) ?_
 unfold f92
 simp only []
 refine Dg rfl ?_
 simp -dsimp only [SE,astep,seval]
 refine Dg rfl ?_
 simp -dsimp only [SE,astep,seval,c0]
 refine Dn rfl rfl ?_
 obtain ⟨b1,c1⟩:=b2 .geq (.inr (.inr rfl)) f 4890909195324358656
 cases b1 with
 | true=>
  refine Dg rfl ?_
  simp -dsimp only [SE,astep,seval,c1]
  refine Dy rfl rfl ?_
  refine Dg rfl ?_
  simp -dsimp only [SE,astep,seval]
  refine Dm rfl ?_
  exact DR.ret ⟨_,by simp [aresult,ares,Env.get] <;> rfl,by unfold exactv; rw [if_pos (by rw [c1]; rfl)],rfl⟩
 | false=> ?_
 refine Dg rfl ?_
 simp -dsimp only [SE,astep,seval,c1]
 refine Dn rfl rfl ?_
 obtain ⟨b2',c2⟩:=b2 .lss (.inl rfl) f 14114281232179134464
 cases b2' with
 | true=>
  refine Dg rfl ?_
  simp -dsimp only [SE,astep,seval,c2]
  refine Dy rfl rfl ?_
  refine Dg rfl ?_
  simp -dsimp only [SE,astep,seval]
  refine Dm rfl ?_
  exact DR.ret ⟨_,by simp [aresult,ares,Env.get] <;> rfl,by unfold exactv; rw [if_neg (by rw [c1]; decide),if_pos (by rw [c2]; rfl)],rfl⟩
 | false=> ?_
 obtain ⟨t,w,q,ht,hw,hw2,hs,ho⟩:=exact_parts hf c1 c2
 have ev:exactv f n=if w < n then -1 else if n < w then 1 else if isT (abin .lss (.flt .f64 f) (.flt .f64 t))=true then -1 else if isT (abin .gtr (.flt .f64 f) (.flt .f64 t))=true then 1 else 0:=by
  unfold exactv
  rw [if_neg (by rw [c1]; decide),if_neg (by rw [c2]; decide),ht]
  simp only [hw]
 rw [ev]
 have sb:abin .sub (.flt .f64 f) (.flt .f64 (FloatKind.f64.nearest w))=some (.flt .f64 q):=by
  show some (flOr .f64 (FloatKind.f64.format.sub f (FloatKind.f64.nearest w)))=_
  rw [hs]; rfl
 refine Dg rfl ?_
 simp -dsimp only [SE,astep,seval,c2]
 refine Dn rfl rfl ?_
 refine Dg rfl ?_
 simp -dsimp only [SE,astep,seval,hw2]
 by_cases h1:w < n
 ·have d0:abin .neq (.int .i64 w) (.int .i64 n)=some (.bool true):=neqT (by omega)
  have d1:=lssT h1
  refine Dg rfl ?_
  simp -dsimp only [SE,astep,seval,d0]
  refine Dy rfl rfl ?_
  refine Dg rfl ?_
  simp -dsimp only [SE,astep,seval,d1]
  refine Dy rfl rfl ?_
  refine Dg rfl ?_
  simp -dsimp only [SE,astep,seval]
  refine Dm rfl ?_
  exact DR.ret ⟨_,by simp [aresult,ares,Env.get] <;> rfl,by rw [if_pos h1],rfl⟩
 rw [if_neg h1]
 by_cases h2:n < w
 ·have d0:abin .neq (.int .i64 w) (.int .i64 n)=some (.bool true):=neqT (by omega)
  have d1:=lssF h1
  refine Dg rfl ?_
  simp -dsimp only [SE,astep,seval,d0]
  refine Dy rfl rfl ?_
  refine Dg rfl ?_
  simp -dsimp only [SE,astep,seval,d1]
  refine Dn rfl rfl ?_
  refine Dg rfl ?_
  simp -dsimp only [SE,astep,seval]
  refine Dm rfl ?_
  exact DR.ret ⟨_,by simp [aresult,ares,Env.get] <;> rfl,by rw [if_pos h2],rfl⟩
 rw [if_neg h2]
 have d0:abin .neq (.int .i64 w) (.int .i64 n)=some (.bool false):=neqF (by omega)
 refine Dg rfl ?_
 simp -dsimp only [SE,astep,seval,d0]
 refine Dn rfl rfl ?_
 refine Dg rfl ?_
 simp -dsimp only [SE,astep,seval,sb]
 have l1:abin .lss (.flt .f64 q) (.flt .f64 0)=abin .lss (.flt .f64 f) (.flt .f64 t):=by
  show some (AVal.bool (FloatKind.f64.format.order q 0==some .lt))=some (AVal.bool (FloatKind.f64.format.order f t==some .lt))
  rw [ho]
 have l2:abin .gtr (.flt .f64 q) (.flt .f64 0)=abin .gtr (.flt .f64 f) (.flt .f64 t):=by
  show some (AVal.bool (FloatKind.f64.format.order q 0==some .gt))=some (AVal.bool (FloatKind.f64.format.order f t==some .gt))
  rw [ho]
 obtain ⟨b3,c3⟩:=b2 .lss (.inl rfl) f t
 rw [c3] at l1
 cases b3 with
 | true=>
  refine Dg rfl ?_
  simp -dsimp only [SE,astep,seval,l1]
  refine Dy rfl rfl ?_
  refine Dg rfl ?_
  simp -dsimp only [SE,astep,seval]
  refine Dm rfl ?_
  exact DR.ret ⟨_,by simp [aresult,ares,Env.get] <;> rfl,by rw [if_pos (by rw [c3]; rfl)],rfl⟩
 | false=> ?_
 rw [if_neg (by rw [c3]; decide)]
 refine Dg rfl ?_
 simp -dsimp only [SE,astep,seval,l1]
 refine Dn rfl rfl ?_
 obtain ⟨b4,c4⟩:=b2 .gtr (.inr (.inl rfl)) f t
 rw [c4] at l2
 cases b4 with
 | true=>
  refine Dg rfl ?_
  simp -dsimp only [SE,astep,seval,l2]
  refine Dy rfl rfl ?_
  refine Dg rfl ?_
  simp -dsimp only [SE,astep,seval]
  refine Dm rfl ?_
  exact DR.ret ⟨_,by simp [aresult,ares,Env.get] <;> rfl,by rw [if_pos (by rw [c4]; rfl)],rfl⟩
 | false=> ?_
 rw [if_neg (by rw [c4]; decide)]
 refine Dg rfl ?_
 simp -dsimp only [SE,astep,seval,l2]
 refine Dn rfl rfl ?_
 refine Dg rfl ?_
 simp -dsimp only [SE,astep,seval]
 refine Dm rfl ?_
 exact DR.ret ⟨_,by simp [aresult,ares,Env.get] <;> rfl,rfl,rfl⟩
theorem ordF_lss (x y:Nat):abin .lss (.flt .f64 x) (.flt .f64 y)=some (.bool (decide (ordF x y = -1))):=by
 have e:abin .lss (.flt .f64 x) (.flt .f64 y)=some (.bool (FloatKind.f64.format.order x y==some .lt)):=rfl
 rw [e]; unfold ordF
 generalize FloatKind.f64.format.order x y=o
 match o with
 | some .lt=>rfl
 | some .gt=>rfl
 | some .eq=>rfl
 | none=>rfl
theorem ordF_gtr (x y:Nat):abin .gtr (.flt .f64 x) (.flt .f64 y)=some (.bool (decide (ordF x y=1))):=by
 have e:abin .gtr (.flt .f64 x) (.flt .f64 y)=some (.bool (FloatKind.f64.format.order x y==some .gt)):=rfl
 rw [e]; unfold ordF
 generalize FloatKind.f64.format.order x y=o
 match o with
 | some .lt=>rfl
 | some .gt=>rfl
 | some .eq=>rfl
 | none=>rfl
theorem r64 {a b:TM} (na:numb a) (nb:numb b) (H:AHeap):DCall Tryz.prog 64 [a.agg,b.agg] H fun r H'=>r = .int .i64 (numv a.k a.n a.f b.k b.n b.f)∧H'=H:=by
 have h:DCall Tryz.prog 64 [a.agg,b.agg] AHeap.empty fun r H'=>∃ n,r = .int .i64 n∧n=numv a.k a.n a.f b.k b.n b.f:=by
  obtain ⟨H1,hH1,g1,n1,f1⟩:=psh AHeap.empty (.cells 27 (TM.c5 a))
  obtain ⟨H2,hH2,g2,n2,f2⟩:=psh H1 (.cells 27 (TM.c5 b))
  have a2:=(f2 _ (by omega)).trans g1
  have ka:=load_cell a2 (o:=0) (v:=.int .i64 a.k) rfl
  have na':=load_cell a2 (o:=1) (v:=.int .i64 a.n) rfl
  have fa:=load_cell a2 (o:=2) (v:=.flt .f64 a.f) rfl
  have kb:=load_cell g2 (o:=0) (v:=.int .i64 b.k) rfl
  have nb':=load_cell g2 (o:=1) (v:=.int .i64 b.n) rfl
  have fb:=load_cell g2 (o:=2) (v:=.flt .f64 b.f) rfl
  refine DCall.of_body (fn:=Tryz.f64) (by kernel_rfl) c64 (by kernel_rfl) (by simp [f64]) ?_
  unfold f64
  simp only []
  refine Dg rfl ?_
  simp -dsimp only [SE,astep,seval,← hH1,← hH2]
  rcases na with hka | ⟨hka,hfa⟩
  ·have ca:=eqlT hka
   have ca2:abin .eql (.int .i64 a.k) (.int .i64 2)=some (.bool false):=eqlF (by omega)
   rcases nb with hkb | ⟨hkb,hfb⟩
   ·have cb:=eqlT hkb
    refine Dg rfl ?_
    simp -dsimp only [SE,astep,seval,ka,ca,kb,cb]
    refine Dy rfl rfl ?_
    have c1:abin .lss (.int .i64 a.n) (.int .i64 b.n)=some (.bool (decide (a.n < b.n))):=rfl
    have c2:abin .gtr (.int .i64 a.n) (.int .i64 b.n)=some (.bool (decide (b.n < a.n))):=rfl
    by_cases h1:a.n < b.n
    ·rw [decide_eq_true h1] at c1
     refine Dg rfl ?_
     simp -dsimp only [SE,astep,seval,na',nb',c1]
     refine Dy rfl rfl ?_
     refine Dg rfl ?_
     simp -dsimp only [SE,astep,seval]
     refine Dm rfl ?_
     exact DR.ret ⟨_,by simp [aresult,ares,Env.get] <;> rfl,_,rfl,by unfold numv ordI; rw [if_pos ⟨hka,hkb⟩,if_pos h1]⟩
    rw [decide_eq_false h1] at c1
    refine Dg rfl ?_
    simp -dsimp only [SE,astep,seval,na',nb',c1]
    refine Dn rfl rfl ?_
    by_cases h2:b.n < a.n
    ·rw [decide_eq_true h2] at c2
     refine Dg rfl ?_
     simp -dsimp only [SE,astep,seval,na',nb',c2]
     refine Dy rfl rfl ?_
     refine Dg rfl ?_
     simp -dsimp only [SE,astep,seval]
     refine Dm rfl ?_
     exact DR.ret ⟨_,by simp [aresult,ares,Env.get] <;> rfl,_,rfl,by unfold numv ordI; rw [if_pos ⟨hka,hkb⟩,if_neg h1,if_pos h2]⟩
    rw [decide_eq_false h2] at c2
    refine Dg rfl ?_
    simp -dsimp only [SE,astep,seval,na',nb',c2]
    refine Dn rfl rfl ?_
    refine Dg rfl ?_
    simp -dsimp only [SE,astep,seval]
    refine Dm rfl ?_
    exact DR.ret ⟨_,by simp [aresult,ares,Env.get] <;> rfl,_,rfl,by unfold numv ordI; rw [if_pos ⟨hka,hkb⟩,if_neg h1,if_neg h2]⟩
   ·have cb:abin .eql (.int .i64 b.k) (.int .i64 1)=some (.bool false):=eqlF (by omega)
    have hi:=exactv_in b.f a.n
    have sb:abin .sub (.int .i64 0) (.int .i64 (exactv b.f a.n))=some (.int .i64 (- exactv b.f a.n)):=by
     show some (AVal.int .i64 (IntKind.i64.wrap (0 - exactv b.f a.n)))=_
     rw [IntKind.wrap_i64,show (0 - exactv b.f a.n+9223372036854775808) % 18446744073709551616 - 9223372036854775808 = - exactv b.f a.n by omega]
    refine Dg rfl ?_
    simp -dsimp only [SE,astep,seval,ka,ca,kb,cb]
    refine Dn rfl rfl ?_
    refine Dg rfl ?_
    simp -dsimp only [SE,astep,seval,ka,ca2]
    refine Dn rfl rfl ?_
    refine Dg rfl ?_
    simp -dsimp only [SE,astep,seval,ka,ca2]
    refine Dn rfl rfl ?_
    refine Dg rfl ?_
    simp -dsimp only [SE,astep,seval,fb,na']
    refine (r92 hfb a.n H2).mono ?_
    rintro r H' ⟨rfl,he⟩
    obtain rfl:=he.symm
    simp -dsimp only [SE,astep,seval,sb]
    refine Dm rfl ?_
    exact DR.ret ⟨_,by simp [aresult,ares,Env.get] <;> rfl,_,rfl,by unfold numv; rw [if_neg (by omega),if_pos hka]⟩
  ·have ca:abin .eql (.int .i64 a.k) (.int .i64 1)=some (.bool false):=eqlF (by omega)
   have ca2:=eqlT hka
   rcases nb with hkb | ⟨hkb,hfb⟩
   ·have cb2:abin .eql (.int .i64 b.k) (.int .i64 2)=some (.bool false):=eqlF (by omega)
    refine Dg rfl ?_
    simp -dsimp only [SE,astep,seval,ka,ca]
    refine Dn rfl rfl ?_
    refine Dg rfl ?_
    simp -dsimp only [SE,astep,seval,ka,ca2,kb,cb2]
    refine Dn rfl rfl ?_
    refine Dg rfl ?_
    simp -dsimp only [SE,astep,seval,ka,ca2]
    refine Dy rfl rfl ?_
    refine Dg rfl ?_
    simp -dsimp only [SE,astep,seval,fa,nb']
    refine (r92 hfa b.n H2).mono ?_
    rintro r H' ⟨rfl,he⟩
    obtain rfl:=he.symm
    simp -dsimp only [SE,astep,seval]
    refine Dm rfl ?_
    exact DR.ret ⟨_,by simp [aresult,ares,Env.get] <;> rfl,_,rfl,by unfold numv; rw [if_neg (by omega),if_neg (by omega),if_pos hkb]⟩
   ·have cb2:=eqlT hkb
    have c1:=ordF_lss a.f b.f
    have c2:=ordF_gtr a.f b.f
    have hi:=ordF_in a.f b.f
    have hv:numv a.k a.n a.f b.k b.n b.f=ordF a.f b.f:=by unfold numv; rw [if_neg (by omega),if_neg (by omega),if_neg (by omega)]
    rw [hv]
    generalize ordF a.f b.f=c at c1 c2 hi
    refine Dg rfl ?_
    simp -dsimp only [SE,astep,seval,ka,ca]
    refine Dn rfl rfl ?_
    refine Dg rfl ?_
    simp -dsimp only [SE,astep,seval,ka,ca2,kb,cb2]
    refine Dy rfl rfl ?_
    by_cases h1:c = -1
    ·rw [decide_eq_true h1] at c1
     refine Dg rfl ?_
     simp -dsimp only [SE,astep,seval,fa,fb,c1]
     refine Dy rfl rfl ?_
     refine Dg rfl ?_
     simp -dsimp only [SE,astep,seval]
     refine Dm rfl ?_
     exact DR.ret ⟨_,by simp [aresult,ares,Env.get] <;> rfl,_,rfl,h1.symm⟩
    rw [decide_eq_false h1] at c1
    refine Dg rfl ?_
    simp -dsimp only [SE,astep,seval,fa,fb,c1]
    refine Dn rfl rfl ?_
    by_cases h2:c=1
    ·rw [decide_eq_true h2] at c2
     refine Dg rfl ?_
     simp -dsimp only [SE,astep,seval,fa,fb,c2]
     refine Dy rfl rfl ?_
     refine Dg rfl ?_
     simp -dsimp only [SE,astep,seval]
     refine Dm rfl ?_
     exact DR.ret ⟨_,by simp [aresult,ares,Env.get] <;> rfl,_,rfl,h2.symm⟩
    rw [decide_eq_false h2] at c2
    refine Dg rfl ?_
    simp -dsimp only [SE,astep,seval,fa,fb,c2]
    refine Dn rfl rfl ?_
    refine Dg rfl ?_
    simp -dsimp only [SE,astep,seval]
    refine Dm rfl ?_
    exact DR.ret ⟨_,by simp [aresult,ares,Env.get] <;> rfl,_,rfl,by omega⟩
 exact (DCall.ints (TM.pures22 a b) h H).mono fun r H' ⟨⟨n,h1,h3⟩,h2⟩=>⟨by rw [h1,h3],h2⟩
end Go.Am.Rl
