/- Parts: W2, TB28, TB29, TB30, TB33, TB34, LT2, W3, W4. -/
import Derived.Test.YtmoimchdhgoeeaaDoorXC
import Derived.Test.YtmoimchdhgoeeaaDoorAmS
import Derived.Test.YtmoimchdhgoeeaaDoorFn2
import Derived.Test.YtmoimchdhgoeeaaDoorXB
set_option linter.unusedVariables false
set_option linter.unusedSimpArgs false
set_option maxRecDepth 20000
namespace Go.Am.Rl
open Go.Proofs
theorem one_strR {H:AHeap} {c:Int}:abytesStr H (.ros [.int .u8 c] 1)=some (.str (strOf [c])):=rfl
theorem rem10n (n:Nat):abin .rem (.int .u64 (n:Nat)) (.int .u64 10)=some (.int .u64 ((n % 10:Nat):Int)):=by
 have h:¬ ((10:Int)=0):=by decide
 simp only [abin]
 rw [if_pos trivial,if_neg h,Int.tmod_eq_emod_of_nonneg (by omega)]; rfl
theorem quo10n {n:Nat} (hn:n < 18446744073709551616):abin .quo (.int .u64 (n:Nat)) (.int .u64 10)=some (.int .u64 ((n / 10:Nat):Int)):=by
 have h:¬ ((10:Int)=0):=by decide
 have hd:n / 10≤n:=Nat.div_le_self _ _
 simp only [abin]
 rw [if_pos trivial,if_neg h,Int.tdiv_eq_ediv_of_nonneg (by omega)]
 have e:(n:Int) / 10=((n / 10:Nat):Int):=by omega
 rw [e,wrapU64 (by omega)]
theorem add48n {d:Nat} (h:d < 10):abin .add (.int .u64 48) (.int .u64 (d:Nat))=some (.int .u64 ((48+d:Nat):Int)):=by
 simp only [abin]
 have e:(48:Int)+(d:Int)=((48+d:Nat):Int):=by omega
 rw [if_pos trivial,e,wrapU64 (by omega)]
theorem lss_u64 (a b:Nat):abin .lss (.int .u64 (a:Nat)) (.int .u64 (b:Nat))=some (.bool (decide (a < b))):=by simp [abin]
theorem decL_len20 {u:Nat} (h:u < 18446744073709551616):(decL u).length≤20:=decL_len 20 u (by omega) (by omega)
theorem g51:∀ u:Nat,u < 18446744073709551616→∀ H,DCall Tryd.prog 51 [.int .u64 (u:Nat)] H fun r H'=>r = .str (strOf (decL u))∧H'=H:=by
 intro u
 induction u using Nat.strongRecOn with
 | _ u ih=>
  intro hu H
  have hc:abin .lss (.int .u64 (u:Nat)) (.int .u64 10)=some (.bool (decide (u < 10))):=lss_u64 u 10
  by_cases h:u < 10
  ·rw [decide_eq_true h] at hc
   have ha:=add48n h
   have hw:IntKind.u8.wrap ((48+u:Nat):Int)=((48+u:Nat):Int):=wrapU8 (by omega)
   have hos:=one_strR (H:=H) (c:=((48+u:Nat):Int))
   rw [decL_lt h]
   refine DCall.of_body (fn:=Tryd.f51) (by kernel_rfl) c51 (by kernel_rfl) (by simp [f51]) ?_
   unfold f51
   simp only []
   refine Dg rfl ?_
   simp -dsimp only [SE,astep,seval,rowq]
   refine Dg rfl ?_
   simp -dsimp only [SE,astep,seval,rowq,hc]
   refine Dy rfl rfl ?_
   refine Dg rfl ?_
   simp -dsimp only [SE,astep,seval,rowq,ha,hw,Env.parts,afill,LZ,List.drop_one,List.tail_cons,hos]
   refine Dm rfl ?_
   exact DR.ret ⟨_,by simp [aresult,ares,Env.get] <;> rfl,rfl,rfl⟩
  ·rw [decide_eq_false h] at hc
   have ha:=add48n (Nat.mod_lt u (show 10 > 0 by decide))
   have hw:IntKind.u8.wrap ((48+u % 10:Nat):Int)=((48+u % 10:Nat):Int):=wrapU8 (by omega)
   have hos:=one_strR (H:=H) (c:=((48+u % 10:Nat):Int))
   have hq:=quo10n hu
   have hr:=rem10n u
   have hl:=decL_len20 (u:=u / 10) (by omega)
   have hcat:=cat_strOf (a:=decL (u / 10)) (b:=[((48+u % 10:Nat):Int)]) (by simp; omega)
   rw [← decL_ge h] at hcat
   refine DCall.of_body (fn:=Tryd.f51) (by kernel_rfl) c51 (by kernel_rfl) (by simp [f51]) ?_
   unfold f51
   simp only []
   refine Dg rfl ?_
   simp -dsimp only [SE,astep,seval,rowq]
   refine Dg rfl ?_
   simp -dsimp only [SE,astep,seval,rowq,hc]
   refine Dn rfl rfl ?_
   refine Dm rfl ?_
   refine DR.draw (by kernel_rfl) d51_3 ?_
   simp -dsimp only [m51_3,SE,astep,seval,rowq,DS_nil,DS_cons,seesAll,staysAll,abit,List.getD_cons_zero,List.getD_cons_succ,AOp.quiet,AOp.reads,true_and,and_true,decide_true,decide_false,and_self,hq]
   refine (ih (u / 10) (by omega) (by omega) H).mono ?_
   rintro r H' ⟨rfl,he⟩
   obtain rfl:=he.symm
   simp -dsimp only [SE,astep,seval,rowq,DS_nil,DS_cons,seesAll,staysAll,abit,List.getD_cons_zero,List.getD_cons_succ,AOp.quiet,AOp.reads,true_and,and_true,decide_true,decide_false,and_self,hr,ha,hw,Env.parts,afill,LZ,List.drop_one,List.tail_cons,hos,hcat]
   refine Dm rfl ?_
   exact DR.ret ⟨_,by simp [aresult,ares,Env.get] <;> rfl,rfl,rfl⟩
theorem g30 {n:Int} (h1 : -9223372036854775808≤n) (h2:n < 9223372036854775808) (H:AHeap):DCall Tryd.prog 30 [.int .i64 n] H fun r H'=>r = .str (strOf (if n < 0 then 45::decL (-n).toNat else decL n.toNat))∧H'=H:=by
 by_cases hn:n < 0
 ·have hc:abin .lss (.int .i64 n) (.int .i64 0)=some (.bool true):=by simp [abin,hn]
  have hw:IntKind.u64.wrap n=n+18446744073709551616:=by
   rw [IntKind.wrap_u64]; omega
  have hs:abin .sub (.int .u64 0) (.int .u64 (n+18446744073709551616))=some (.int .u64 (((-n).toNat:Nat):Int)):=by
   simp only [abin]
   rw [if_pos trivial,IntKind.wrap_u64]
   congr 2; omega
  have hl:=decL_len20 (u:=(-n).toNat) (by omega)
  have hcat:=cat_strOf (a:=[45]) (b:=decL (-n).toNat) (by simp; omega)
  have hcat:abin .add (.str ⟨#[45]⟩) (.str (strOf (decL (-n).toNat)))=some (.str (strOf (45::decL (-n).toNat))):=hcat
  rw [if_pos hn]
  refine DCall.of_body (fn:=Tryd.f30) (by kernel_rfl) c30 (by kernel_rfl) (by simp [f30]) ?_
  unfold f30
  simp only []
  refine Dg rfl ?_
  simp -dsimp only [SE,astep,seval,rowq]
  refine Dg rfl ?_
  simp -dsimp only [SE,astep,seval,rowq,hc]
  refine Dy rfl rfl ?_
  refine Dg rfl ?_
  simp -dsimp only [SE,astep,seval,rowq,hw,hs]
  refine (g51 (-n).toNat (by omega) H).mono ?_
  rintro r H' ⟨rfl,he⟩
  obtain rfl:=he.symm
  simp -dsimp only [SE,astep,seval,rowq,hcat]
  refine Dm rfl ?_
  exact DR.ret ⟨_,by simp [aresult,ares,Env.get] <;> rfl,rfl,rfl⟩
 ·have hc:abin .lss (.int .i64 n) (.int .i64 0)=some (.bool false):=by simp [abin,hn]
  have hw:IntKind.u64.wrap n=((n.toNat:Nat):Int):=by
   rw [IntKind.wrap_u64]; omega
  rw [if_neg hn]
  refine DCall.of_body (fn:=Tryd.f30) (by kernel_rfl) c30 (by kernel_rfl) (by simp [f30]) ?_
  unfold f30
  simp only []
  refine Dg rfl ?_
  simp -dsimp only [SE,astep,seval,rowq]
  refine Dg rfl ?_
  simp -dsimp only [SE,astep,seval,rowq,hc]
  refine Dn rfl rfl ?_
  refine Dg rfl ?_
  simp -dsimp only [SE,astep,seval,rowq,hw]
  refine (g51 n.toNat (by omega) H).mono ?_
  rintro r H' ⟨rfl,he⟩
  obtain rfl:=he.symm
  simp -dsimp only [SE,astep,seval,rowq]
  refine Dm rfl ?_
  exact DR.ret ⟨_,by simp [aresult,ares,Env.get] <;> rfl,rfl,rfl⟩
theorem shrUn {q i:Nat} (hi:i≤60):abin .shr (.int .u64 (q:Nat)) (.int .u64 (i:Nat))=some (.int .u64 ((q / 2 ^ i:Nat):Int)):=by
 have hb:IntKind.u64.bits=64:=by decide
 simp only [abin]
 rw [if_neg (by omega),Int.toNat_natCast,hb,Nat.min_eq_left (by omega)]
 congr 2
 rw [Int.fdiv_eq_ediv_of_nonneg _ (Int.pow_nonneg (by omega)),Int.natCast_ediv,Int.natCast_pow]; rfl
theorem and15n {q:Nat} (hq:q < 18446744073709551616):abin .and (.int .u64 (q:Nat)) (.int .u64 15)=some (.int .u64 ((q % 16:Nat):Int)):=by
 have hb:IntKind.u64.bits=64:=by decide
 simp only [abin]
 rw [if_pos trivial,hb]
 have h1:(BitVec.ofInt 64 (q:Int) &&&BitVec.ofInt 64 15).toNat=q % 16:=by
  have e:(15:Int)=((15:Nat):Int):=rfl
  rw [BitVec.toNat_and,BitVec.ofInt_natCast,e,BitVec.ofInt_natCast,BitVec.toNat_ofNat,BitVec.toNat_ofNat,Nat.mod_eq_of_lt (by omega),Nat.mod_eq_of_lt (by omega)]
  exact Nat.and_two_pow_sub_one_eq_mod q 4
 rw [h1,wrapU64 (by omega)]
theorem add8n {a b:Nat} (h:a+b < 256):abin .add (.int .u8 (a:Nat)) (.int .u8 (b:Nat))=some (.int .u8 ((a+b:Nat):Int)):=by
 simp only [abin]
 rw [if_pos trivial,← Int.natCast_add,wrapU8 h]
theorem sub8n {a b:Nat} (h:a < 256) (hb:b≤a):abin .sub (.int .u8 (a:Nat)) (.int .u8 (b:Nat))=some (.int .u8 ((a - b:Nat):Int)):=by
 simp only [abin]
 rw [if_pos trivial,← Int.ofNat_sub hb,wrapU8 (by omega)]
theorem hexc_two {d:Nat} (h:d < 16):(d < 10∧hexc d=48+d)∨(¬ d < 10∧hexc d=97+d - 10):=by
 unfold hexc
 split <;> omega
section
variable {H0:AHeap} {u:Nat} {k k':List AItem} {Q:Env→AHeap→Prop}
theorem loop48 (hu:u < 18446744073709551616) (hk:aexitTo 0 k=some k') :
  ∀ (d j:Nat) (x:AVal) (H:AHeap),j+d=16→Out8 H0 H x (hexL u j)→
   (∀ x' H',Out8 H0 H' x' (hexL u 16)→DR Tryd.prog (kof k48) 33 k' [(3,x')] H' Q)→
   DR Tryd.prog (kof k48) 33 (.code l48_0::.inLoop l48_0::k) [(0,.int .u64 (u:Nat)),(3,x),(4,.int .i64 (j:Nat))] H Q:=by
 intro d
 induction d with
 | zero=>
  intro j x H hj hO hend
  obtain rfl:j=16:=by omega
  have hc:abin .lss (.int .i64 ((16:Nat):Int)) (.int .i64 16)=some (.bool false):=rfl
  refine Dg rfl ?_
  simp -dsimp only [SE,astep,seval,rowq,hc]
  refine Dn rfl rfl ?_
  refine DR.exit (k':=k') (by simpa [aexitTo] using hk) ?_
  exact DR.only [3] (hend x H hO)
 | succ d ih=>
  intro j x H hj hO hend
  have hc:=lss_nat j 16
  rw [decide_eq_true (by omega)] at hc
  have hc:abin .lss (.int .i64 (j:Nat)) (.int .i64 16)=some (.bool true):=hc
  have hm:abin .mul (.int .i64 4) (.int .i64 (j:Nat))=some (.int .i64 ((4 * j:Nat):Int)):=by
   have hw:IntKind.i64.wrap (4 * (j:Int))=((4 * j:Nat):Int):=by rw [show 4 * (j:Int)=((4 * j:Nat):Int) by omega]; exact wrap64 (by omega)
   simp only [abin,hw]; rfl
  have hs:abin .sub (.int .i64 60) (.int .i64 ((4 * j:Nat):Int))=some (.int .i64 ((60 - 4 * j:Nat):Int)):=by
   have hw:IntKind.i64.wrap (60 - ((4 * j:Nat):Int))=((60 - 4 * j:Nat):Int):=by rw [show 60 - ((4 * j:Nat):Int)=((60 - 4 * j:Nat):Int) by omega]; exact wrap64 (by omega)
   simp only [abin,hw]; rfl
  have hwi:IntKind.u64.wrap ((60 - 4 * j:Nat):Int)=((60 - 4 * j:Nat):Int):=wrapU64 (by omega)
  have hsh:=shrUn (q:=u) (i:=60 - 4 * j) (by omega)
  have hle:u / 2 ^ (60 - 4 * j)≤u:=Nat.div_le_self _ _
  have han:=and15n (q:=u / 2 ^ (60 - 4 * j)) (by omega)
  have hpw:2 ^ (60 - 4 * j)=16 ^ (15 - j):=by
   have:60 - 4 * j=4 * (15 - j):=by omega
   rw [this,Nat.pow_mul]
  have hdd:u / 2 ^ (60 - 4 * j) % 16=hexd u j:=by unfold hexd; rw [hpw]
  rw [hdd] at han
  have hdl:hexd u j < 16:=Nat.mod_lt _ (by decide)
  have hadd1:=inc_nat (i:=j) (by omega)
  obtain ⟨e,he⟩:∃ e,e=hexd u j:=⟨_,rfl⟩
  rw [← he] at han hdl
  have hw8:IntKind.u8.wrap (e:Int)=(e:Int):=wrapU8 (by omega)
  have hns:hexL u (j+1)=hexL u j++[((hexc e:Nat):Int)]:=by rw [hexL_succ,he]
  obtain ⟨x',H',ha,hO'⟩:=hO.push ((hexc e:Nat):Int) (by rw [hexL_len]; omega)
  rw [← hns] at hO'
  have h10:=lss_u8 e 10
  have h10:abin .lss (.int .u8 (e:Nat)) (.int .u8 10)=some (.bool (decide (e < 10))):=h10
  refine Dg rfl ?_
  simp -dsimp only [SE,astep,seval,rowq,hc]
  refine Dy rfl rfl ?_
  refine Dg rfl ?_
  simp -dsimp only [SE,astep,seval,rowq,hm,hs,hwi,hsh,han,hw8]
  rcases hexc_two hdl with ⟨hlt,hh⟩ | ⟨hlt,hh⟩
  ·rw [decide_eq_true hlt] at h10
   have hadd:abin .add (.int .u8 48) (.int .u8 (e:Int))=some (.int .u8 ((hexc e:Nat):Int)):=by rw [hh]; exact add8n (a:=48) (b:=e) (by omega)
   refine Dg rfl ?_
   simp -dsimp only [SE,astep,seval,rowq,h10]
   refine Dy rfl rfl ?_
   refine Dg rfl ?_
   simp -dsimp only [SE,astep,seval,rowq,hadd,Env.parts,afill,LZ,List.drop_one,List.tail_cons,ha]
   refine Dg rfl ?_
   simp -dsimp only [SE,astep,seval,rowq,hadd1]
   refine Dm rfl ?_
   refine DR.inLoop ?_
   exact ih (j+1) x' H' (by omega) hO' hend
  ·rw [decide_eq_false hlt] at h10
   have hadd:abin .add (.int .u8 97) (.int .u8 (e:Int))=some (.int .u8 ((97+e:Nat):Int)):=add8n (a:=97) (b:=e) (by omega)
   have hsub:abin .sub (.int .u8 ((97+e:Nat):Int)) (.int .u8 10)=some (.int .u8 ((hexc e:Nat):Int)):=by rw [hh]; exact sub8n (a:=97+e) (b:=10) (by omega) (by omega)
   refine Dg rfl ?_
   simp -dsimp only [SE,astep,seval,rowq,h10]
   refine Dn rfl rfl ?_
   refine Dg rfl ?_
   simp -dsimp only [SE,astep,seval,rowq,hadd,hsub,Env.parts,afill,LZ,List.drop_one,List.tail_cons,ha]
   refine Dg rfl ?_
   simp -dsimp only [SE,astep,seval,rowq,hadd1]
   refine Dm rfl ?_
   refine DR.inLoop ?_
   exact ih (j+1) x' H' (by omega) hO' hend
end
theorem g48 {u:Nat} (hu:u < 18446744073709551616) (H:AHeap):DCall Tryd.prog 48 [.int .u64 (u:Nat)] H fun r H'=>r = .str (strOf (hexL u 16))∧H'=H:=by
 have h:DCall Tryd.prog 48 [.int .u64 (u:Nat)] AHeap.empty fun r H'=>∃ s,r = .str s∧s=strOf (hexL u 16):=by
  refine DCall.of_body (fn:=Tryd.f48) (by kernel_rfl) c48 (by kernel_rfl) (by simp [f48]) ?_
  unfold f48
  simp only []
  refine Dg rfl ?_
  simp -dsimp only [SE,astep,seval,rowq]
  refine Dg rfl ?_
  simp -dsimp only [SE,astep,seval,rowq]
  refine Dg rfl ?_
  simp -dsimp only [SE,astep,seval,rowq]
  refine Dm rfl ?_
  refine DR.loop ?_
  refine loop48 hu rfl 16 0 .nils AHeap.empty (by omega) (Out8.new _) fun x' H' hO=> ?_
  have hs:=hO.gr.toStr
  refine Dg rfl ?_
  simp -dsimp only [SE,astep,seval,rowq,hs]
  refine Dm rfl ?_
  exact DR.ret ⟨_,by simp [aresult,ares,Env.get] <;> rfl,⟨_,rfl,rfl⟩⟩
 exact (DCall.strs rfl h H).mono fun r H' ⟨⟨s,h1,h2⟩,h3⟩=>⟨by rw [h1,h2],h3⟩
theorem g28i {n:Int} {f:Nat} {s:ByteArray} {r:AVal} (hr:AVal.pures [r]=true) (h1 : -9223372036854775808≤n) (h2:n < 9223372036854775808) (H:AHeap):DCall Tryd.prog 28 [.agg [.int .i64 1,.int .i64 n,.flt .f64 f,.str s,r]] H fun v H'=>v = .str (strOf (if n < 0 then 45::decL (-n).toNat else decL n.toNat))∧H'=H:=by
 have h:DCall Tryd.prog 28 [.agg [.int .i64 1,.int .i64 n,.flt .f64 f,.str s,r]] AHeap.empty fun v H'=>∃ t,v = .str t∧t=strOf (if n < 0 then 45::decL (-n).toNat else decL n.toNat):=by
  obtain ⟨H1,hH1,g1,n1,f1⟩:=psh AHeap.empty (.cells 44 [.int .i64 1,.int .i64 n,.flt .f64 f,.str s,r])
  have l0:=load_cell g1 (o:=0) (v:=.int .i64 1) rfl
  have l1:=load_cell g1 (o:=1) (v:=.int .i64 n) rfl
  have hc:abin .eql (.int .i64 1) (.int .i64 1)=some (.bool true):=rfl
  refine DCall.of_body (fn:=Tryd.f28) (by kernel_rfl) c28 (by kernel_rfl) (by simp [f28]) ?_
  unfold f28
  simp only []
  refine Dg rfl ?_
  simp -dsimp only [SE,astep,seval,rowq,← hH1]
  refine Dg rfl ?_
  simp -dsimp only [SE,astep,seval,rowq,l0,hc]
  refine Dy rfl rfl ?_
  refine Dg rfl ?_
  simp -dsimp only [SE,astep,seval,rowq,l1]
  refine (g30 h1 h2 H1).mono ?_
  rintro v H' ⟨rfl,he⟩
  obtain rfl:=he.symm
  simp -dsimp only [SE,astep,seval,rowq]
  refine Dm rfl ?_
  exact DR.ret ⟨_,by simp [aresult,ares,Env.get] <;> rfl,⟨_,rfl,rfl⟩⟩
 refine (DCall.strs ?_ h H).mono fun r H' ⟨⟨s,h1,h2⟩,h3⟩=>⟨by rw [h1,h2],h3⟩
 simpa [AVal.pures,AVal.pure] using hr
theorem g28f {n:Int} {f:Nat} {s:ByteArray} {r:AVal} (hr:AVal.pures [r]=true) (hf:f < 18446744073709551616) (H:AHeap):DCall Tryd.prog 28 [.agg [.int .i64 2,.int .i64 n,.flt .f64 f,.str s,r]] H fun v H'=>v = .str (strOf (35::hexL f 16))∧H'=H:=by
 have h:DCall Tryd.prog 28 [.agg [.int .i64 2,.int .i64 n,.flt .f64 f,.str s,r]] AHeap.empty fun v H'=>∃ t,v = .str t∧t=strOf (35::hexL f 16):=by
  obtain ⟨H1,hH1,g1,n1,f1⟩:=psh AHeap.empty (.cells 44 [.int .i64 2,.int .i64 n,.flt .f64 f,.str s,r])
  have l0:=load_cell g1 (o:=0) (v:=.int .i64 2) rfl
  have l2:=load_cell g1 (o:=2) (v:=.flt .f64 f) rfl
  have hc:abin .eql (.int .i64 2) (.int .i64 1)=some (.bool false):=rfl
  have hcat:=cat_strOf (a:=[35]) (b:=hexL f 16) (by rw [hexL_len]; simp)
  have hcat:abin .add (.str ⟨#[35]⟩) (.str (strOf (hexL f 16)))=some (.str (strOf (35::hexL f 16))):=hcat
  refine DCall.of_body (fn:=Tryd.f28) (by kernel_rfl) c28 (by kernel_rfl) (by simp [f28]) ?_
  unfold f28
  simp only []
  refine Dg rfl ?_
  simp -dsimp only [SE,astep,seval,rowq,← hH1]
  refine Dg rfl ?_
  simp -dsimp only [SE,astep,seval,rowq,l0,hc]
  refine Dn rfl rfl ?_
  refine Dg rfl ?_
  simp -dsimp only [SE,astep,seval,rowq,l2,aext,aext0]
  refine (g48 hf H1).mono ?_
  rintro v H' ⟨rfl,he⟩
  obtain rfl:=he.symm
  simp -dsimp only [SE,astep,seval,rowq,hcat]
  refine Dm rfl ?_
  exact DR.ret ⟨_,by simp [aresult,ares,Env.get] <;> rfl,⟨_,rfl,rfl⟩⟩
 refine (DCall.strs ?_ h H).mono fun r H' ⟨⟨s,h1,h2⟩,h3⟩=>⟨by rw [h1,h2],h3⟩
 simpa [AVal.pures,AVal.pure] using hr
end Go.Am.Rl
namespace Go.Am.Rl
open Go.Proofs
def tabR:Tab:=[(61,f61),(62,f62),(68,f68),(69,f69)]
theorem tabR_ok:tabR.Ok Tryd.prog:=⟨⟨Tryd.f61,kof k61,by kernel_rfl,c61,by kernel_rfl⟩,⟨Tryd.f62,kof k62,by kernel_rfl,c62,by kernel_rfl⟩,⟨Tryd.f68,kof k68,by kernel_rfl,c68,by kernel_rfl⟩,⟨Tryd.f69,kof k69,by kernel_rfl,c69,by kernel_rfl⟩,trivial⟩
abbrev T5 (k n:Int) (f:Nat) (s:ByteArray) (r:AVal):List AVal:=[.agg [.int .i64 k,.int .i64 n,.flt .f64 f,.str s,r]]
theorem TM.lt_of:∀ {l:List TM} {x:TM},x ∈ l→SizeOf.sizeOf x < SizeOf.sizeOf l
 | a::r,x,h=>by
  rcases List.mem_cons.mp h with rfl | h
  ·simp; omega
  ·have:=TM.lt_of h
   simp; omega
theorem TM.all {p:TM→Prop} (h:∀ t:TM,(∀ x ∈ t.l,p x)→p t):∀ t,p t:=by
 have:∀ n:Nat,∀ t:TM,SizeOf.sizeOf t < n→p t:=by
  intro n
  induction n with
  | zero=>intro t h; omega
  | succ n ih=>
   intro t ht
   refine h t fun x hx=>ih x ?_
   cases t with
   | mk k n f s nl l=>
    have:=TM.lt_of hx
    simp at ht
    have e:(TM.mk k n f s nl l).l=l:=rfl
    rw [e] at this
    omega
 exact fun t=>this _ t (Nat.lt_succ_self _)
theorem TM.pures1 (t:TM):AVal.pures [t.agg]=true:=by rw [← TM.agg_eq]; simp [AVal.pures,AVal.pure,TM.pure]
theorem TM.lenT {t:TM} (h:t.ok) (H:AHeap):alenT H 1 t.row=some t.l.length:=by
 cases t with
 | mk k n f s nl l=>
  cases nl with
  | true=>rw [show (TM.mk k n f s true l).l=[] from h.2.2.2.2.2.1 rfl]; rfl
  | false=>rfl
abbrev TM.c5 (t:TM):List AVal:=[.int .i64 t.k,.int .i64 t.n,.flt .f64 t.f,.str t.s,t.row]
theorem TM.pures2 (t:TM) (d m:Int):AVal.pures [t.agg,.int .i64 d,.int .i64 m]=true:=by
 have:=TM.pures1 t
 simp only [AVal.pures,Bool.and_true] at this ⊢
 rw [this]; rfl
def fin64 (f:Nat):Bool:=match FloatKind.f64.format.sub f f with
 | some r=>FloatKind.f64.format.order r 0==some .eq
 | none=>false
theorem g163x (f:Nat) (H:AHeap):DCall Tryd.prog 60 [.flt .f64 f] H fun r H'=>r = .bool (fin64 f)∧H'=H:=by
 have h:∃ v,abin .sub (.flt .f64 f) (.flt .f64 f)=some v∧abin .eql v (.flt .f64 0)=some (.bool (fin64 f)):=by
  unfold fin64
  cases h:FloatKind.f64.format.sub f f with
  | none=>exact ⟨.nan .f64,by simp [abin,h,flOr],rfl⟩
  | some r=>exact ⟨.flt .f64 r,by simp [abin,h,flOr],by simp [abin]⟩
 obtain ⟨v,hv,hb⟩:=h
 refine DCall.of_body (fn:=Tryd.f60) (by kernel_rfl) c60 (by kernel_rfl) (by simp [f60]) ?_
 unfold f60
 simp only []
 refine Dg rfl ?_
 simp -dsimp only [SE,astep,seval,rowq]
 refine Dg rfl ?_
 simp -dsimp only [SE,astep,seval,rowq,hv,hb]
 refine Dm rfl ?_
 exact DR.ret ⟨_,by simp [aresult,ares,Env.get] <;> rfl,⟨rfl,rfl⟩⟩
def known163:GKnown:=fun f xs H F=>match xs with
 | [.flt .f64 x]=>match Nat.beq f 60 with
  | true=>some ((fin64 x=true→F (.ret (.bool true)) H)∧(fin64 x=false→F (.ret (.bool false)) H))
  | false=>none
 | _=>none
theorem known163_ok:known163.Ok Tryd.prog:=by
 intro f xs H F p hp h
 unfold known163 at hp
 split at hp
 ·rename_i x
  split at hp
  ·rename_i e
   obtain rfl:=Nat.eq_of_beq_eq_true e
   injection hp with hp
   subst hp
   refine (DCall.x (g163x x H)).mono fun o H' ⟨r,ho,hr,hH⟩=> ?_
   subst hr; subst hH; subst ho
   cases hb:fin64 x with
   | true=>exact h.1 hb
   | false=>exact h.2 hb
  ·cases hp
 ·cases hp
abbrev Cond:=BinOp × AVal × AVal × Bool
def Cond.met (c:Cond):Prop:=abin c.1 c.2.1 c.2.2.1=some (.bool c.2.2.2)
def chainP:List Cond→Prop→Prop→Prop
 | [],good,_=>good
 | (c,u,v,true)::r,good,bad=>isCmp c u v=true∧(abin c u v=some (.bool true)→chainP r good bad)∧(abin c u v=some (.bool false)→bad)
 | (c,u,v,false)::r,good,bad=>isCmp c u v=true∧(abin c u v=some (.bool true)→bad)∧(abin c u v=some (.bool false)→chainP r good bad)
theorem chainP_of:∀ {l:List Cond} {good bad:Prop},(∀ c ∈ l,isCmp c.1 c.2.1 c.2.2.1=true)→((∀ c ∈ l,c.met)→good)→bad→chainP l good bad
 | [],good,bad,_,h,_=>h fun c hc=>by cases hc
 | (c,u,v,true)::r,good,bad,hc,h,hb=>⟨hc _ (List.mem_cons_self ..),fun ht=>chainP_of (fun c h=>hc c (List.mem_cons_of_mem _ h)) (fun hr=>h fun c hm=>by
   rcases List.mem_cons.mp hm with rfl | hm
   ·exact ht
   ·exact hr c hm) hb,fun _=>hb⟩
 | (c,u,v,false)::r,good,bad,hc,h,hb=>⟨hc _ (List.mem_cons_self ..),fun _=>hb,fun ht=>chainP_of (fun c h=>hc c (List.mem_cons_of_mem _ h)) (fun hr=>h fun c hm=>by
   rcases List.mem_cons.mp hm with rfl | hm
   ·exact ht
   ·exact hr c hm) hb⟩
def Tru (p:Prop) (o:AOut) (H:AHeap):Prop:=∃ b,o = .ret (.bool b)∧(b=true→p)
def symF:FuncId→List Nat:=fun f=>if f=62 then [15,19,30,37,41,46,57,63,67,72,84,88] else if f=68 then [5,10,17,21,34] else if f=69 then [5] else []
def run86 (xs:List AVal) (p:Prop):Prop:=hcall tabR known163 symF 1000 4 62 xs AHeap.empty (Tru p)
theorem run86_sound {xs:List AVal} {p:Prop} (h:run86 xs p):DCallX Tryd.prog 62 xs AHeap.empty (Tru p):=hcall_sound mixed tabR_ok known163_ok 4 62 xs AHeap.empty (Tru p) h
abbrev yes (p:Prop):Prop:=∃ b,AOut.ret (.bool true) = .ret (.bool b)∧(b=true→p)
abbrev no (p:Prop):Prop:=∃ b,AOut.ret (.bool false) = .ret (.bool b)∧(b=true→p)
abbrev i64 (n:Int):AVal:=.int .i64 n
abbrev cS (s:ByteArray):Cond:=(.eql,.str s,.str ⟨#[]⟩,true)
abbrev cF (f:Nat):Cond:=(.eql,.int .u64 f,.int .u64 0,true)
theorem f86a1 (n:Int) (f:Nat) (s:ByteArray) (p:Prop):chainP [(.neq,.str s,.str ⟨#[]⟩,false),(.neq,i64 (0:Nat),i64 0,false),(.geq,i64 n,i64 (-576460752303423488),true),(.leq,i64 n,i64 576460752303423487,true),cF f] (yes p) (no p)=run86 (T5 (Int.ofNat 1) n f s .nils) p:=by kernel_rfl
theorem f86b1 (n:Int) (f:Nat) (s:ByteArray) (cs:List AVal) (m:Nat) (p:Prop):chainP [(.neq,.str s,.str ⟨#[]⟩,false),(.neq,i64 m,i64 0,false),(.geq,i64 n,i64 (-576460752303423488),true),(.leq,i64 n,i64 576460752303423487,true),cF f] (yes p) (no p)=run86 (T5 (Int.ofNat 1) n f s (.ros cs m)) p:=by kernel_rfl
theorem f86a2 (n:Int) (f:Nat) (s:ByteArray) (p:Prop):chainP [(.neq,.str s,.str ⟨#[]⟩,false),(.neq,i64 (0:Nat),i64 0,false),(.eql,i64 n,i64 0,true)] ((fin64 f=true→yes p)∧(fin64 f=false→no p)) (no p)=run86 (T5 (Int.ofNat 2) n f s .nils) p:=by kernel_rfl
theorem f86b2 (n:Int) (f:Nat) (s:ByteArray) (cs:List AVal) (m:Nat) (p:Prop):chainP [(.neq,.str s,.str ⟨#[]⟩,false),(.neq,i64 m,i64 0,false),(.eql,i64 n,i64 0,true)] ((fin64 f=true→yes p)∧(fin64 f=false→no p)) (no p)=run86 (T5 (Int.ofNat 2) n f s (.ros cs m)) p:=by kernel_rfl
theorem f86a3 (n:Int) (f:Nat) (s:ByteArray) (p:Prop):chainP [(.leq,i64 s.size,i64 64,true),(.eql,i64 n,i64 0,true),cF f,(.eql,i64 (0:Nat),i64 0,true)] (yes p) (no p)=run86 (T5 (Int.ofNat 3) n f s .nils) p:=by kernel_rfl
theorem f86b3 (n:Int) (f:Nat) (s:ByteArray) (cs:List AVal) (m:Nat) (p:Prop):chainP [(.leq,i64 s.size,i64 64,true),(.eql,i64 n,i64 0,true),cF f,(.eql,i64 m,i64 0,true)] (yes p) (no p)=run86 (T5 (Int.ofNat 3) n f s (.ros cs m)) p:=by kernel_rfl
theorem f86a4 (n:Int) (f:Nat) (s:ByteArray) (p:Prop):chainP [(.geq,i64 n,i64 0,true),(.leq,i64 n,i64 1099511627776,true),cS s,cF f,(.eql,i64 (0:Nat),i64 0,true)] (yes p) (no p)=run86 (T5 (Int.ofNat 4) n f s .nils) p:=by kernel_rfl
theorem f86b4 (n:Int) (f:Nat) (s:ByteArray) (cs:List AVal) (m:Nat) (p:Prop):chainP [(.geq,i64 n,i64 0,true),(.leq,i64 n,i64 1099511627776,true),cS s,cF f,(.eql,i64 m,i64 0,true)] (yes p) (no p)=run86 (T5 (Int.ofNat 4) n f s (.ros cs m)) p:=by kernel_rfl
theorem f86a5 (n:Int) (f:Nat) (s:ByteArray) (p:Prop):chainP [(.geq,i64 n,i64 0,true),(.leq,i64 n,i64 16384,true),cS s,cF f] (yes p) (no p)=run86 (T5 (Int.ofNat 5) n f s .nils) p:=by kernel_rfl
theorem f86b5 (n:Int) (f:Nat) (s:ByteArray) (cs:List AVal) (m:Nat) (p:Prop):chainP [(.geq,i64 n,i64 0,true),(.leq,i64 n,i64 16384,true),cS s,cF f] (yes p) (no p)=run86 (T5 (Int.ofNat 5) n f s (.ros cs m)) p:=by kernel_rfl
theorem f86a6 (n:Int) (f:Nat) (s:ByteArray) (p:Prop):chainP [(.geq,i64 n,i64 0,true),(.leq,i64 n,i64 1099511627776,true),cS s,cF f,(.eql,i64 (0:Nat),i64 0,true)] (yes p) (no p)=run86 (T5 (Int.ofNat 6) n f s .nils) p:=by kernel_rfl
theorem f86b6 (n:Int) (f:Nat) (s:ByteArray) (cs:List AVal) (m:Nat) (p:Prop):chainP [(.geq,i64 n,i64 0,true),(.leq,i64 n,i64 1099511627776,true),cS s,cF f,(.eql,i64 m,i64 0,true)] (yes p) (no p)=run86 (T5 (Int.ofNat 6) n f s (.ros cs m)) p:=by kernel_rfl
theorem f86a7 (n:Int) (f:Nat) (s:ByteArray) (p:Prop):chainP [(.eql,i64 n,i64 0,true),cS s,cF f] (yes p) (no p)=run86 (T5 (Int.ofNat 7) n f s .nils) p:=by kernel_rfl
theorem f86b7 (n:Int) (f:Nat) (s:ByteArray) (cs:List AVal) (m:Nat) (p:Prop):chainP [(.eql,i64 n,i64 0,true),cS s,cF f] (yes p) (no p)=run86 (T5 (Int.ofNat 7) n f s (.ros cs m)) p:=by kernel_rfl
theorem f86a8 (n:Int) (f:Nat) (s:ByteArray) (p:Prop):chainP [(.eql,i64 n,i64 0,true),cS s,cF f] (yes p) (no p)=run86 (T5 (Int.ofNat 8) n f s .nils) p:=by kernel_rfl
theorem f86b8 (n:Int) (f:Nat) (s:ByteArray) (cs:List AVal) (m:Nat) (p:Prop):chainP [(.eql,i64 n,i64 0,true),cS s,cF f] (yes p) (no p)=run86 (T5 (Int.ofNat 8) n f s (.ros cs m)) p:=by kernel_rfl
theorem f86ax0 (n:Int) (f:Nat) (s:ByteArray) (p:Prop):no p=run86 (T5 (Int.ofNat 0) n f s .nils) p:=by kernel_rfl
theorem f86bx0 (n:Int) (f:Nat) (s:ByteArray) (cs:List AVal) (m:Nat) (p:Prop):no p=run86 (T5 (Int.ofNat 0) n f s (.ros cs m)) p:=by kernel_rfl
theorem f86ax1 (m0:Nat) (n:Int) (f:Nat) (s:ByteArray) (p:Prop):no p=run86 (T5 (Int.ofNat (m0+9)) n f s .nils) p:=by kernel_rfl
theorem f86bx1 (m0:Nat) (n:Int) (f:Nat) (s:ByteArray) (cs:List AVal) (m:Nat) (p:Prop):no p=run86 (T5 (Int.ofNat (m0+9)) n f s (.ros cs m)) p:=by kernel_rfl
theorem f86ax2 (m0:Nat) (n:Int) (f:Nat) (s:ByteArray) (p:Prop):no p=run86 (T5 (Int.negSucc m0) n f s .nils) p:=by kernel_rfl
theorem f86bx2 (m0:Nat) (n:Int) (f:Nat) (s:ByteArray) (cs:List AVal) (m:Nat) (p:Prop):no p=run86 (T5 (Int.negSucc m0) n f s (.ros cs m)) p:=by kernel_rfl
end Go.Am.Rl
namespace Go.Am.Rl
open Go.Proofs
def TM.pl (t:TM):Prop:=
 (t.k=1∧t.s=⟨#[]⟩∧t.l=[]∧(-576460752303423488≤t.n∧t.n≤576460752303423487)∧t.f=0)∨
 (t.k=2∧t.s=⟨#[]⟩∧t.l=[]∧t.n=0∧fin64 t.f=true)∨
 (t.k=3∧t.s.size≤64∧t.n=0∧t.f=0∧t.l=[])∨
 ((t.k=4∨t.k=6)∧(0≤t.n∧t.n≤1099511627776)∧t.s=⟨#[]⟩∧t.f=0∧t.l=[])∨
 (t.k=5∧(0≤t.n∧t.n≤16384)∧t.s=⟨#[]⟩∧t.f=0)∨
 ((t.k=7∨t.k=8)∧t.n=0∧t.s=⟨#[]⟩∧t.f=0)
theorem met_eq {k:IntKind} {n m:Int} (h:Cond.met (.eql,.int k n,.int k m,true)):n=m:=by simpa [Cond.met,abin] using h
theorem met_ne {k:IntKind} {n m:Int} (h:Cond.met (.neq,.int k n,.int k m,false)):n=m:=by simpa [Cond.met,abin] using h
theorem met_ge {k:IntKind} {n m:Int} (h:Cond.met (.geq,.int k n,.int k m,true)):m≤n:=by simpa [Cond.met,abin] using h
theorem met_le {k:IntKind} {n m:Int} (h:Cond.met (.leq,.int k n,.int k m,true)):n≤m:=by simpa [Cond.met,abin] using h
theorem met_s {s u:ByteArray} (h:Cond.met (.eql,.str s,.str u,true)):s=u:=by
 have h:(s.toList==u.toList)=true:=by simpa [Cond.met,abin] using h
 exact bytes_eq (by rw [beq_toListBytes]; exact h)
theorem met_ns {s u:ByteArray} (h:Cond.met (.neq,.str s,.str u,false)):s=u:=by
 have h:(s.toList==u.toList)=true:=by simpa [Cond.met,abin] using h
 exact bytes_eq (by rw [beq_toListBytes]; exact h)
theorem met_f {f:Nat} (h:Cond.met (cF f)):f=0:=by have:=met_eq h; omega
theorem len0 {l:List TM} (h:((l.length:Nat):Int)=0):l=[]:=List.length_eq_zero_iff.mp (by omega)
theorem via {l:List Cond} {p:Prop} {xs:List AVal} (e:chainP l (yes p) (no p)=run86 xs p) (hc:∀ c ∈ l,isCmp c.1 c.2.1 c.2.2.1=true) (hp:(∀ c ∈ l,c.met)→p):DCallX Tryd.prog 62 xs AHeap.empty (Tru p):=
 run86_sound (e.mp (chainP_of hc (fun h=>⟨true,rfl,fun _=>hp h⟩) ⟨false,rfl,fun h=>nomatch h⟩))
theorem vian {p:Prop} {xs:List AVal} (e:no p=run86 xs p):DCallX Tryd.prog 62 xs AHeap.empty (Tru p):=run86_sound (e.mp ⟨false,rfl,fun h=>nomatch h⟩)
theorem via2 {l:List Cond} {p:Prop} {xs:List AVal} {f:Nat} (e:chainP l ((fin64 f=true→yes p)∧(fin64 f=false→no p)) (no p)=run86 xs p) (hc:∀ c ∈ l,isCmp c.1 c.2.1 c.2.2.1=true) (hp:(∀ c ∈ l,c.met)→fin64 f=true→p):DCallX Tryd.prog 62 xs AHeap.empty (Tru p):=
 run86_sound (e.mp (chainP_of hc (fun h=>⟨fun hf=>⟨true,rfl,fun _=>hp h hf⟩,fun _=>⟨false,rfl,fun h=>nomatch h⟩⟩) ⟨false,rfl,fun h=>nomatch h⟩))
theorem DCallX.toPlain {P:Program} {f:FuncId} {xs:List AVal} {H:AHeap} {p:Prop} (h:DCallX P f xs H (Tru p)):DCall P f xs H fun r _=>∃ b,r = .bool b∧(b=true→p):=by
 obtain ⟨o,H',⟨b,rfl,hb⟩,d⟩:=h
 exact ⟨.bool b,H',⟨b,rfl,hb⟩,d.det⟩
theorem g86x (t:TM) (ok:t.ok) (H:AHeap):DCall Tryd.prog 62 [t.agg] H fun r H'=>(∃ b,r = .bool b∧(b=true→TM.pl t))∧H'=H:=by
 refine DCall.bools (TM.pures1 t) (DCallX.toPlain ?_) H
 cases t with
 | mk k n f s nl l=>
  cases nl with
  | true=>
   obtain rfl:l=[]:=ok.2.2.2.2.2.1 rfl
   clear ok
   match k with
   | .ofNat 0=>exact vian (f86ax0 n f s _)
   | .ofNat 1=>
    exact via (f86a1 n f s _) (by simp [isCmp,cmpOp]) fun h=>by
     simp only [List.forall_mem_cons] at h
     obtain ⟨h1,h2,h3,h4,h5,_⟩:=h
     exact .inl ⟨rfl,met_ns h1,rfl,⟨met_ge h3,met_le h4⟩,met_f h5⟩
   | .ofNat 2=>
    exact via2 (f86a2 n f s _) (by simp [isCmp,cmpOp]) fun h hf=>by
     simp only [List.forall_mem_cons] at h
     obtain ⟨h1,h2,h3,_⟩:=h
     exact .inr (.inl ⟨rfl,met_ns h1,rfl,met_eq h3,hf⟩)
   | .ofNat 3=>
    exact via (f86a3 n f s _) (by simp [isCmp,cmpOp]) fun h=>by
     simp only [List.forall_mem_cons] at h
     obtain ⟨h1,h2,h3,h4,_⟩:=h
     exact .inr (.inr (.inl ⟨rfl,(by have:=met_le h1; show s.size≤64; omega),met_eq h2,met_f h3,rfl⟩))
   | .ofNat 4=>
    exact via (f86a4 n f s _) (by simp [isCmp,cmpOp]) fun h=>by
     simp only [List.forall_mem_cons] at h
     obtain ⟨h1,h2,h3,h4,h5,_⟩:=h
     exact .inr (.inr (.inr (.inl ⟨.inl rfl,⟨met_ge h1,met_le h2⟩,met_s h3,met_f h4,rfl⟩)))
   | .ofNat 5=>
    exact via (f86a5 n f s _) (by simp [isCmp,cmpOp]) fun h=>by
     simp only [List.forall_mem_cons] at h
     obtain ⟨h1,h2,h3,h4,_⟩:=h
     exact .inr (.inr (.inr (.inr (.inl ⟨rfl,⟨met_ge h1,met_le h2⟩,met_s h3,met_f h4⟩))))
   | .ofNat 6=>
    exact via (f86a6 n f s _) (by simp [isCmp,cmpOp]) fun h=>by
     simp only [List.forall_mem_cons] at h
     obtain ⟨h1,h2,h3,h4,h5,_⟩:=h
     exact .inr (.inr (.inr (.inl ⟨.inr rfl,⟨met_ge h1,met_le h2⟩,met_s h3,met_f h4,rfl⟩)))
   | .ofNat 7=>
    exact via (f86a7 n f s _) (by simp [isCmp,cmpOp]) fun h=>by
     simp only [List.forall_mem_cons] at h
     obtain ⟨h1,h2,h3,_⟩:=h
     exact .inr (.inr (.inr (.inr (.inr ⟨.inl rfl,met_eq h1,met_s h2,met_f h3⟩))))
   | .ofNat 8=>
    exact via (f86a8 n f s _) (by simp [isCmp,cmpOp]) fun h=>by
     simp only [List.forall_mem_cons] at h
     obtain ⟨h1,h2,h3,_⟩:=h
     exact .inr (.inr (.inr (.inr (.inr ⟨.inr rfl,met_eq h1,met_s h2,met_f h3⟩))))
   | .ofNat (m0+9)=>exact vian (f86ax1 m0 n f s _)
   | .negSucc m0=>exact vian (f86ax2 m0 n f s _)
  | false=>
   clear ok
   match k with
   | .ofNat 0=>exact vian (f86bx0 n f s (TM.flat l) l.length _)
   | .ofNat 1=>
    exact via (f86b1 n f s (TM.flat l) l.length _) (by simp [isCmp,cmpOp]) fun h=>by
     simp only [List.forall_mem_cons] at h
     obtain ⟨h1,h2,h3,h4,h5,_⟩:=h
     exact .inl ⟨rfl,met_ns h1,len0 (met_ne h2),⟨met_ge h3,met_le h4⟩,met_f h5⟩
   | .ofNat 2=>
    exact via2 (f86b2 n f s (TM.flat l) l.length _) (by simp [isCmp,cmpOp]) fun h hf=>by
     simp only [List.forall_mem_cons] at h
     obtain ⟨h1,h2,h3,_⟩:=h
     exact .inr (.inl ⟨rfl,met_ns h1,len0 (met_ne h2),met_eq h3,hf⟩)
   | .ofNat 3=>
    exact via (f86b3 n f s (TM.flat l) l.length _) (by simp [isCmp,cmpOp]) fun h=>by
     simp only [List.forall_mem_cons] at h
     obtain ⟨h1,h2,h3,h4,_⟩:=h
     exact .inr (.inr (.inl ⟨rfl,(by have:=met_le h1; show s.size≤64; omega),met_eq h2,met_f h3,len0 (met_eq h4)⟩))
   | .ofNat 4=>
    exact via (f86b4 n f s (TM.flat l) l.length _) (by simp [isCmp,cmpOp]) fun h=>by
     simp only [List.forall_mem_cons] at h
     obtain ⟨h1,h2,h3,h4,h5,_⟩:=h
     exact .inr (.inr (.inr (.inl ⟨.inl rfl,⟨met_ge h1,met_le h2⟩,met_s h3,met_f h4,len0 (met_eq h5)⟩)))
   | .ofNat 5=>
    exact via (f86b5 n f s (TM.flat l) l.length _) (by simp [isCmp,cmpOp]) fun h=>by
     simp only [List.forall_mem_cons] at h
     obtain ⟨h1,h2,h3,h4,_⟩:=h
     exact .inr (.inr (.inr (.inr (.inl ⟨rfl,⟨met_ge h1,met_le h2⟩,met_s h3,met_f h4⟩))))
   | .ofNat 6=>
    exact via (f86b6 n f s (TM.flat l) l.length _) (by simp [isCmp,cmpOp]) fun h=>by
     simp only [List.forall_mem_cons] at h
     obtain ⟨h1,h2,h3,h4,h5,_⟩:=h
     exact .inr (.inr (.inr (.inl ⟨.inr rfl,⟨met_ge h1,met_le h2⟩,met_s h3,met_f h4,len0 (met_eq h5)⟩)))
   | .ofNat 7=>
    exact via (f86b7 n f s (TM.flat l) l.length _) (by simp [isCmp,cmpOp]) fun h=>by
     simp only [List.forall_mem_cons] at h
     obtain ⟨h1,h2,h3,_⟩:=h
     exact .inr (.inr (.inr (.inr (.inr ⟨.inl rfl,met_eq h1,met_s h2,met_f h3⟩))))
   | .ofNat 8=>
    exact via (f86b8 n f s (TM.flat l) l.length _) (by simp [isCmp,cmpOp]) fun h=>by
     simp only [List.forall_mem_cons] at h
     obtain ⟨h1,h2,h3,_⟩:=h
     exact .inr (.inr (.inr (.inr (.inr ⟨.inr rfl,met_eq h1,met_s h2,met_f h3⟩))))
   | .ofNat (m0+9)=>exact vian (f86bx1 m0 n f s (TM.flat l) l.length _)
   | .negSucc m0=>exact vian (f86bx2 m0 n f s (TM.flat l) l.length _)
end Go.Am.Rl
namespace Go.Am.Rl
open Go.Proofs
def own:Int→Nat→Nat
 | .ofNat 1,_=>0
 | .ofNat 2,_=>2
 | .ofNat 3,_=>0
 | .ofNat 4,_=>2
 | .ofNat 5,m=>2+m
 | .ofNat 6,_=>0
 | .ofNat 8,m=>2 * m
 | _,m=>1+m
def Is (x:Int) (o:AOut) (H:AHeap):Prop:=o = .ret (.int .i64 x)
def runO (f:FuncId) (xs:List AVal) (x:Int):Prop:=hcall tabR GKnown.none (fun _=>[]) 1000 4 f xs AHeap.empty (Is x)
theorem runO_sound {f:FuncId} {xs:List AVal} {x:Int} (h:runO f xs x):DCall Tryd.prog f xs AHeap.empty fun r _=>∃ n,r = .int .i64 n∧n=x:=by
 obtain ⟨o,H',rfl,d⟩:=hcall_sound mixed tabR_ok (GKnown.none_ok _) 4 f xs AHeap.empty (Is x) h
 exact ⟨_,H',⟨x,rfl,rfl⟩,d.det⟩
theorem w8 {m:Nat} (h:m≤2 ^ 41):IntKind.i64.wrap (2 * (m:Int))=((2 * m:Nat):Int):=by rw [show 2 * (m:Int)=((2 * m:Nat):Int) by omega]; exact wrap64 (by omega)
theorem w5 {m:Nat} (h:m≤2 ^ 41):IntKind.i64.wrap (2+(m:Int))=((2+m:Nat):Int):=by rw [show 2+(m:Int)=((2+m:Nat):Int) by omega]; exact wrap64 (by omega)
theorem w1 {m:Nat} (h:m≤2 ^ 41):IntKind.i64.wrap (1+(m:Int))=((1+m:Nat):Int):=by rw [show 1+(m:Int)=((1+m:Nat):Int) by omega]; exact wrap64 (by omega)
theorem viaO {f:FuncId} {xs:List AVal} {a x:Int} (e:∀ x,(AOut.ret (.int .i64 a) = .ret (.int .i64 x))=runO f xs x) (h:a=x):runO f xs x:=(e x).mp (by rw [h])
theorem o85a0 (n:Int) (f:Nat) (s:ByteArray) (x:Int):(AOut.ret (.int .i64 (IntKind.i64.wrap (1+((0:Nat):Int)))) = .ret (.int .i64 x))=runO 61 (T5 (Int.ofNat 0) n f s .nils) x:=by kernel_rfl
theorem o85b0 (n:Int) (f:Nat) (s:ByteArray) (cs:List AVal) (m:Nat) (x:Int):(AOut.ret (.int .i64 (IntKind.i64.wrap (1+(m:Int)))) = .ret (.int .i64 x))=runO 61 (T5 (Int.ofNat 0) n f s (.ros cs m)) x:=by kernel_rfl
theorem o85a1 (n:Int) (f:Nat) (s:ByteArray) (x:Int):(AOut.ret (.int .i64 (0)) = .ret (.int .i64 x))=runO 61 (T5 (Int.ofNat 1) n f s .nils) x:=by kernel_rfl
theorem o85b1 (n:Int) (f:Nat) (s:ByteArray) (cs:List AVal) (m:Nat) (x:Int):(AOut.ret (.int .i64 (0)) = .ret (.int .i64 x))=runO 61 (T5 (Int.ofNat 1) n f s (.ros cs m)) x:=by kernel_rfl
theorem o85a2 (n:Int) (f:Nat) (s:ByteArray) (x:Int):(AOut.ret (.int .i64 (2)) = .ret (.int .i64 x))=runO 61 (T5 (Int.ofNat 2) n f s .nils) x:=by kernel_rfl
theorem o85b2 (n:Int) (f:Nat) (s:ByteArray) (cs:List AVal) (m:Nat) (x:Int):(AOut.ret (.int .i64 (2)) = .ret (.int .i64 x))=runO 61 (T5 (Int.ofNat 2) n f s (.ros cs m)) x:=by kernel_rfl
theorem o85a3 (n:Int) (f:Nat) (s:ByteArray) (x:Int):(AOut.ret (.int .i64 (0)) = .ret (.int .i64 x))=runO 61 (T5 (Int.ofNat 3) n f s .nils) x:=by kernel_rfl
theorem o85b3 (n:Int) (f:Nat) (s:ByteArray) (cs:List AVal) (m:Nat) (x:Int):(AOut.ret (.int .i64 (0)) = .ret (.int .i64 x))=runO 61 (T5 (Int.ofNat 3) n f s (.ros cs m)) x:=by kernel_rfl
theorem o85a4 (n:Int) (f:Nat) (s:ByteArray) (x:Int):(AOut.ret (.int .i64 (2)) = .ret (.int .i64 x))=runO 61 (T5 (Int.ofNat 4) n f s .nils) x:=by kernel_rfl
theorem o85b4 (n:Int) (f:Nat) (s:ByteArray) (cs:List AVal) (m:Nat) (x:Int):(AOut.ret (.int .i64 (2)) = .ret (.int .i64 x))=runO 61 (T5 (Int.ofNat 4) n f s (.ros cs m)) x:=by kernel_rfl
theorem o85a5 (n:Int) (f:Nat) (s:ByteArray) (x:Int):(AOut.ret (.int .i64 (IntKind.i64.wrap (2+((0:Nat):Int)))) = .ret (.int .i64 x))=runO 61 (T5 (Int.ofNat 5) n f s .nils) x:=by kernel_rfl
theorem o85b5 (n:Int) (f:Nat) (s:ByteArray) (cs:List AVal) (m:Nat) (x:Int):(AOut.ret (.int .i64 (IntKind.i64.wrap (2+(m:Int)))) = .ret (.int .i64 x))=runO 61 (T5 (Int.ofNat 5) n f s (.ros cs m)) x:=by kernel_rfl
theorem o85a6 (n:Int) (f:Nat) (s:ByteArray) (x:Int):(AOut.ret (.int .i64 (0)) = .ret (.int .i64 x))=runO 61 (T5 (Int.ofNat 6) n f s .nils) x:=by kernel_rfl
theorem o85b6 (n:Int) (f:Nat) (s:ByteArray) (cs:List AVal) (m:Nat) (x:Int):(AOut.ret (.int .i64 (0)) = .ret (.int .i64 x))=runO 61 (T5 (Int.ofNat 6) n f s (.ros cs m)) x:=by kernel_rfl
theorem o85a7 (n:Int) (f:Nat) (s:ByteArray) (x:Int):(AOut.ret (.int .i64 (IntKind.i64.wrap (1+((0:Nat):Int)))) = .ret (.int .i64 x))=runO 61 (T5 (Int.ofNat 7) n f s .nils) x:=by kernel_rfl
theorem o85b7 (n:Int) (f:Nat) (s:ByteArray) (cs:List AVal) (m:Nat) (x:Int):(AOut.ret (.int .i64 (IntKind.i64.wrap (1+(m:Int)))) = .ret (.int .i64 x))=runO 61 (T5 (Int.ofNat 7) n f s (.ros cs m)) x:=by kernel_rfl
theorem o85a8 (n:Int) (f:Nat) (s:ByteArray) (x:Int):(AOut.ret (.int .i64 (IntKind.i64.wrap (2 * ((0:Nat):Int)))) = .ret (.int .i64 x))=runO 61 (T5 (Int.ofNat 8) n f s .nils) x:=by kernel_rfl
theorem o85b8 (n:Int) (f:Nat) (s:ByteArray) (cs:List AVal) (m:Nat) (x:Int):(AOut.ret (.int .i64 (IntKind.i64.wrap (2 * (m:Int)))) = .ret (.int .i64 x))=runO 61 (T5 (Int.ofNat 8) n f s (.ros cs m)) x:=by kernel_rfl
theorem o85a9 (m0:Nat) (n:Int) (f:Nat) (s:ByteArray) (x:Int):(AOut.ret (.int .i64 (IntKind.i64.wrap (1+((0:Nat):Int)))) = .ret (.int .i64 x))=runO 61 (T5 (Int.ofNat (m0+9)) n f s .nils) x:=by kernel_rfl
theorem o85b9 (m0:Nat) (n:Int) (f:Nat) (s:ByteArray) (cs:List AVal) (m:Nat) (x:Int):(AOut.ret (.int .i64 (IntKind.i64.wrap (1+(m:Int)))) = .ret (.int .i64 x))=runO 61 (T5 (Int.ofNat (m0+9)) n f s (.ros cs m)) x:=by kernel_rfl
theorem o85a10 (m0:Nat) (n:Int) (f:Nat) (s:ByteArray) (x:Int):(AOut.ret (.int .i64 (IntKind.i64.wrap (1+((0:Nat):Int)))) = .ret (.int .i64 x))=runO 61 (T5 (Int.negSucc m0) n f s .nils) x:=by kernel_rfl
theorem o85b10 (m0:Nat) (n:Int) (f:Nat) (s:ByteArray) (cs:List AVal) (m:Nat) (x:Int):(AOut.ret (.int .i64 (IntKind.i64.wrap (1+(m:Int)))) = .ret (.int .i64 x))=runO 61 (T5 (Int.negSucc m0) n f s (.ros cs m)) x:=by kernel_rfl
theorem ow0 (m:Nat):own (Int.ofNat 0) m=1+m:=rfl
theorem ow1 (m:Nat):own (Int.ofNat 1) m=0:=rfl
theorem ow2 (m:Nat):own (Int.ofNat 2) m=2:=rfl
theorem ow3 (m:Nat):own (Int.ofNat 3) m=0:=rfl
theorem ow4 (m:Nat):own (Int.ofNat 4) m=2:=rfl
theorem ow5 (m:Nat):own (Int.ofNat 5) m=2+m:=rfl
theorem ow6 (m:Nat):own (Int.ofNat 6) m=0:=rfl
theorem ow7 (m:Nat):own (Int.ofNat 7) m=1+m:=rfl
theorem ow8 (m:Nat):own (Int.ofNat 8) m=2 * m:=rfl
theorem ow9 (m0:Nat) (m:Nat):own (Int.ofNat (m0+9)) m=1+m:=by unfold own; split <;> first | rfl | (rename_i h; injection h with h; omega)
theorem ow10 (m0:Nat) (m:Nat):own (Int.negSucc m0) m=1+m:=rfl
attribute [local irreducible] runO own
theorem p85a (k n:Int) (f:Nat) (s:ByteArray) {m:Nat} (h:m≤2 ^ 41):runO 61 (T5 k n f s .nils) (own k 0:Nat):=by
 match k with
 | .ofNat 0=>exact viaO (o85a0 n f s) ((w1 (Nat.zero_le _)).trans (congrArg (Nat.cast (R:=Int)) (ow0 _).symm))
 | .ofNat 1=>exact viaO (o85a1 n f s) ((show (0:Int)=((0:Nat):Int) from rfl).trans (congrArg (Nat.cast (R:=Int)) (ow1 _).symm))
 | .ofNat 2=>exact viaO (o85a2 n f s) ((show (2:Int)=((2:Nat):Int) from rfl).trans (congrArg (Nat.cast (R:=Int)) (ow2 _).symm))
 | .ofNat 3=>exact viaO (o85a3 n f s) ((show (0:Int)=((0:Nat):Int) from rfl).trans (congrArg (Nat.cast (R:=Int)) (ow3 _).symm))
 | .ofNat 4=>exact viaO (o85a4 n f s) ((show (2:Int)=((2:Nat):Int) from rfl).trans (congrArg (Nat.cast (R:=Int)) (ow4 _).symm))
 | .ofNat 5=>exact viaO (o85a5 n f s) ((w5 (Nat.zero_le _)).trans (congrArg (Nat.cast (R:=Int)) (ow5 _).symm))
 | .ofNat 6=>exact viaO (o85a6 n f s) ((show (0:Int)=((0:Nat):Int) from rfl).trans (congrArg (Nat.cast (R:=Int)) (ow6 _).symm))
 | .ofNat 7=>exact viaO (o85a7 n f s) ((w1 (Nat.zero_le _)).trans (congrArg (Nat.cast (R:=Int)) (ow7 _).symm))
 | .ofNat 8=>exact viaO (o85a8 n f s) ((w8 (Nat.zero_le _)).trans (congrArg (Nat.cast (R:=Int)) (ow8 _).symm))
 | .ofNat (m0+9)=>exact viaO (o85a9 m0 n f s) ((w1 (Nat.zero_le _)).trans (congrArg (Nat.cast (R:=Int)) (ow9 m0 _).symm))
 | .negSucc m0=>exact viaO (o85a10 m0 n f s) ((w1 (Nat.zero_le _)).trans (congrArg (Nat.cast (R:=Int)) (ow10 m0 _).symm))
theorem p85b (k n:Int) (f:Nat) (s:ByteArray) (cs:List AVal) {m:Nat} (h:m≤2 ^ 41):runO 61 (T5 k n f s (.ros cs m)) (own k m:Nat):=by
 match k with
 | .ofNat 0=>exact viaO (o85b0 n f s cs m) ((w1 h).trans (congrArg (Nat.cast (R:=Int)) (ow0 _).symm))
 | .ofNat 1=>exact viaO (o85b1 n f s cs m) ((show (0:Int)=((0:Nat):Int) from rfl).trans (congrArg (Nat.cast (R:=Int)) (ow1 _).symm))
 | .ofNat 2=>exact viaO (o85b2 n f s cs m) ((show (2:Int)=((2:Nat):Int) from rfl).trans (congrArg (Nat.cast (R:=Int)) (ow2 _).symm))
 | .ofNat 3=>exact viaO (o85b3 n f s cs m) ((show (0:Int)=((0:Nat):Int) from rfl).trans (congrArg (Nat.cast (R:=Int)) (ow3 _).symm))
 | .ofNat 4=>exact viaO (o85b4 n f s cs m) ((show (2:Int)=((2:Nat):Int) from rfl).trans (congrArg (Nat.cast (R:=Int)) (ow4 _).symm))
 | .ofNat 5=>exact viaO (o85b5 n f s cs m) ((w5 h).trans (congrArg (Nat.cast (R:=Int)) (ow5 _).symm))
 | .ofNat 6=>exact viaO (o85b6 n f s cs m) ((show (0:Int)=((0:Nat):Int) from rfl).trans (congrArg (Nat.cast (R:=Int)) (ow6 _).symm))
 | .ofNat 7=>exact viaO (o85b7 n f s cs m) ((w1 h).trans (congrArg (Nat.cast (R:=Int)) (ow7 _).symm))
 | .ofNat 8=>exact viaO (o85b8 n f s cs m) ((w8 h).trans (congrArg (Nat.cast (R:=Int)) (ow8 _).symm))
 | .ofNat (m0+9)=>exact viaO (o85b9 m0 n f s cs m) ((w1 h).trans (congrArg (Nat.cast (R:=Int)) (ow9 m0 _).symm))
 | .negSucc m0=>exact viaO (o85b10 m0 n f s cs m) ((w1 h).trans (congrArg (Nat.cast (R:=Int)) (ow10 m0 _).symm))
theorem g85x (t:TM) (ok:t.ok) (H:AHeap):DCall Tryd.prog 61 [t.agg] H fun r H'=>r = .int .i64 (own t.k t.l.length:Nat)∧H'=H:=by
 have h:DCall Tryd.prog 61 [t.agg] AHeap.empty fun r _=>∃ n,r = .int .i64 n∧n=(own t.k t.l.length:Nat):=by
  have hle:=TM.len_le ok
  cases t with
  | mk k n f s nl l=>
   cases nl with
   | true=>
    obtain rfl:l=[]:=ok.2.2.2.2.2.1 rfl
    exact runO_sound (p85a k n f s (m:=0) (Nat.zero_le _))
   | false=>exact runO_sound (p85b k n f s (TM.flat l) hle)
 exact (DCall.ints (TM.pures1 t) h H).mono fun r H' ⟨⟨n,h1,h3⟩,h2⟩=>⟨by rw [h1,h3],h2⟩
end Go.Am.Rl
namespace Go.Am.Rl
open Go.Proofs
mutual
def words:TM→Nat
 | .mk k _ _ _ _ l=>own k l.length+wordsL l
def wordsL:List TM→Nat
 | []=>0
 | t::r=>words t+wordsL r
end
mutual
def deep:TM→Nat→Prop
 | .mk _ _ _ _ _ l,d=>1≤d∧deeps l (d - 1)
def deeps:List TM→Nat→Prop
 | [],_=>True
 | t::r,d=>deep t d∧deeps r d
end
mutual
def fine:TM→Prop
 | .mk k n f s nl l=>TM.pl (.mk k n f s nl l)∧fines l
def fines:List TM→Prop
 | []=>True
 | t::r=>fine t∧fines r
end
theorem words_eq (t:TM):words t=own t.k t.l.length+wordsL t.l:=by cases t; rfl
theorem deep_eq (t:TM) (d:Nat):deep t d↔1≤d∧deeps t.l (d - 1):=by cases t; rfl
theorem fine_eq (t:TM):fine t↔TM.pl t∧fines t.l:=by cases t; rfl
theorem wordsL_app:∀ a b:List TM,wordsL (a++b)=wordsL a+wordsL b
 | [],b=>by simp [wordsL]
 | t::r,b=>by simp only [List.cons_append,wordsL,wordsL_app r b]; omega
theorem wordsL_take {l:List TM} {i:Nat} {x:TM} (h:l[i]? = some x):wordsL (l.take (i+1))=wordsL (l.take i)+words x:=by
 rw [List.take_add_one,h,wordsL_app]; simp [wordsL]
theorem deeps_iff {d:Nat}:∀ {l:List TM},deeps l d↔∀ x ∈ l,deep x d
 | []=>by simp [deeps]
 | t::r=>by simp [deeps,deeps_iff (l:=r)]
theorem fines_iff:∀ {l:List TM},fines l↔∀ x ∈ l,fine x
 | []=>by simp [fines]
 | t::r=>by simp [fines,fines_iff (l:=r)]
theorem all_take {l:List TM} {p:TM→Prop} {i:Nat} {x:TM} (h:∀ y ∈ l.take i,p y) (hx:l[i]? = some x) (hp:p x):∀ y ∈ l.take (i+1),p y:=by
 intro y hy
 rw [List.take_add_one,hx] at hy
 rcases List.mem_append.mp hy with hy | hy
 ·exact h y hy
 ·simp at hy; subst hy; exact hp
theorem sub_nat {a b:Nat} (ha:a≤65536) (h:b≤a):abin .sub (i64 (a:Nat)) (i64 (b:Nat))=some (i64 ((a - b:Nat):Int)):=by
 have hw:IntKind.i64.wrap ((a:Int) - (b:Int))=((a - b:Nat):Int):=by rw [show (a:Int) - (b:Int)=((a - b:Nat):Int) by omega]; exact wrap64 (n:=a - b) (by omega)
 simp only [abin,hw]; rfl
theorem add_nat {a b:Nat} (h:a+b < 9223372036854775808):abin .add (i64 (a:Nat)) (i64 (b:Nat))=some (i64 ((a+b:Nat):Int)):=by
 have hw:IntKind.i64.wrap ((a:Int)+(b:Int))=((a+b:Nat):Int):=by rw [show (a:Int)+(b:Int)=((a+b:Nat):Int) by omega]; exact wrap64 (n:=a+b) h
 simp only [abin,hw]; rfl
section
variable {t:TM} {H:AHeap} {id:Nat} {k k':List AItem} {Q:Env→AHeap→Prop}
theorem loop52x {d m:Nat} (ok:t.ok) (hm:m≤65536) (hd:d≤200) (hd1:1≤d) (ih:∀ x ∈ t.l,x.ok→∀ (d m:Nat) H,d≤200→m≤65536→DCall Tryd.prog 46 [x.agg,i64 d,i64 m] H fun r H'=>(∃ n:Int,r=i64 n∧(n < 0∨(n=words x∧words x≤m∧deep x d)))∧H'=H)
  (g:H.get id=some (.cells 44 (TM.c5 t))) (hk:aexitTo 0 k=some k') (hend:words t≤m→deep t d→DR Tryd.prog (kof k46) 44 k' [(7,i64 (words t:Nat))] H Q) (hret:∀ T,T.get 6=some (i64 (-1))→Q T H) :
  ∀ (e i:Nat),i+e=t.l.length→own t.k t.l.length+wordsL (t.l.take i)≤m→(∀ x ∈ t.l.take i,deep x (d - 1))→DR Tryd.prog (kof k46) 44 (.code l46_0::.inLoop l46_0::k) [(1,i64 d),(2,i64 m),(3,.ptr id 0),(7,i64 ((own t.k t.l.length+wordsL (t.l.take i):Nat):Int)),(8,i64 (i:Nat))] H Q:=by
 intro e
 have l4:=load_cell g (o:=4) (v:=t.row) rfl
 have hl:=TM.lenT ok H
 induction e with
 | zero=>
  intro i hi hc hdd
  have hcmp:abin .lss (i64 (i:Nat)) (i64 (t.l.length:Nat))=some (.bool false):=by simp [abin]; omega
  refine Dg rfl ?_
  simp -dsimp only [SE,astep,seval,rowq,l4,hl,hcmp]
  refine Dn rfl rfl ?_
  refine Dm rfl ?_
  refine DR.exit hk ?_
  rw [List.take_of_length_le (by omega)] at hc hdd ⊢
  have he:=hend (by rw [words_eq]; exact hc) ((deep_eq t d).mpr ⟨hd1,deeps_iff.mpr hdd⟩)
  rw [words_eq] at he
  exact DR.only [7] he
 | succ e ih2=>
  intro i hi hc hdd
  have hcmp:abin .lss (i64 (i:Nat)) (i64 (t.l.length:Nat))=some (.bool true):=by simp [abin]; omega
  have hlt:i < t.l.length:=by omega
  have hx:t.l[i]? = some t.l[i]:=List.getElem?_eq_getElem hlt
  have hxo:=TM.ok_at ok hx
  have ra:=TM.row_at ok hx H
  have la:=TM.load t.l[i] (TM.flat (t.l.drop (i+1))) H
  have hle:=TM.len_le ok
  have hadd:abin .add (i64 (i:Nat)) (i64 1)=some (i64 ((i+1:Nat):Int)):=add_nat (b:=1) (by omega)
  have hs1:abin .sub (i64 d) (i64 1)=some (i64 ((d - 1:Nat):Int)):=sub_nat (b:=1) (by omega) hd1
  have hs2:=sub_nat hm hc
  refine Dg rfl ?_
  simp -dsimp only [SE,astep,seval,rowq,l4,hl,hcmp]
  refine Dy rfl rfl ?_
  refine Dg rfl ?_
  simp -dsimp only [SE,astep,seval,rowq,l4,ra,la,hs1,hs2]
  refine (ih _ (List.getElem_mem hlt) hxo (d - 1) _ H (by omega) (by omega)).mono ?_
  rintro r H' ⟨⟨n,rfl,hn⟩,he⟩
  obtain rfl:=he.symm
  simp -dsimp only [SE,astep,seval,rowq]
  rcases hn with hn | ⟨rfl,hw,hdp⟩
  ·have hb:abin .lss (i64 n) (i64 0)=some (.bool true):=by simp [abin,hn]
   refine Dg rfl ?_
   simp -dsimp only [SE,astep,seval,rowq,hb]
   refine Dy rfl rfl ?_
   refine Dg rfl ?_
   simp -dsimp only [SE,astep,seval,rowq]
   refine Dm rfl ?_
   exact DR.ret (hret _ rfl)
  ·have hb:abin .lss (i64 (words t.l[i]:Nat)) (i64 0)=some (.bool false):=by simp [abin]
   have ha2:=add_nat (a:=own t.k t.l.length+wordsL (t.l.take i)) (b:=words t.l[i]) (by omega)
   refine Dg rfl ?_
   simp -dsimp only [SE,astep,seval,rowq,hb]
   refine Dn rfl rfl ?_
   refine Dg rfl ?_
   simp -dsimp only [SE,astep,seval,rowq,ha2]
   refine Dg rfl ?_
   simp -dsimp only [SE,astep,seval,rowq,hadd]
   refine Dm rfl ?_
   refine DR.inLoop ?_
   have he2:own t.k t.l.length+wordsL (t.l.take i)+words t.l[i]=own t.k t.l.length+wordsL (t.l.take (i+1)):=by rw [wordsL_take hx]; omega
   rw [he2]
   exact ih2 (i+1) (by omega) (by omega) (all_take hdd hx hdp)
end
theorem g52x:∀ t:TM,t.ok→∀ (d m:Nat) (H:AHeap),d≤200→m≤65536→DCall Tryd.prog 46 [t.agg,i64 d,i64 m] H fun r H'=>(∃ n:Int,r=i64 n∧(n < 0∨(n=words t∧words t≤m∧deep t d)))∧H'=H:=by
 refine TM.all fun t ih ok d m H hd hm=> ?_
 refine DCall.ints (TM.pures2 t d m) ?_ H
 obtain ⟨H1,hH1,g1,n1,f1⟩:=psh AHeap.empty (.cells 44 (TM.c5 t))
 have la:=load_all (n:=5) g1 rfl
 refine DCall.of_body (fn:=Tryd.f46) (by kernel_rfl) c46 (by kernel_rfl) (by simp [f46]) ?_
 unfold f46
 simp only []
 refine Dg rfl ?_
 simp -dsimp only [SE,astep,seval,rowq,← hH1]
 by_cases hd1:d < 1
 ·have hb1:abin .lss (i64 d) (i64 1)=some (.bool true):=by simp [abin]; omega
  refine Dg rfl ?_
  simp -dsimp only [SE,astep,seval,rowq,hb1]
  refine Dy rfl rfl ?_
  refine Dg rfl ?_
  simp -dsimp only [SE,astep,seval,rowq]
  refine Dm rfl ?_
  exact DR.ret ⟨_,by simp [aresult,ares,Env.get] <;> rfl,⟨_,rfl,.inl (by decide)⟩⟩
 have hb1:abin .lss (i64 d) (i64 1)=some (.bool false):=by simp [abin]; omega
 refine Dg rfl ?_
 simp -dsimp only [SE,astep,seval,rowq,hb1,la]
 refine (g85x t ok H1).mono ?_
 rintro r H' ⟨rfl,he⟩
 obtain rfl:=he.symm
 by_cases ho:own t.k t.l.length≤m
 ·have hb2:abin .gtr (i64 (own t.k t.l.length:Nat)) (i64 m)=some (.bool false):=by simp [abin]; omega
  simp -dsimp only [SE,astep,seval,rowq,hb2]
  refine Dn rfl rfl ?_
  refine Dg rfl ?_
  simp -dsimp only [SE,astep,seval,rowq,la]
  refine (g85x t ok H1).mono ?_
  rintro r H' ⟨rfl,he⟩
  obtain rfl:=he.symm
  simp -dsimp only [SE,astep,seval,rowq]
  refine Dg rfl ?_
  simp -dsimp only [SE,astep,seval,rowq]
  refine Dm rfl ?_
  refine DR.loop ?_
  have hend:words t≤m→deep t d→DR Tryd.prog (kof k46) 44 [.code (.seq (.region false r46_11 [6]) .ret)] [(7,i64 (words t:Nat))] H1 fun T' H'=>∃ r,aresult H' T' [.tmp 6]=some r∧∃ n:Int,r=i64 n∧(n < 0∨(n=words t∧words t≤m∧deep t d)):=by
   intro hw hdp
   refine Dg rfl ?_
   simp -dsimp only [SE,astep,seval,rowq]
   refine Dm rfl ?_
   exact DR.ret ⟨_,by simp [aresult,ares,Env.get] <;> rfl,⟨_,rfl,.inr ⟨rfl,hw,hdp⟩⟩⟩
  have:=loop52x (k:=[.inBlock 0,.code (.seq (.region false r46_11 [6]) .ret)]) ok hm hd (by omega) ih g1 rfl hend (fun T hT=>⟨_,by simp [aresult,ares,hT] <;> rfl,_,rfl,.inl (by decide)⟩) t.l.length 0 (by omega) (by simpa [wordsL] using ho) (by simp)
  simp only [List.take_zero,wordsL,Nat.add_zero] at this
  exact this
 ·have hb2:abin .gtr (i64 (own t.k t.l.length:Nat)) (i64 m)=some (.bool true):=by simp [abin]; omega
  simp -dsimp only [SE,astep,seval,rowq,hb2]
  refine Dy rfl rfl ?_
  refine Dg rfl ?_
  simp -dsimp only [SE,astep,seval,rowq]
  refine Dm rfl ?_
  exact DR.ret ⟨_,by simp [aresult,ares,Env.get] <;> rfl,⟨_,rfl,.inl (by decide)⟩⟩
end Go.Am.Rl
namespace Go.Am.Rl
open Go.Proofs
def right (t:TM):Prop:=words t≤65536∧deep t 200∧fine t
section
variable {t:TM} {H:AHeap} {id:Nat} {k k':List AItem} {Q:Env→AHeap→Prop}
theorem loop53x (ok:t.ok) (ih:∀ x ∈ t.l,x.ok→∀ H,DCall Tryd.prog 47 [x.agg] H fun r H'=>(∃ b,r = .bool b∧(b=true→fine x))∧H'=H)
  (g:H.get id=some (.cells 44 (TM.c5 t))) (hk:aexitTo 0 k=some k') (hend:(∀ x ∈ t.l,fine x)→DR Tryd.prog (kof k47) 21 k' [] H Q) (hret:∀ T,T.get 2=some (.bool false)→Q T H) :
  ∀ (e i:Nat),i+e=t.l.length→(∀ x ∈ t.l.take i,fine x)→DR Tryd.prog (kof k47) 21 (.code l47_0::.inLoop l47_0::k) [(1,.ptr id 0),(3,.int .i64 (i:Nat))] H Q:=by
 intro e
 have l4:=load_cell g (o:=4) (v:=t.row) rfl
 have hl:=TM.lenT ok H
 induction e with
 | zero=>
  intro i hi hall
  have hc:abin .lss (.int .i64 (i:Nat)) (.int .i64 (t.l.length:Nat))=some (.bool false):=by simp [abin]; omega
  refine Dg rfl ?_
  simp -dsimp only [SE,astep,seval,rowq,l4,hl,hc]
  refine Dn rfl rfl ?_
  refine Dm rfl ?_
  refine DR.exit hk ?_
  exact DR.only [] (hend (by rw [List.take_of_length_le (by omega)] at hall; exact hall))
 | succ e ih2=>
  intro i hi hall
  have hc:abin .lss (.int .i64 (i:Nat)) (.int .i64 (t.l.length:Nat))=some (.bool true):=by simp [abin]; omega
  have hlt:i < t.l.length:=by omega
  have hx:t.l[i]? = some t.l[i]:=List.getElem?_eq_getElem hlt
  have hxo:=TM.ok_at ok hx
  have ra:=TM.row_at ok hx H
  have la:=TM.load t.l[i] (TM.flat (t.l.drop (i+1))) H
  have hle:=TM.len_le ok
  have hw:IntKind.i64.wrap ((i:Int)+1)=((i+1:Nat):Int):=wrap64 (n:=i+1) (by omega)
  refine Dg rfl ?_
  simp -dsimp only [SE,astep,seval,rowq,l4,hl,hc]
  refine Dy rfl rfl ?_
  refine Dg rfl ?_
  simp -dsimp only [SE,astep,seval,rowq,l4,ra,la,abin]
  refine (ih _ (List.getElem_mem hlt) hxo H).mono ?_
  rintro r H' ⟨⟨b,rfl,hb⟩,he⟩
  obtain rfl:=he.symm
  simp -dsimp only [SE,astep,seval,rowq]
  cases b with
  | false=>
   refine Dy rfl rfl ?_
   refine Dg rfl ?_
   simp -dsimp only [SE,astep,seval,rowq]
   refine Dm rfl ?_
   exact DR.ret (hret _ rfl)
  | true=>
   refine Dn rfl rfl ?_
   refine Dg rfl ?_
   simp -dsimp only [SE,astep,seval,rowq,hw,abin]
   refine Dm rfl ?_
   refine DR.inLoop ?_
   exact ih2 (i+1) (by omega) (all_take hall hx (hb rfl))
end
theorem g53x:∀ t:TM,t.ok→∀ H:AHeap,DCall Tryd.prog 47 [t.agg] H fun r H'=>(∃ b,r = .bool b∧(b=true→fine t))∧H'=H:=by
 refine TM.all fun t ih ok H=> ?_
 refine DCall.bools (TM.pures1 t) ?_ H
 obtain ⟨H1,hH1,g1,n1,f1⟩:=psh AHeap.empty (.cells 44 (TM.c5 t))
 have la:=load_all (n:=5) g1 rfl
 refine DCall.of_body (fn:=Tryd.f47) (by kernel_rfl) c47 (by kernel_rfl) (by simp [f47]) ?_
 unfold f47
 simp only []
 refine Dg rfl ?_
 simp -dsimp only [SE,astep,seval,rowq,← hH1]
 refine Dg rfl ?_
 simp -dsimp only [SE,astep,seval,rowq,la]
 refine (g86x t ok H1).mono ?_
 rintro r H' ⟨⟨b,rfl,hb⟩,rfl⟩
 simp -dsimp only [SE,astep,seval,rowq]
 cases b with
 | false=>
  refine Dy rfl rfl ?_
  refine Dg rfl ?_
  simp -dsimp only [SE,astep,seval,rowq]
  refine Dm rfl ?_
  exact DR.ret ⟨_,by simp [aresult,ares,Env.get] <;> rfl,⟨_,rfl,fun h=>by cases h⟩⟩
 | true=>
  refine Dn rfl rfl ?_
  refine Dg rfl ?_
  simp -dsimp only [SE,astep,seval,rowq]
  refine Dm rfl ?_
  refine DR.loop ?_
  refine loop53x ok ih g1 rfl (fun hall=> ?_) (fun T hT=>⟨_,by simp [aresult,ares,hT] <;> rfl,_,rfl,fun h=>by cases h⟩) t.l.length 0 (by omega) (by simp)
  refine Dg rfl ?_
  simp -dsimp only [SE,astep,seval,rowq]
  refine Dm rfl ?_
  exact DR.ret ⟨_,by simp [aresult,ares,Env.get] <;> rfl,⟨_,rfl,fun _=>(fine_eq t).mpr ⟨hb rfl,fines_iff.mpr hall⟩⟩⟩
theorem g26x (t:TM) (ok:t.ok) (H:AHeap):DCall Tryd.prog 27 [t.agg] H fun r H'=>(∃ n,r = .int .i64 n∧(n=0→right t))∧H'=H:=by
 refine DCall.ints (TM.pures1 t) ?_ H
 obtain ⟨H1,hH1,g1,n1,f1⟩:=psh AHeap.empty (.cells 44 (TM.c5 t))
 have la:=load_all (n:=5) g1 rfl
 refine DCall.of_body (fn:=Tryd.f27) (by kernel_rfl) c27 (by kernel_rfl) (by simp [f27]) ?_
 unfold f27
 simp only []
 refine Dg rfl ?_
 simp -dsimp only [SE,astep,seval,rowq,← hH1]
 refine Dg rfl ?_
 simp -dsimp only [SE,astep,seval,rowq,la]
 refine (g52x t ok 200 65536 H1 (by omega) (by omega)).mono ?_
 rintro r H' ⟨⟨n,rfl,hn⟩,he⟩
 obtain rfl:=he.symm
 rcases hn with hn | ⟨rfl,hw,hdp⟩
 ·have hb:abin .lss (i64 n) (i64 0)=some (.bool true):=by simp [abin,hn]
  simp -dsimp only [SE,astep,seval,rowq,hb]
  refine Dy rfl rfl ?_
  refine Dg rfl ?_
  simp -dsimp only [SE,astep,seval,rowq]
  refine Dm rfl ?_
  exact DR.ret ⟨_,by simp [aresult,ares,Env.get] <;> rfl,⟨_,rfl,fun h=>by cases h⟩⟩
 ·have hb:abin .lss (i64 (words t:Nat)) (i64 0)=some (.bool false):=by simp [abin]
  simp -dsimp only [SE,astep,seval,rowq,hb]
  refine Dn rfl rfl ?_
  refine Dg rfl ?_
  simp -dsimp only [SE,astep,seval,rowq,la]
  refine (g53x t ok H1).mono ?_
  rintro r H2 ⟨⟨b,rfl,hb⟩,he⟩
  obtain rfl:=he.symm
  simp -dsimp only [SE,astep,seval,rowq]
  cases b with
  | false=>
   refine Dy rfl rfl ?_
   refine Dg rfl ?_
   simp -dsimp only [SE,astep,seval,rowq]
   refine Dm rfl ?_
   exact DR.ret ⟨_,by simp [aresult,ares,Env.get] <;> rfl,⟨_,rfl,fun h=>by cases h⟩⟩
  | true=>
   refine Dn rfl rfl ?_
   refine Dg rfl ?_
   simp -dsimp only [SE,astep,seval,rowq]
   refine Dm rfl ?_
   exact DR.ret ⟨_,by simp [aresult,ares,Env.get] <;> rfl,⟨_,rfl,fun _=>⟨hw,hdp,hb rfl⟩⟩⟩
theorem g18x (t:TM) (ok:t.ok) (H:AHeap):DCall Tryd.prog 17 [t.agg] H fun r H'=>(∃ b,r = .bool b∧(b=true→right t))∧H'=H:=by
 refine DCall.bools (TM.pures1 t) ?_ H
 obtain ⟨H1,hH1,g1,n1,f1⟩:=psh AHeap.empty (.cells 44 (TM.c5 t))
 have la:=load_all (n:=5) g1 rfl
 refine DCall.of_body (fn:=Tryd.f17) (by kernel_rfl) c17 (by kernel_rfl) (by simp [f17]) ?_
 unfold f17
 simp only []
 refine Dg rfl ?_
 simp -dsimp only [SE,astep,seval,rowq,← hH1]
 refine Dg rfl ?_
 simp -dsimp only [SE,astep,seval,rowq,la]
 refine (g26x t ok H1).mono ?_
 rintro r H' ⟨⟨n,rfl,hn⟩,rfl⟩
 simp -dsimp only [SE,astep,seval,rowq,abin]
 refine Dm rfl ?_
 exact DR.ret ⟨_,by simp [aresult,ares,Env.get] <;> rfl,⟨_,rfl,fun h=>hn (by simpa using h)⟩⟩
end Go.Am.Rl
namespace Go.Am.Rl
open Go.Proofs
theorem fin64_fin {f:Nat} (h:fin64 f=true):fin f=true:=by
 cases hf:fin f with
 | true=>rfl
 | false=>unfold fin64 at h; rw [sub_self,hf] at h; cases h
theorem flt_lt {f:Nat} (h:(Lit.float .f64 f).wf=true):f < 18446744073709551616:=of_decide_eq_true h
def keepB (c:List AVal):Bool:=match c with
 | [.int _ k,.str s,_,_,_]=> !((k==6)&& !(s.toList==(⟨#[45]⟩:ByteArray).toList))
 | _=>true
def five (c:List AVal):Prop:=∃ o:UInt8,(o=44∨o=91∨o=93∨o=123∨o=125)∧c=sg o
mutual
def atT:TM→List (List AVal)
 | .mk k n f s nl l=>if k=1 then (if n < 0 then [sg 45,tokC 3 ⟨#[]⟩ (-n) 0 0] else [tokC 3 ⟨#[]⟩ n 0 0]) else if k=2 then [tokC 4 ⟨#[]⟩ 0 f 0] else if k=3 then [tokC 1 s 0 0 0] else atsT l
def atsT:List TM→List (List AVal)
 | []=>[]
 | x::r=>atT x++atsT r
end
theorem five_keep {o:UInt8} (h:o=44∨o=91∨o=93∨o=123∨o=125):keepB (sg o)=false:=by
 rcases h with rfl | rfl | rfl | rfl | rfl <;> kernel_rfl
theorem keep_num (n:Int):keepB (tokC 3 ⟨#[]⟩ n 0 0)=true:=rfl
theorem keep_flt (f:Nat):keepB (tokC 4 ⟨#[]⟩ 0 f 0)=true:=rfl
theorem keep_atom (s:ByteArray):keepB (tokC 1 s 0 0 0)=true:=rfl
theorem keep_minus:keepB (sg 45)=true:=by kernel_rfl
mutual
theorem tks_keep:∀ x:TM,sayT x→(tksT x).filter keepB=atT x∧∀ c ∈ tksT x,keepB c=false→five c
 | .mk k n f s nl l,hs=>by
  simp only [sayT] at hs
  rcases hs with ⟨rfl,_,_⟩ | ⟨rfl,_,_⟩ | ⟨rfl,_⟩ | ⟨hk,hl⟩
  ·simp only [tksT,atT,if_true]
   split
   ·refine ⟨by simp [keep_num,keep_minus],fun c hc hk=> ?_⟩
    simp only [List.mem_cons,List.not_mem_nil,or_false] at hc
    rcases hc with rfl | rfl
    ·rw [keep_minus] at hk; cases hk
    ·rw [keep_num] at hk; cases hk
   ·refine ⟨by simp [keep_num],fun c hc hk=> ?_⟩
    rw [List.mem_singleton.mp hc,keep_num] at hk; cases hk
  ·simp only [tksT,atT]
   rw [if_neg (by decide),if_pos trivial]
   refine ⟨by simp [keep_flt],fun c hc hk=> ?_⟩
   rw [List.mem_singleton.mp hc,keep_flt] at hk; cases hk
  ·simp only [tksT,atT]
   rw [if_neg (by decide),if_neg (by decide),if_pos trivial]
   refine ⟨by simp [keep_atom],fun c hc hk=> ?_⟩
   rw [List.mem_singleton.mp hc,keep_atom] at hk; cases hk
  ·obtain ⟨o,c,ho,hc,ht,ha⟩:∃ o c:UInt8,(o=44∨o=91∨o=93∨o=123∨o=125)∧(c=44∨c=91∨c=93∨c=123∨c=125)∧tksT (.mk k n f s nl l)=sg o::(tksL l++[sg c])∧atT (.mk k n f s nl l)=atsT l:=by
    rcases hk with rfl | rfl
    ·exact ⟨123,125,by decide,by decide,rfl,rfl⟩
    ·exact ⟨91,93,by decide,by decide,rfl,rfl⟩
   obtain ⟨h1,h2⟩:=tks_keepL l hl
   rw [ht,ha]
   refine ⟨?_,fun x hx hk=> ?_⟩
   ·rw [List.filter_cons_of_neg (by rw [five_keep ho]; simp),List.filter_append,h1]
    simp [five_keep hc]
   ·rcases List.mem_cons.mp hx with rfl | hx
    ·exact ⟨o,ho,rfl⟩
    ·rcases List.mem_append.mp hx with hx | hx
     ·exact h2 x hx hk
     ·rw [List.mem_singleton.mp hx]; exact ⟨c,hc,rfl⟩
theorem tks_keepL:∀ l:List TM,sayL l→(tksL l).filter keepB=atsT l∧∀ c ∈ tksL l,keepB c=false→five c
 | [],_=>⟨rfl,fun c hc=>by cases hc⟩
 | x::r,hs=>by
  simp only [sayL] at hs
  obtain ⟨h1,h2⟩:=tks_keep x hs.1
  obtain ⟨h3,h4⟩:=tks_keepC r hs.2
  simp only [tksL,atsT]
  refine ⟨by rw [List.filter_append,h1,h3],fun c hc hk=> ?_⟩
  rcases List.mem_append.mp hc with hc | hc
  ·exact h2 c hc hk
  ·exact h4 c hc hk
theorem tks_keepC:∀ l:List TM,sayL l→(tksC l).filter keepB=atsT l∧∀ c ∈ tksC l,keepB c=false→five c
 | [],_=>⟨rfl,fun c hc=>by cases hc⟩
 | x::r,hs=>by
  simp only [sayL] at hs
  obtain ⟨h1,h2⟩:=tks_keep x hs.1
  obtain ⟨h3,h4⟩:=tks_keepC r hs.2
  simp only [tksC,atsT]
  refine ⟨by rw [List.filter_cons_of_neg (by rw [five_keep (.inl rfl)]; simp),List.filter_append,h1,h3],fun c hc hk=> ?_⟩
  rcases List.mem_cons.mp hc with rfl | hc
  ·exact ⟨44,.inl rfl,rfl⟩
  ·rcases List.mem_append.mp hc with hc | hc
   ·exact h2 c hc hk
   ·exact h4 c hc hk
end
mutual
def sizeT:TM→Nat
 | .mk _ _ _ _ _ l=>1+sizeL l
def sizeL:List TM→Nat
 | []=>0
 | x::r=>sizeT x+sizeL r
end
mutual
theorem size_words:∀ x:TM,fine x→sayT x→sizeT x≤words x+1
 | .mk k n f s nl l,hf,hs=>by
  simp only [fine] at hf
  simp only [sayT] at hs
  simp only [sizeT,words]
  have hl0:k=1∨k=2∨k=3→l=[]:=by
   intro hk
   rcases hf.1 with ⟨e,_,h,_⟩ | ⟨e,_,h,_⟩ | ⟨e,_,_,_,h⟩ | ⟨e,_⟩ | ⟨e,_⟩ | ⟨e,_⟩
   ·exact h
   ·exact h
   ·exact h
   ·exact absurd hk (by have e:k=4∨k=6:=e; omega)
   ·exact absurd hk (by have e:k=5:=e; omega)
   ·exact absurd hk (by have e:k=7∨k=8:=e; omega)
  rcases hs with ⟨e,_⟩ | ⟨e,_⟩ | ⟨e,_⟩ | ⟨hk,hl⟩
  ·rw [hl0 (.inl e)]; simp [sizeL]
  ·rw [hl0 (.inr (.inl e))]; simp [sizeL]
  ·rw [hl0 (.inr (.inr e))]; simp [sizeL]
  ·have:=size_wordsL l hf.2 hl
   have ho:l.length≤own k l.length:=by
    rcases hk with rfl | rfl
    ·show l.length≤1+l.length; omega
    ·show l.length≤2 * l.length; omega
   omega
theorem size_wordsL:∀ l:List TM,fines l→sayL l→sizeL l≤wordsL l+l.length
 | [],_,_=>Nat.le_refl _
 | x::r,hf,hs=>by
  simp only [fines] at hf
  simp only [sayL] at hs
  simp only [sizeL,wordsL,List.length_cons]
  have:=size_words x hf.1 hs.1
  have:=size_wordsL r hf.2 hs.2
  omega
end
mutual
theorem wr_len:∀ x:TM,sayT x→(wrL x).length+1≤263 * sizeT x
 | .mk k n f s nl l,hs=>by
  simp only [sayT] at hs
  simp only [wrL,sizeT]
  rcases hs with ⟨rfl,h1,h2⟩ | ⟨rfl,_,_⟩ | ⟨rfl,h⟩ | ⟨hk,hl⟩
  ·rw [if_pos rfl]
   split
   ·have:=decL_len 18 (-n).toNat (by omega) (by omega)
    simp only [List.length_cons]; omega
   ·have:=decL_len 18 n.toNat (by omega) (by omega)
    omega
  ·rw [if_neg (by decide),if_pos rfl,List.length_cons,hexL_len]; omega
  ·rw [if_neg (by decide),if_neg (by decide),if_pos rfl]
   split
   ·rw [bytesI_len]; omega
   ·have:=encL_len' s.data.toList
    have h':s.data.toList.length=s.size:=by rw [Array.length_toList]; rfl
    simp only [List.length_cons,List.length_append,List.length_nil]; omega
  ·have:=wrs_len l hl
   rcases hk with rfl | rfl
   ·rw [if_neg (by decide),if_neg (by decide),if_neg (by decide),if_pos rfl]
    simp only [List.length_cons,List.length_append,List.length_nil]; omega
   ·rw [if_neg (by decide),if_neg (by decide),if_neg (by decide),if_neg (by decide)]
    simp only [List.length_cons,List.length_append,List.length_nil]; omega
theorem wrs_len:∀ l:List TM,sayL l→(wrsL l).length≤263 * sizeL l
 | [],_=>Nat.le_refl _
 | x::r,hs=>by
  simp only [sayL] at hs
  simp only [wrsL,sizeL,List.length_append]
  have:=wr_len x hs.1
  have:=wrc_len r hs.2
  omega
theorem wrc_len:∀ l:List TM,sayL l→(wrcL l).length≤263 * sizeL l
 | [],_=>Nat.le_refl _
 | x::r,hs=>by
  simp only [sayL] at hs
  simp only [wrcL,sizeL,List.length_append,List.length_cons]
  have:=wr_len x hs.1
  have:=wrc_len r hs.2
  omega
end
end Go.Am.Rl
namespace Go.Am.Rl
open Go.Proofs
def OutS (H0 H:AHeap) (x:AVal) (l:List Int):Prop:=∃ out,Out8 H0 H x out∧strOf out=strOf l
theorem OutS.add {H0 H:AHeap} {x:AVal} {l:List Int} (h:OutS H0 H x l) {y:AVal} {new m:List Int} (hy:alen y=some new.length) (hs:sliceCells H 1 y=some (u8s new)) (he:strOf new=strOf m) (hp:0 < m.length) (hl:l.length+m.length≤140737488355328) :
  ∃ x' H',aapp 5 1 1 H x y=some (x',H')∧OutS H0 H' x' (l++m):=by
 obtain ⟨out,ho,e⟩:=h
 have e1:out.length=l.length:=by rw [← strOf_size,e,strOf_size]
 have e2:new.length=m.length:=by rw [← strOf_size,he,strOf_size]
 obtain ⟨x',H',h1,h2⟩:=ho.add hy hs (by omega) (by omega)
 exact ⟨x',H',h1,out++new,h2,by rw [← strOf_cat,← strOf_cat,e,he]⟩
theorem OutS.byte {H0 H:AHeap} {x:AVal} {l:List Int} (h:OutS H0 H x l) (c:Int) (hl:l.length+1≤140737488355328) :
  ∃ x' H',aapp 5 1 1 H x (.ros [.int .u8 c] 1)=some (x',H')∧OutS H0 H' x' (l++[c]):=h.add (new:=[c]) rfl rfl rfl (by simp) (by simpa using hl)
theorem OutS.str {H0 H:AHeap} {x:AVal} {l:List Int} (h:OutS H0 H x l) (m:List Int) (hp:0 < m.length) (hl:l.length+m.length≤140737488355328) :
  ∃ x' H',aapp 5 1 1 H x (.str (strOf m))=some (x',H')∧OutS H0 H' x' (l++m):=
 h.add (new:=bytesI (strOf m)) (by rw [bytesI_len]; rfl) (bytesI_cells _ H) (bytesI_str _) hp hl
theorem OutS.toStr {H0 H:AHeap} {x:AVal} {l:List Int} (h:OutS H0 H x l):abytesStr H x=some (.str (strOf l)):=by
 obtain ⟨out,ho,e⟩:=h
 rw [ho.gr.toStr,e]
theorem OutS.start {H0 H1:AHeap} (o:List Int) (hH:H1=H0.push (.cells 5 ((strOf o).data.toList.map fun b=>.int .u8 b.toNat))):OutS H0 H1 (.sl H0.next 0 (strOf o).size none) o:=by
 subst hH
 have hl:(strOf o).data.toList.length=(strOf o).size:=by rw [Array.length_toList]; rfl
 have hc:((strOf o).data.toList.map fun b:UInt8=>AVal.int .u8 b.toNat)=u8s (bytesI (strOf o)):=by simp only [u8s,bytesI,List.map_map]; rfl
 refine ⟨bytesI (strOf o),⟨⟨?_,.inr ⟨H0.next,?_,?_⟩⟩,fun j hj=> ?_,?_,fun j hj=> ?_⟩,bytesI_str _⟩
 ·simp [u8s]
 ·rw [bytesI_len]
 ·rw [AHeap.get_push,if_pos rfl,hc]
 ·simp only [rid,Option.some.injEq] at hj; omega
 ·simp
 ·rw [AHeap.get_push,if_neg (by omega)]
theorem wrcL_app:∀ (l:List TM) (x:TM),wrcL (l++[x])=wrcL l++44::wrL x
 | [],x=>by simp [wrcL]
 | y::r,x=>by
  have:=wrcL_app r x
  rw [List.cons_append]
  simp only [wrcL]
  rw [this]; simp
theorem wrsL_app (l:List TM) (x:TM) (h:0 < l.length):wrsL (l++[x])=wrsL l++44::wrL x:=by
 cases l with
 | nil=>cases h
 | cons y r=>
  rw [List.cons_append]
  simp only [wrsL]
  rw [wrcL_app]; simp
theorem wrs_take {l:List TM} {i:Nat} {x:TM} (hx:l[i]? = some x):wrsL (l.take (i+1))=wrsL (l.take i)++((if 0 < i then [44] else [])++wrL x):=by
 have hlt:=(List.getElem?_eq_some_iff.mp hx).1
 have e:l.take (i+1)=l.take i++[x]:=by rw [List.take_add_one,hx]; rfl
 rw [e]
 by_cases h:0 < i
 ·rw [wrsL_app _ _ (by rw [List.length_take]; omega),if_pos h]; simp
 ·obtain rfl:i=0:=by omega
  simp [wrsL,wrcL]
theorem wrs_le {l:List TM}:∀ (n i:Nat),i+n=l.length→(wrsL (l.take i)).length≤(wrsL l).length:=by
 intro n
 induction n with
 | zero=>intro i hi; rw [List.take_of_length_le (by omega)]; exact Nat.le_refl _
 | succ n ih=>
  intro i hi
  have hx:l[i]? = some l[i]:=List.getElem?_eq_getElem (by omega)
  have h1:=wrs_take hx
  have h2:=ih (i+1) (by omega)
  rw [h1,List.length_append] at h2
  omega
theorem wrs_mem {l:List TM} {i:Nat} {x:TM} (hx:l[i]? = some x):(wrsL (l.take i)).length+1+(wrL x).length≤(wrsL l).length+1:=by
 have hlt:=(List.getElem?_eq_some_iff.mp hx).1
 have h1:=wrs_take hx
 have h2:=wrs_le (l:=l) (l.length - (i+1)) (i+1) (by omega)
 rw [h1,List.length_append,List.length_append] at h2
 omega
theorem gtr0 (i:Nat):abin .gtr (.int .i64 (i:Nat)) (.int .i64 0)=some (.bool (decide (0 < i))):=by simp [abin]
section
variable {t:TM} {c:ByteArray} {o:Int} {k k':List AItem} {Q:Env→AHeap→Prop}
theorem loop31 (ok:t.ok) (ih:∀ x ∈ t.l,x.ok→∀ H,DCall Tryd.prog 19 [x.agg] H fun r H'=>r = .str (strOf (wrL x))∧H'=H) (hlen:(wrsL t.l).length≤100000000) (hk:aexitTo 0 k=some k')
  (hend:∀ x H,OutS AHeap.empty H x (o::wrsL t.l)→DR Tryd.prog (kof k31) 33 k' [(2,.str c),(7,x)] H Q) :
  ∀ (d i:Nat) (x:AVal) (H:AHeap),i+d=t.l.length→OutS AHeap.empty H x (o::wrsL (t.l.take i))→DR Tryd.prog (kof k31) 33 (.code l31_0::.inLoop l31_0::k) [(0,t.row),(2,.str c),(7,x),(8,.int .i64 (i:Nat))] H Q:=by
 intro d
 have hl:=fun H=>TM.lenT ok H
 induction d with
 | zero=>
  intro i x H hi hO
  have hc:=lss_nat i t.l.length
  rw [decide_eq_false (by omega)] at hc
  refine Dg rfl ?_
  simp -dsimp only [SE,astep,seval,rowq,hl,hc]
  refine Dn rfl rfl ?_
  refine DR.exit (k':=k') (by simpa [aexitTo] using hk) ?_
  rw [List.take_of_length_le (by omega)] at hO
  exact DR.only [2,7] (hend x H hO)
 | succ d ihd=>
  intro i x H hi hO
  have hc:=lss_nat i t.l.length
  rw [decide_eq_true (by omega)] at hc
  have hlt:i < t.l.length:=by omega
  have hx:t.l[i]? = some t.l[i]:=List.getElem?_eq_getElem hlt
  have hxo:=TM.ok_at ok hx
  have hle:=TM.len_le ok
  have hadd:=inc_nat (i:=i) (by omega)
  have hm:=wrs_mem hx
  have hT:=wrs_take hx
  have hg:=gtr0 i
  have hpos:=wrL_pos t.l[i]
  by_cases h0:0 < i
  ·rw [decide_eq_true h0] at hg
   rw [if_pos h0] at hT
   obtain ⟨x1,H1,ha1,hO1⟩:=hO.byte 44 (by simp; omega)
   obtain ⟨x2,H2,ha2,hO2⟩:=hO1.str (wrL t.l[i]) hpos (by simp; omega)
   have hE:o::wrsL (t.l.take i)++[44]++wrL t.l[i]=o::wrsL (t.l.take (i+1)):=by rw [hT]; simp
   rw [hE] at hO2
   have ra:=TM.row_at ok hx H1
   have la:=TM.load t.l[i] (TM.flat (t.l.drop (i+1))) H1
   refine Dg rfl ?_
   simp -dsimp only [SE,astep,seval,rowq,hl,hc]
   refine Dy rfl rfl ?_
   refine Dg rfl ?_
   simp -dsimp only [SE,astep,seval,rowq,hg]
   refine Dy rfl rfl ?_
   refine Dg rfl ?_
   simp -dsimp only [SE,astep,seval,rowq,Env.parts,afill,LZ,List.drop_one,List.tail_cons,ha1]
   refine Dg rfl ?_
   simp -dsimp only [SE,astep,seval,rowq,ra,la]
   refine (ih _ (List.getElem_mem hlt) hxo H1).mono ?_
   rintro r H' ⟨rfl,he⟩
   obtain rfl:=he.symm
   simp -dsimp only [SE,astep,seval,rowq,ha2]
   refine Dg rfl ?_
   simp -dsimp only [SE,astep,seval,rowq,hadd]
   refine Dm rfl ?_
   refine DR.inLoop ?_
   exact ihd (i+1) x2 H2 (by omega) hO2
  ·rw [decide_eq_false h0] at hg
   rw [if_neg h0,List.nil_append] at hT
   obtain ⟨x2,H2,ha2,hO2⟩:=hO.str (wrL t.l[i]) hpos (by simp; omega)
   have hE:o::wrsL (t.l.take i)++wrL t.l[i]=o::wrsL (t.l.take (i+1)):=by rw [hT]; simp
   rw [hE] at hO2
   have ra:=TM.row_at ok hx H
   have la:=TM.load t.l[i] (TM.flat (t.l.drop (i+1))) H
   refine Dg rfl ?_
   simp -dsimp only [SE,astep,seval,rowq,hl,hc]
   refine Dy rfl rfl ?_
   refine Dg rfl ?_
   simp -dsimp only [SE,astep,seval,rowq,hg]
   refine Dn rfl rfl ?_
   refine Dg rfl ?_
   simp -dsimp only [SE,astep,seval,rowq,ra,la]
   refine (ih _ (List.getElem_mem hlt) hxo H).mono ?_
   rintro r H' ⟨rfl,he⟩
   obtain rfl:=he.symm
   simp -dsimp only [SE,astep,seval,rowq,ha2]
   refine Dg rfl ?_
   simp -dsimp only [SE,astep,seval,rowq,hadd]
   refine Dm rfl ?_
   refine DR.inLoop ?_
   exact ihd (i+1) x2 H2 (by omega) hO2
end
theorem TM.purer {u:TM}:AVal.pures [u.row]=true:=by
 have:=TM.pures1 u
 simp only [AVal.pures,AVal.pure,TM.agg,Bool.and_true,Bool.true_and] at this ⊢
 exact this
theorem g31 {t:TM} (ok:t.ok) (o c:Int) (ih:∀ x ∈ t.l,x.ok→∀ H,DCall Tryd.prog 19 [x.agg] H fun r H'=>r = .str (strOf (wrL x))∧H'=H) (hlen:(wrsL t.l).length≤100000000) (H:AHeap) :
  DCall Tryd.prog 31 [t.row,.str (strOf [o]),.str (strOf [c])] H fun r H'=>r = .str (strOf (o::(wrsL t.l++[c])))∧H'=H:=by
 have h:DCall Tryd.prog 31 [t.row,.str (strOf [o]),.str (strOf [c])] AHeap.empty fun r H'=>∃ s,r = .str s∧s=strOf (o::(wrsL t.l++[c])):=by
  obtain ⟨H1,hH1,g1,n1,f1⟩:=psh AHeap.empty (.cells 5 ((strOf [o]).data.toList.map fun b=>.int .u8 b.toNat))
  have hz:(strOf [o]).size < 9223372036854775808:=by rw [strOf_size]; simp
  have hO:=OutS.start [o] hH1
  obtain ⟨oo,hoo⟩:∃ oo,oo=strOf [o]:=⟨_,rfl⟩
  rw [← hoo] at hz hH1 hO ⊢
  obtain ⟨cc,hcc⟩:∃ cc,cc=strOf [c]:=⟨_,rfl⟩
  rw [← hcc]
  refine DCall.of_body (fn:=Tryd.f31) (by kernel_rfl) c31 (by kernel_rfl) (by simp [f31]) ?_
  unfold f31
  simp only []
  refine Dg rfl ?_
  simp -dsimp only [SE,astep,seval,rowq]
  refine Dg rfl ?_
  simp -dsimp only [SE,astep,seval,rowq,hz,← hH1]
  refine Dg rfl ?_
  simp -dsimp only [SE,astep,seval,rowq]
  refine Dm rfl ?_
  refine DR.loop ?_
  refine loop31 (o:=o) ok ih hlen rfl (fun x H hO2=> ?_) t.l.length 0 _ H1 (by omega) (by simpa [wrsL] using hO)
  obtain ⟨x2,H2,ha,hO3⟩:=hO2.str [c] (by simp) (by simp; omega)
  have hs:=hO3.toStr
  rw [← hcc] at ha
  refine Dg rfl ?_
  simp -dsimp only [SE,astep,seval,rowq,ha,hs]
  refine Dm rfl ?_
  exact DR.ret ⟨_,by simp [aresult,ares,Env.get] <;> rfl,⟨_,rfl,rfl⟩⟩
 refine (DCall.strs ?_ h H).mono fun r H' ⟨⟨s,h1,h2⟩,h3⟩=>⟨by rw [h1,h2],h3⟩
 have:=TM.purer (u:=t)
 simp only [AVal.pures,AVal.pure,Bool.and_true] at this ⊢
 exact this
theorem wr_mem {x:TM}:∀ {l:List TM},x ∈ l→(wrL x).length≤(wrsL l).length:=by
 intro l hx
 obtain ⟨i,hi⟩:=List.mem_iff_getElem?.mp hx
 have:=wrs_mem hi
 omega
theorem say_mem:∀ {l:List TM} {x:TM},sayL l→x ∈ l→sayT x
 | [],_,_,h=>by cases h
 | y::r,x,hs,h=>by
  simp only [sayL] at hs
  rcases List.mem_cons.mp h with rfl | h
  ·exact hs.1
  ·exact say_mem hs.2 h
theorem g19:∀ t:TM,t.ok→sayT t→(wrL t).length≤100000000→∀ H,DCall Tryd.prog 19 [t.agg] H fun r H'=>r = .str (strOf (wrL t))∧H'=H:=by
 refine TM.all fun t ih ok hs hlen H=> ?_
 have h:DCall Tryd.prog 19 [t.agg] AHeap.empty fun r H'=>∃ s,r = .str s∧s=strOf (wrL t):=by
  obtain ⟨H1,hH1,g1,n1,f1⟩:=psh AHeap.empty (.cells 44 (TM.c5 t))
  have la:=load_all (n:=5) g1 rfl
  have l0:=load_cell g1 (o:=0) (v:=.int .i64 t.k) rfl
  have l3:=load_cell g1 (o:=3) (v:=.str t.s) rfl
  have l4:=load_cell g1 (o:=4) (v:=t.row) rfl
  have hpr:=TM.purer (u:=t)
  have row:∀ o c:Int,(wrsL t.l).length≤100000000→sayL t.l→DCall Tryd.prog 31 [t.row,.str (strOf [o]),.str (strOf [c])] H1 fun r H'=>r = .str (strOf (o::(wrsL t.l++[c])))∧H'=H1:=fun o c hl hsl=>
   g31 ok o c (fun x hx hxo H=>ih x hx hxo (say_mem hsl hx) (by have:=wr_mem hx; omega) H) hl H1
  cases t with
  | mk k n f s nl l=>
   simp only [sayT] at hs
   rcases hs with ⟨rfl,h1,h2⟩ | ⟨rfl,h1,h2⟩ | ⟨rfl,h1⟩ | ⟨hk,hsl⟩
   ·have c11:abin .eql (.int .i64 1) (.int .i64 1)=some (.bool true):=rfl
    have hw:wrL (.mk 1 n f s nl l)=if n < 0 then 45::decL (-n).toNat else decL n.toNat:=by simp only [wrL,if_true]
    rw [hw]
    refine DCall.of_body (fn:=Tryd.f19) (by kernel_rfl) c19 (by kernel_rfl) (by simp [f19]) ?_
    unfold f19
    simp only []
    refine Dg rfl ?_
    simp -dsimp only [SE,astep,seval,rowq,← hH1]
    refine Dg rfl ?_
    simp -dsimp only [SE,astep,seval,rowq,l0]
    refine Dg rfl ?_
    simp -dsimp only [SE,astep,seval,rowq,c11]
    refine Dy rfl rfl ?_
    refine Dm rfl ?_
    refine Dy rfl rfl ?_
    refine Dg rfl ?_
    simp -dsimp only [SE,astep,seval,rowq,la]
    refine (g28i (n:=n) hpr (by omega) (by omega) H1).mono ?_
    rintro r H' ⟨rfl,he⟩
    obtain rfl:=he.symm
    simp -dsimp only [SE,astep,seval,rowq]
    refine Dm rfl ?_
    exact DR.ret ⟨_,by simp [aresult,ares,Env.get] <;> rfl,⟨_,rfl,rfl⟩⟩
   ·have c21:abin .eql (.int .i64 2) (.int .i64 1)=some (.bool false):=rfl
    have c22:abin .eql (.int .i64 2) (.int .i64 2)=some (.bool true):=rfl
    have hw:wrL (.mk 2 n f s nl l)=35::hexL f 16:=by simp only [wrL]; rw [if_neg (by decide),if_pos trivial]
    rw [hw]
    refine DCall.of_body (fn:=Tryd.f19) (by kernel_rfl) c19 (by kernel_rfl) (by simp [f19]) ?_
    unfold f19
    simp only []
    refine Dg rfl ?_
    simp -dsimp only [SE,astep,seval,rowq,← hH1]
    refine Dg rfl ?_
    simp -dsimp only [SE,astep,seval,rowq,l0]
    refine Dg rfl ?_
    simp -dsimp only [SE,astep,seval,rowq,c21]
    refine Dn rfl rfl ?_
    refine Dg rfl ?_
    simp -dsimp only [SE,astep,seval,rowq,c22]
    refine Dy rfl rfl ?_
    refine Dg rfl ?_
    simp -dsimp only [SE,astep,seval,rowq,la]
    refine (g28f hpr h1 H1).mono ?_
    rintro r H' ⟨rfl,he⟩
    obtain rfl:=he.symm
    simp -dsimp only [SE,astep,seval,rowq]
    refine Dm rfl ?_
    exact DR.ret ⟨_,by simp [aresult,ares,Env.get] <;> rfl,⟨_,rfl,rfl⟩⟩
   ·have c31:abin .eql (.int .i64 3) (.int .i64 1)=some (.bool false):=rfl
    have c32:abin .eql (.int .i64 3) (.int .i64 2)=some (.bool false):=rfl
    have c33:abin .eql (.int .i64 3) (.int .i64 3)=some (.bool true):=rfl
    have hw:wrL (.mk 3 n f s nl l)=if plainA s=true then bytesI s else 39::(encL s.data.toList++[39]):=by simp only [wrL]; rw [if_neg (by decide),if_neg (by decide),if_pos trivial]
    rw [hw]
    refine DCall.of_body (fn:=Tryd.f19) (by kernel_rfl) c19 (by kernel_rfl) (by simp [f19]) ?_
    unfold f19
    simp only []
    refine Dg rfl ?_
    simp -dsimp only [SE,astep,seval,rowq,← hH1]
    refine Dg rfl ?_
    simp -dsimp only [SE,astep,seval,rowq,l0]
    refine Dg rfl ?_
    simp -dsimp only [SE,astep,seval,rowq,c31]
    refine Dn rfl rfl ?_
    refine Dg rfl ?_
    simp -dsimp only [SE,astep,seval,rowq,c32]
    refine Dn rfl rfl ?_
    refine Dg rfl ?_
    simp -dsimp only [SE,astep,seval,rowq,c33]
    refine Dy rfl rfl ?_
    refine Dg rfl ?_
    simp -dsimp only [SE,astep,seval,rowq,l3]
    refine (g29 h1 H1).mono ?_
    rintro r H' ⟨rfl,he⟩
    obtain rfl:=he.symm
    simp -dsimp only [SE,astep,seval,rowq]
    refine Dm rfl ?_
    exact DR.ret ⟨_,by simp [aresult,ares,Env.get] <;> rfl,⟨_,rfl,rfl⟩⟩
   ·rcases hk with rfl | rfl
    ·have c71:abin .eql (.int .i64 7) (.int .i64 1)=some (.bool false):=rfl
     have c72:abin .eql (.int .i64 7) (.int .i64 2)=some (.bool false):=rfl
     have c73:abin .eql (.int .i64 7) (.int .i64 3)=some (.bool false):=rfl
     have c74:abin .eql (.int .i64 7) (.int .i64 4)=some (.bool false):=rfl
     have c76:abin .eql (.int .i64 7) (.int .i64 6)=some (.bool false):=rfl
     have c75:abin .eql (.int .i64 7) (.int .i64 5)=some (.bool false):=rfl
     have c77:abin .eql (.int .i64 7) (.int .i64 7)=some (.bool true):=rfl
     have hw:wrL (.mk 7 n f s nl l)=123::(wrsL l++[125]):=rfl
     rw [hw] at hlen ⊢
     have hr:DCall Tryd.prog 31 [(TM.mk 7 n f s nl l).row,.str ⟨#[123]⟩,.str ⟨#[125]⟩] H1 fun r H'=>r = .str (strOf (123::(wrsL l++[125])))∧H'=H1:=row 123 125 (by simp at hlen; show (wrsL l).length≤_; omega) hsl
     refine DCall.of_body (fn:=Tryd.f19) (by kernel_rfl) c19 (by kernel_rfl) (by simp [f19]) ?_
     unfold f19
     simp only []
     refine Dg rfl ?_
     simp -dsimp only [SE,astep,seval,rowq,← hH1]
     refine Dg rfl ?_
     simp -dsimp only [SE,astep,seval,rowq,l0]
     refine Dg rfl ?_
     simp -dsimp only [SE,astep,seval,rowq,c71]
     refine Dn rfl rfl ?_
     refine Dg rfl ?_
     simp -dsimp only [SE,astep,seval,rowq,c72]
     refine Dn rfl rfl ?_
     refine Dg rfl ?_
     simp -dsimp only [SE,astep,seval,rowq,c73]
     refine Dn rfl rfl ?_
     refine Dg rfl ?_
     simp -dsimp only [SE,astep,seval,rowq,c74]
     refine Dn rfl rfl ?_
     refine Dg rfl ?_
     simp -dsimp only [SE,astep,seval,rowq,c76]
     refine Dn rfl rfl ?_
     refine Dg rfl ?_
     simp -dsimp only [SE,astep,seval,rowq,c75]
     refine Dn rfl rfl ?_
     refine Dg rfl ?_
     simp -dsimp only [SE,astep,seval,rowq,c77]
     refine Dy rfl rfl ?_
     refine Dg rfl ?_
     simp -dsimp only [SE,astep,seval,rowq,l4]
     refine hr.mono ?_
     rintro r H' ⟨rfl,he⟩
     obtain rfl:=he.symm
     simp -dsimp only [SE,astep,seval,rowq]
     refine Dm rfl ?_
     exact DR.ret ⟨_,by simp [aresult,ares,Env.get] <;> rfl,⟨_,rfl,rfl⟩⟩
    ·have c71:abin .eql (.int .i64 8) (.int .i64 1)=some (.bool false):=rfl
     have c72:abin .eql (.int .i64 8) (.int .i64 2)=some (.bool false):=rfl
     have c73:abin .eql (.int .i64 8) (.int .i64 3)=some (.bool false):=rfl
     have c74:abin .eql (.int .i64 8) (.int .i64 4)=some (.bool false):=rfl
     have c76:abin .eql (.int .i64 8) (.int .i64 6)=some (.bool false):=rfl
     have c75:abin .eql (.int .i64 8) (.int .i64 5)=some (.bool false):=rfl
     have c77:abin .eql (.int .i64 8) (.int .i64 7)=some (.bool false):=rfl
     have hw:wrL (.mk 8 n f s nl l)=91::(wrsL l++[93]):=rfl
     rw [hw] at hlen ⊢
     have hr:DCall Tryd.prog 31 [(TM.mk 8 n f s nl l).row,.str ⟨#[91]⟩,.str ⟨#[93]⟩] H1 fun r H'=>r = .str (strOf (91::(wrsL l++[93])))∧H'=H1:=row 91 93 (by simp at hlen; show (wrsL l).length≤_; omega) hsl
     refine DCall.of_body (fn:=Tryd.f19) (by kernel_rfl) c19 (by kernel_rfl) (by simp [f19]) ?_
     unfold f19
     simp only []
     refine Dg rfl ?_
     simp -dsimp only [SE,astep,seval,rowq,← hH1]
     refine Dg rfl ?_
     simp -dsimp only [SE,astep,seval,rowq,l0]
     refine Dg rfl ?_
     simp -dsimp only [SE,astep,seval,rowq,c71]
     refine Dn rfl rfl ?_
     refine Dg rfl ?_
     simp -dsimp only [SE,astep,seval,rowq,c72]
     refine Dn rfl rfl ?_
     refine Dg rfl ?_
     simp -dsimp only [SE,astep,seval,rowq,c73]
     refine Dn rfl rfl ?_
     refine Dg rfl ?_
     simp -dsimp only [SE,astep,seval,rowq,c74]
     refine Dn rfl rfl ?_
     refine Dg rfl ?_
     simp -dsimp only [SE,astep,seval,rowq,c76]
     refine Dn rfl rfl ?_
     refine Dg rfl ?_
     simp -dsimp only [SE,astep,seval,rowq,c75]
     refine Dn rfl rfl ?_
     refine Dg rfl ?_
     simp -dsimp only [SE,astep,seval,rowq,c77]
     refine Dn rfl rfl ?_
     refine Dg rfl ?_
     simp -dsimp only [SE,astep,seval,rowq,l4]
     refine hr.mono ?_
     rintro r H' ⟨rfl,he⟩
     obtain rfl:=he.symm
     simp -dsimp only [SE,astep,seval,rowq]
     refine Dm rfl ?_
     exact DR.ret ⟨_,by simp [aresult,ares,Env.get] <;> rfl,⟨_,rfl,rfl⟩⟩
 exact (DCall.strs (TM.pures1 t) h H).mono fun r H' ⟨⟨s,h1,h2⟩,h3⟩=>⟨by rw [h1,h2],h3⟩
end Go.Am.Rl
namespace Go.Am.Rl
open Go.Proofs
theorem say_pl {t:TM} (ok:t.ok) (hp:TM.pl t) (h1:t.k≠1∨t.n≠ -576460752303423488) (h4:¬ t.k=4) (h6:¬ t.k=6) (h5:¬ t.k=5) (hl:sayL t.l):sayT t:=by
 cases t with
 | mk k n f s nl l=>
  simp only [sayT]
  rcases hp with ⟨e,_,_,hn,_⟩ | ⟨e,_,_,_,hff⟩ | ⟨e,hs,_⟩ | ⟨e,_⟩ | ⟨e,_⟩ | ⟨e,_⟩
  ·have e:k=1:=e
   refine .inl ⟨e,?_,hn.2⟩
   have : -576460752303423488≤n:=hn.1
   rcases h1 with h1 | h1
   ·exact absurd e h1
   ·have h1:n≠ -576460752303423488:=h1
    omega
  ·exact .inr (.inl ⟨e,flt_lt ok.2.2.1,fin64_fin hff⟩)
  ·exact .inr (.inr (.inl ⟨e,hs⟩))
  ·exact absurd e (fun e=>by rcases e with e | e; exact h4 e; exact h6 e)
  ·exact absurd e h5
  ·exact .inr (.inr (.inr ⟨e,hl⟩))
theorem pl_leaf {k n:Int} {f:Nat} {s:ByteArray} {nl:Bool} {l:List TM} (hp:TM.pl (.mk k n f s nl l)) (hk:k=1∨k=2∨k=3):l=[]:=by
 rcases hp with ⟨e,_,h,_⟩ | ⟨e,_,h,_⟩ | ⟨e,_,_,_,h⟩ | ⟨e,_⟩ | ⟨e,_⟩ | ⟨e,_⟩
 ·exact h
 ·exact h
 ·exact h
 ·exact absurd hk (by have e:k=4∨k=6:=e; omega)
 ·exact absurd hk (by have e:k=5:=e; omega)
 ·exact absurd hk (by have e:k=7∨k=8:=e; omega)
theorem sayL_iff:∀ {l:List TM},sayL l↔∀ x ∈ l,sayT x
 | []=>by simp [sayL]
 | x::r=>by simp only [sayL,sayL_iff (l:=r),List.forall_mem_cons]
section
variable {t:TM} {H:AHeap} {id:Nat} {k k':List AItem} {Q:Env→AHeap→Prop}
theorem loop18 (ok:t.ok) (ih:∀ x ∈ t.l,x.ok→∀ H,DCall Tryd.prog 18 [x.agg] H fun r H'=>(∃ b,r = .bool b∧(b=true→sayT x))∧H'=H)
  (g:H.get id=some (.cells 44 (TM.c5 t))) (hk:aexitTo 0 k=some k') (hend:(∀ x ∈ t.l,sayT x)→DR Tryd.prog (kof k18) 41 k' [] H Q) (hret:∀ T,T.get 2=some (.bool false)→Q T H) :
  ∀ (e i:Nat),i+e=t.l.length→(∀ x ∈ t.l.take i,sayT x)→DR Tryd.prog (kof k18) 41 (.code l18_0::.inLoop l18_0::k) [(1,.ptr id 0),(3,.int .i64 (i:Nat))] H Q:=by
 intro e
 have l4:=load_cell g (o:=4) (v:=t.row) rfl
 have hl:=TM.lenT ok H
 induction e with
 | zero=>
  intro i hi hall
  have hc:=lss_nat i t.l.length
  rw [decide_eq_false (by omega)] at hc
  refine Dg rfl ?_
  simp -dsimp only [SE,astep,seval,rowq,l4,hl,hc]
  refine Dn rfl rfl ?_
  refine Dm rfl ?_
  refine DR.exit hk ?_
  exact DR.only [] (hend (by rw [List.take_of_length_le (by omega)] at hall; exact hall))
 | succ e ih2=>
  intro i hi hall
  have hc:=lss_nat i t.l.length
  rw [decide_eq_true (by omega)] at hc
  have hlt:i < t.l.length:=by omega
  have hx:t.l[i]? = some t.l[i]:=List.getElem?_eq_getElem hlt
  have hxo:=TM.ok_at ok hx
  have ra:=TM.row_at ok hx H
  have la:=TM.load t.l[i] (TM.flat (t.l.drop (i+1))) H
  have hle:=TM.len_le ok
  have hadd:=inc_nat (i:=i) (by omega)
  refine Dg rfl ?_
  simp -dsimp only [SE,astep,seval,rowq,l4,hl,hc]
  refine Dy rfl rfl ?_
  refine Dg rfl ?_
  simp -dsimp only [SE,astep,seval,rowq,l4,ra,la]
  refine (ih _ (List.getElem_mem hlt) hxo H).mono ?_
  rintro r H' ⟨⟨b,rfl,hb⟩,he⟩
  obtain rfl:=he.symm
  cases b with
  | false=>
   simp -dsimp only [SE,astep,seval,rowq]
   refine Dy rfl rfl ?_
   refine Dg rfl ?_
   simp -dsimp only [SE,astep,seval,rowq]
   refine Dm rfl ?_
   exact DR.ret (hret _ rfl)
  | true=>
   simp -dsimp only [SE,astep,seval,rowq]
   refine Dn rfl rfl ?_
   refine Dg rfl ?_
   simp -dsimp only [SE,astep,seval,rowq,hadd]
   refine Dm rfl ?_
   refine DR.inLoop ?_
   exact ih2 (i+1) (by omega) (all_take hall hx (hb rfl))
end
theorem g18:∀ t:TM,t.ok→fine t→∀ H:AHeap,DCall Tryd.prog 18 [t.agg] H fun r H'=>(∃ b,r = .bool b∧(b=true→sayT t))∧H'=H:=by
 refine TM.all fun t ih ok hf H=> ?_
 refine DCall.bools (TM.pures1 t) ?_ H
 obtain ⟨H1,hH1,g1,n1,f1⟩:=psh AHeap.empty (.cells 44 (TM.c5 t))
 have l0:=load_cell g1 (o:=0) (v:=.int .i64 t.k) rfl
 have ln:=load_cell g1 (o:=1) (v:=.int .i64 t.n) rfl
 have hf':=(fine_eq t).mp hf
 have hfl:=fines_iff.mp hf'.2
 have rest:(sayL t.l→sayT t)→DR Tryd.prog (kof k18) 41 [.code l18_0,.inLoop l18_0,.inBlock 0,.code (.seq (.region false r18_8 [2]) .ret)] [(1,.ptr AHeap.empty.next 0),(3,.int .i64 ((0:Nat):Int))] H1 fun T' H'=>∃ r,aresult H' T' [.tmp 2]=some r∧∃ b,r = .bool b∧(b=true→sayT t):=by
  intro hsay
  refine loop18 ok (fun x hx hxo H=>ih x hx hxo (hfl x hx) H) g1 rfl (fun hall=> ?_) (fun T hT=>⟨_,by simp [aresult,ares,hT] <;> rfl,_,rfl,fun h=>by cases h⟩) t.l.length 0 (by omega) (by simp)
  refine Dg rfl ?_
  simp -dsimp only [SE,astep,seval,rowq]
  refine Dm rfl ?_
  exact DR.ret ⟨_,by simp [aresult,ares,Env.get] <;> rfl,⟨_,rfl,fun _=>hsay (sayL_iff.mpr hall)⟩⟩
 have e:∀ a b:Int,abin .eql (.int .i64 a) (.int .i64 b)=some (.bool (decide (a=b))):=fun a b=>by
  simp only [abin]
  rw [if_pos trivial]
  congr 2
 have e4:=e t.k 4
 have e6:=e t.k 6
 have e5:=e t.k 5
 have e1:=e t.k 1
 have em:=e t.n (-576460752303423488)
 by_cases h4:t.k=4
 ·rw [decide_eq_true h4] at e4
  refine DCall.of_body (fn:=Tryd.f18) (by kernel_rfl) c18 (by kernel_rfl) (by simp [f18]) ?_
  unfold f18
  simp only []
  refine Dg rfl ?_
  simp -dsimp only [SE,astep,seval,rowq,← hH1]
  refine Dg rfl ?_
  simp -dsimp only [SE,astep,seval,rowq,l0,e4]
  refine Dy rfl rfl ?_
  refine Dg rfl ?_
  simp -dsimp only [SE,astep,seval,rowq]
  refine Dm rfl ?_
  exact DR.ret ⟨_,by simp [aresult,ares,Env.get] <;> rfl,⟨_,rfl,fun h=>by cases h⟩⟩
 rw [decide_eq_false h4] at e4
 by_cases h6:t.k=6
 ·rw [decide_eq_true h6] at e6
  refine DCall.of_body (fn:=Tryd.f18) (by kernel_rfl) c18 (by kernel_rfl) (by simp [f18]) ?_
  unfold f18
  simp only []
  refine Dg rfl ?_
  simp -dsimp only [SE,astep,seval,rowq,← hH1]
  refine Dg rfl ?_
  simp -dsimp only [SE,astep,seval,rowq,l0,e4,e6]
  refine Dy rfl rfl ?_
  refine Dg rfl ?_
  simp -dsimp only [SE,astep,seval,rowq]
  refine Dm rfl ?_
  exact DR.ret ⟨_,by simp [aresult,ares,Env.get] <;> rfl,⟨_,rfl,fun h=>by cases h⟩⟩
 rw [decide_eq_false h6] at e6
 by_cases h5:t.k=5
 ·rw [decide_eq_true h5] at e5
  refine DCall.of_body (fn:=Tryd.f18) (by kernel_rfl) c18 (by kernel_rfl) (by simp [f18]) ?_
  unfold f18
  simp only []
  refine Dg rfl ?_
  simp -dsimp only [SE,astep,seval,rowq,← hH1]
  refine Dg rfl ?_
  simp -dsimp only [SE,astep,seval,rowq,l0,e4,e6,e5]
  refine Dy rfl rfl ?_
  refine Dg rfl ?_
  simp -dsimp only [SE,astep,seval,rowq]
  refine Dm rfl ?_
  exact DR.ret ⟨_,by simp [aresult,ares,Env.get] <;> rfl,⟨_,rfl,fun h=>by cases h⟩⟩
 rw [decide_eq_false h5] at e5
 by_cases h1:t.k=1
 ·rw [decide_eq_true h1] at e1
  by_cases hm:t.n = -576460752303423488
  ·rw [decide_eq_true hm] at em
   refine DCall.of_body (fn:=Tryd.f18) (by kernel_rfl) c18 (by kernel_rfl) (by simp [f18]) ?_
   unfold f18
   simp only []
   refine Dg rfl ?_
   simp -dsimp only [SE,astep,seval,rowq,← hH1]
   refine Dg rfl ?_
   simp -dsimp only [SE,astep,seval,rowq,l0,e4,e6,e5,e1,ln,em]
   refine Dy rfl rfl ?_
   refine Dg rfl ?_
   simp -dsimp only [SE,astep,seval,rowq]
   refine Dm rfl ?_
   exact DR.ret ⟨_,by simp [aresult,ares,Env.get] <;> rfl,⟨_,rfl,fun h=>by cases h⟩⟩
  ·rw [decide_eq_false hm] at em
   have hs:sayL t.l→sayT t:=fun hl=>say_pl ok hf'.1 (.inr hm) h4 h6 h5 hl
   refine DCall.of_body (fn:=Tryd.f18) (by kernel_rfl) c18 (by kernel_rfl) (by simp [f18]) ?_
   unfold f18
   simp only []
   refine Dg rfl ?_
   simp -dsimp only [SE,astep,seval,rowq,← hH1]
   refine Dg rfl ?_
   simp -dsimp only [SE,astep,seval,rowq,l0,e4,e6,e5,e1,ln,em]
   refine Dn rfl rfl ?_
   refine Dg rfl ?_
   simp -dsimp only [SE,astep,seval,rowq]
   refine Dm rfl ?_
   refine DR.loop ?_
   exact rest hs
 ·rw [decide_eq_false h1] at e1
  have hs:sayL t.l→sayT t:=fun hl=>say_pl ok hf'.1 (.inl h1) h4 h6 h5 hl
  refine DCall.of_body (fn:=Tryd.f18) (by kernel_rfl) c18 (by kernel_rfl) (by simp [f18]) ?_
  unfold f18
  simp only []
  refine Dg rfl ?_
  simp -dsimp only [SE,astep,seval,rowq,← hH1]
  refine Dg rfl ?_
  simp -dsimp only [SE,astep,seval,rowq,l0,e4,e6,e5,e1]
  refine Dn rfl rfl ?_
  refine Dg rfl ?_
  simp -dsimp only [SE,astep,seval,rowq]
  refine Dm rfl ?_
  refine DR.loop ?_
  exact rest hs
end Go.Am.Rl
