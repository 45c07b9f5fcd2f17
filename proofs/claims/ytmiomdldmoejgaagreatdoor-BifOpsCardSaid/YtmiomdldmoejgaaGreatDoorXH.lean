/- Parts: QE, QF, OG, OH, QG, ZC, ZT, ZU. -/
import Derived.Test.YtmiomdldmoejgaaGreatDoorXG
import Derived.Test.YtmiomdldmoejgaaGreatDoorXF
import Derived.Test.YtmiomdldmoejgaaGreatDoorAmP
import Derived.Test.YtmiomdldmoejgaaGreatDoorXA
import Derived.Test.YtmiomdldmoejgaaGreatDoorAmS
import Derived.Test.YtmiomdldmoejgaaGreatDoorAmQ
set_option linter.unusedVariables false
set_option linter.unusedSimpArgs false
set_option maxRecDepth 20000
set_option maxRecDepth 100000
namespace Go.Am.Rl
open Go.Proofs
def isFn (r:AVal):Prop:=r = .nilf∨∃ f caps,r = .fn (.func f) [] caps
def FV (u:TM) (H:AHeap) (r:AVal) (R:Res):Prop:=∃ f caps,r = .fn (.func f) [] caps∧∀ H2,Gro H H2→∀ cid,H2.get cid=some (.cells 42 (opC u))→DCallX Tryz.prog f (.ptr cid 0::caps) H2 (TR H2 R)
def Two (sg:ByteArray) (H:AHeap) (r:AVal):Prop:=isFn r∧∀ u a b:TM,u.ok→u.l[0]? = some a→u.l[1]? = some b→right a→right b→(r = .nilf∧opv2 sg a b=(none,5))∨FV u H r (opv2 sg a b)
theorem Two.cmp {sg:ByteArray} {H:AHeap} {id:Nat} {g:FuncId} {p:Int→Bool} (hg:∀ n H,DCall Tryz.prog g [.int .i64 n] H fun r H'=>r = .bool (p n)∧H'=H) (hi:H.get id=some (.cells 58 [fnv g])) (he:∀ a b,opv2 sg a b=(some (tf (p (ord a b))),0)):Two sg H (.fn (.func 31) [] [.ptr id 0]):=
 ⟨.inr ⟨_,_,rfl⟩,fun u a b ok hx hy ra rb=>.inr ⟨_,_,rfl,fun H2 g2 cid hc=>by rw [he]; exact g31u ok hx hy ra rb hg hc (g2.get hi)⟩⟩
theorem Two.same {sg:ByteArray} {H:AHeap} {id:Nat} {w:Bool} (hi:H.get id=some (.cells 4 [.bool w])) (he:∀ a b,opv2 sg a b=(some (tf (samev a b==w)),0)):Two sg H (.fn (.func 35) [] [.ptr id 0]):=
 ⟨.inr ⟨_,_,rfl⟩,fun u a b ok hx hy ra rb=>.inr ⟨_,_,rfl,fun H2 g2 cid hc=>by rw [he]; exact g35u ok hx hy ra rb hc (g2.get hi)⟩⟩
theorem p14 {sg:ByteArray} (H:AHeap):DCall Tryz.prog 14 [.str sg] H fun r H'=>Gro H H'∧Two sg H' r:=by
 obtain ⟨H1,hH1,g1,n1,f1⟩:=psh H (.cells 9 [.str sg])
 have hcell:(AVal.str sg).cells=[.str sg]:=rfl
 have l1:=load_cell g1 (o:=0) (v:=.str sg) rfl
 have b1:Gro H H1:=⟨by omega,f1⟩
 refine DCall.of_body (fn:=Tryz.f14) (by kernel_rfl) c14 (by kernel_rfl) (by simp [f14]) ?_
 unfold f14
 simp only []
 refine Dg rfl ?_
 simp -dsimp only [SE,astep,seval,hcell,← hH1]
 refine Dg rfl ?_
 simp -dsimp only [SE,astep,seval]
 refine Dg rfl ?_
 simp -dsimp only [SE,astep,seval]
 refine Dg rfl ?_
 simp -dsimp only [SE,astep,seval,l1]
 by_cases har:isAr sg
 ·have fin:DR Tryz.prog (kof k14) 48 [.code (.cond (.t 6) (.seq (.region false r14_10 [2]) .ret) (.seq (.region false r14_11 [3,4,5,14]) (.cond (.t 14) (.seq (.region false r14_12 [2]) .ret) (.seq (.region false r14_13 [3,4,5,18]) (.cond (.t 18) (.seq (.region false r14_14 [2]) .ret) (.seq (.region false r14_15 [3,4,5,22]) (.cond (.t 22) (.seq (.region false r14_16 [2]) .ret) (.seq (.region false r14_17 [3,4,5,26]) (.cond (.t 26) (.seq (.region false r14_18 [2]) .ret) (.seq (.region false r14_19 [3,4,5,30]) (.cond (.t 30) (.seq (.region false r14_20 [2]) .ret) (.seq (.region false r14_21 [3,4,5,34]) (.cond (.t 34) (.seq (.region false r14_22 [2]) .ret) (.seq (.region false r14_23 [4,5,38]) (.cond (.t 38) (.seq (.region false r14_24 [2]) .ret) (.seq (.region false r14_25 [4,5,42]) (.cond (.t 42) (.seq (.region false r14_26 [2]) .ret) (.seq (.region false r14_27 [46]) (.cond (.t 46) (.seq (.region false r14_28 [2]) .ret) .skip))))))))))))))))))),.inBlock 0,.code (.seq (.region false r14_29 [2]) .ret)] [(1,.ptr H.next 0),(3,.fn (.func 30) [] []),(4,.fn (.func 34) [] []),(5,.str sg),(6,.bool true)] H1 fun T' H'=>∃ r,aresult H' T' [.tmp 2]=some r∧Gro H H'∧Two sg H' r:=by
   refine Dy rfl rfl ?_
   refine Dg rfl ?_
   simp -dsimp only [SE,astep,seval]
   refine Dm rfl ?_
   exact DR.ret ⟨_,by simp [aresult,ares,Env.get] <;> rfl,b1,.inr ⟨37,[.ptr H.next 0],rfl⟩,fun u a b ok hx hy ra rb=>.inr ⟨37,[.ptr H.next 0],rfl,fun H2 g2 cid hc=>by rw [show opv2 sg a b=opR sg a b from if_pos har]; exact g37c har ok hx hy ra rb hc (g2.get g1)⟩⟩
  rcases har with rfl | rfl | rfl | rfl | rfl | rfl
  ·have c0:abin .eql (.str o_add) (.str o_add)=some (.bool true):=sgT rfl
   refine Dg rfl ?_
   simp -dsimp only [SE,astep,seval,c0]
   refine Dy rfl rfl ?_
   refine Dm rfl ?_
   exact DR.only [1,3,4,5,6] fin
  ·have c0:abin .eql (.str o_sub) (.str o_add)=some (.bool false):=sgF (by decide)
   have c1:abin .eql (.str o_sub) (.str o_sub)=some (.bool true):=sgT rfl
   refine Dg rfl ?_
   simp -dsimp only [SE,astep,seval,c0]
   refine Dn rfl rfl ?_
   refine Dg rfl ?_
   simp -dsimp only [SE,astep,seval,c1]
   refine Dy rfl rfl ?_
   refine Dm rfl ?_
   exact DR.only [1,3,4,5,6] fin
  ·have c0:abin .eql (.str o_mul) (.str o_add)=some (.bool false):=sgF (by decide)
   have c1:abin .eql (.str o_mul) (.str o_sub)=some (.bool false):=sgF (by decide)
   have c2:abin .eql (.str o_mul) (.str o_mul)=some (.bool true):=sgT rfl
   refine Dg rfl ?_
   simp -dsimp only [SE,astep,seval,c0]
   refine Dn rfl rfl ?_
   refine Dg rfl ?_
   simp -dsimp only [SE,astep,seval,c1]
   refine Dn rfl rfl ?_
   refine Dg rfl ?_
   simp -dsimp only [SE,astep,seval,c2]
   refine Dy rfl rfl ?_
   refine Dm rfl ?_
   exact DR.only [1,3,4,5,6] fin
  ·have c0:abin .eql (.str o_quo) (.str o_add)=some (.bool false):=sgF (by decide)
   have c1:abin .eql (.str o_quo) (.str o_sub)=some (.bool false):=sgF (by decide)
   have c2:abin .eql (.str o_quo) (.str o_mul)=some (.bool false):=sgF (by decide)
   have c3:abin .eql (.str o_quo) (.str o_quo)=some (.bool true):=sgT rfl
   refine Dg rfl ?_
   simp -dsimp only [SE,astep,seval,c0]
   refine Dn rfl rfl ?_
   refine Dg rfl ?_
   simp -dsimp only [SE,astep,seval,c1]
   refine Dn rfl rfl ?_
   refine Dg rfl ?_
   simp -dsimp only [SE,astep,seval,c2]
   refine Dn rfl rfl ?_
   refine Dg rfl ?_
   simp -dsimp only [SE,astep,seval,c3]
   refine Dy rfl rfl ?_
   refine Dm rfl ?_
   exact DR.only [1,3,4,5,6] fin
  ·have c0:abin .eql (.str o_div) (.str o_add)=some (.bool false):=sgF (by decide)
   have c1:abin .eql (.str o_div) (.str o_sub)=some (.bool false):=sgF (by decide)
   have c2:abin .eql (.str o_div) (.str o_mul)=some (.bool false):=sgF (by decide)
   have c3:abin .eql (.str o_div) (.str o_quo)=some (.bool false):=sgF (by decide)
   have c4:abin .eql (.str o_div) (.str o_div)=some (.bool true):=sgT rfl
   refine Dg rfl ?_
   simp -dsimp only [SE,astep,seval,c0]
   refine Dn rfl rfl ?_
   refine Dg rfl ?_
   simp -dsimp only [SE,astep,seval,c1]
   refine Dn rfl rfl ?_
   refine Dg rfl ?_
   simp -dsimp only [SE,astep,seval,c2]
   refine Dn rfl rfl ?_
   refine Dg rfl ?_
   simp -dsimp only [SE,astep,seval,c3]
   refine Dn rfl rfl ?_
   refine Dg rfl ?_
   simp -dsimp only [SE,astep,seval,c4]
   refine Dy rfl rfl ?_
   refine Dm rfl ?_
   exact DR.only [1,3,4,5,6] fin
  ·have c0:abin .eql (.str o_rem) (.str o_add)=some (.bool false):=sgF (by decide)
   have c1:abin .eql (.str o_rem) (.str o_sub)=some (.bool false):=sgF (by decide)
   have c2:abin .eql (.str o_rem) (.str o_mul)=some (.bool false):=sgF (by decide)
   have c3:abin .eql (.str o_rem) (.str o_quo)=some (.bool false):=sgF (by decide)
   have c4:abin .eql (.str o_rem) (.str o_div)=some (.bool false):=sgF (by decide)
   have c5:abin .eql (.str o_rem) (.str o_rem)=some (.bool true):=sgT rfl
   refine Dg rfl ?_
   simp -dsimp only [SE,astep,seval,c0]
   refine Dn rfl rfl ?_
   refine Dg rfl ?_
   simp -dsimp only [SE,astep,seval,c1]
   refine Dn rfl rfl ?_
   refine Dg rfl ?_
   simp -dsimp only [SE,astep,seval,c2]
   refine Dn rfl rfl ?_
   refine Dg rfl ?_
   simp -dsimp only [SE,astep,seval,c3]
   refine Dn rfl rfl ?_
   refine Dg rfl ?_
   simp -dsimp only [SE,astep,seval,c4]
   refine Dn rfl rfl ?_
   refine Dg rfl ?_
   simp -dsimp only [SE,astep,seval,c5]
   refine Dm rfl ?_
   exact fin
 have n0:∀ a b,opv2 sg a b=_:=fun a b=>if_neg har
 have q0:abin .eql (.str sg) (.str o_add)=some (.bool false):=sgF fun h=>har (.inl h)
 have q1:abin .eql (.str sg) (.str o_sub)=some (.bool false):=sgF fun h=>har (.inr (.inl h))
 have q2:abin .eql (.str sg) (.str o_mul)=some (.bool false):=sgF fun h=>har (.inr (.inr (.inl h)))
 have q3:abin .eql (.str sg) (.str o_quo)=some (.bool false):=sgF fun h=>har (.inr (.inr (.inr (.inl h))))
 have q4:abin .eql (.str sg) (.str o_div)=some (.bool false):=sgF fun h=>har (.inr (.inr (.inr (.inr (.inl h)))))
 have q5:abin .eql (.str sg) (.str o_rem)=some (.bool false):=sgF fun h=>har (.inr (.inr (.inr (.inr (.inr (h))))))
 refine Dg rfl ?_
 simp -dsimp only [SE,astep,seval,q0]
 refine Dn rfl rfl ?_
 refine Dg rfl ?_
 simp -dsimp only [SE,astep,seval,q1]
 refine Dn rfl rfl ?_
 refine Dg rfl ?_
 simp -dsimp only [SE,astep,seval,q2]
 refine Dn rfl rfl ?_
 refine Dg rfl ?_
 simp -dsimp only [SE,astep,seval,q3]
 refine Dn rfl rfl ?_
 refine Dg rfl ?_
 simp -dsimp only [SE,astep,seval,q4]
 refine Dn rfl rfl ?_
 refine Dg rfl ?_
 simp -dsimp only [SE,astep,seval,q5]
 refine Dn rfl rfl ?_
 by_cases h0:sg=s_eq
 ·have c:=sgT h0
  refine Dg rfl ?_
  simp -dsimp only [SE,astep,seval,c]
  refine Dy rfl rfl ?_
  refine Dg rfl ?_
  simp -dsimp only [SE,astep,seval,List.append_nil,List.nil_append]
  refine (g37 H1).mono ?_
  rintro r H2 ⟨b2,id,rfl,hid⟩
  simp -dsimp only [SE,astep,seval]
  refine Dm rfl ?_
  exact DR.ret ⟨_,by simp [aresult,ares,Env.get] <;> rfl,b1.trans b2,Two.cmp (p:=fun n=>decide (n=0)) g46_ hid fun a b=>by rw [n0,if_pos h0]⟩
 have c0:=sgF h0
 refine Dg rfl ?_
 simp -dsimp only [SE,astep,seval,c0]
 refine Dn rfl rfl ?_
 by_cases h1:sg=s_ne
 ·have c:=sgT h1
  refine Dg rfl ?_
  simp -dsimp only [SE,astep,seval,c]
  refine Dy rfl rfl ?_
  refine Dg rfl ?_
  simp -dsimp only [SE,astep,seval,List.append_nil,List.nil_append]
  refine (g37 H1).mono ?_
  rintro r H2 ⟨b2,id,rfl,hid⟩
  simp -dsimp only [SE,astep,seval]
  refine Dm rfl ?_
  exact DR.ret ⟨_,by simp [aresult,ares,Env.get] <;> rfl,b1.trans b2,Two.cmp (p:=fun n=>decide (n≠0)) g47_ hid fun a b=>by rw [n0,if_neg h0,if_pos h1]⟩
 have c1:=sgF h1
 refine Dg rfl ?_
 simp -dsimp only [SE,astep,seval,c1]
 refine Dn rfl rfl ?_
 by_cases h2:sg=s_le
 ·have c:=sgT h2
  refine Dg rfl ?_
  simp -dsimp only [SE,astep,seval,c]
  refine Dy rfl rfl ?_
  refine Dg rfl ?_
  simp -dsimp only [SE,astep,seval,List.append_nil,List.nil_append]
  refine (g37 H1).mono ?_
  rintro r H2 ⟨b2,id,rfl,hid⟩
  simp -dsimp only [SE,astep,seval]
  refine Dm rfl ?_
  exact DR.ret ⟨_,by simp [aresult,ares,Env.get] <;> rfl,b1.trans b2,Two.cmp (p:=fun n=>decide (n≤0)) g48_ hid fun a b=>by rw [n0,if_neg h0,if_neg h1,if_pos h2]⟩
 have c2:=sgF h2
 refine Dg rfl ?_
 simp -dsimp only [SE,astep,seval,c2]
 refine Dn rfl rfl ?_
 by_cases h3:sg=s_lt
 ·have c:=sgT h3
  refine Dg rfl ?_
  simp -dsimp only [SE,astep,seval,c]
  refine Dy rfl rfl ?_
  refine Dg rfl ?_
  simp -dsimp only [SE,astep,seval,List.append_nil,List.nil_append]
  refine (g37 H1).mono ?_
  rintro r H2 ⟨b2,id,rfl,hid⟩
  simp -dsimp only [SE,astep,seval]
  refine Dm rfl ?_
  exact DR.ret ⟨_,by simp [aresult,ares,Env.get] <;> rfl,b1.trans b2,Two.cmp (p:=fun n=>decide (n < 0)) g49_ hid fun a b=>by rw [n0,if_neg h0,if_neg h1,if_neg h2,if_pos h3]⟩
 have c3:=sgF h3
 refine Dg rfl ?_
 simp -dsimp only [SE,astep,seval,c3]
 refine Dn rfl rfl ?_
 by_cases h4:sg=s_ge
 ·have c:=sgT h4
  refine Dg rfl ?_
  simp -dsimp only [SE,astep,seval,c]
  refine Dy rfl rfl ?_
  refine Dg rfl ?_
  simp -dsimp only [SE,astep,seval,List.append_nil,List.nil_append]
  refine (g37 H1).mono ?_
  rintro r H2 ⟨b2,id,rfl,hid⟩
  simp -dsimp only [SE,astep,seval]
  refine Dm rfl ?_
  exact DR.ret ⟨_,by simp [aresult,ares,Env.get] <;> rfl,b1.trans b2,Two.cmp (p:=fun n=>decide (0≤n)) g50_ hid fun a b=>by rw [n0,if_neg h0,if_neg h1,if_neg h2,if_neg h3,if_pos h4]⟩
 have c4:=sgF h4
 refine Dg rfl ?_
 simp -dsimp only [SE,astep,seval,c4]
 refine Dn rfl rfl ?_
 by_cases h5:sg=s_gt
 ·have c:=sgT h5
  refine Dg rfl ?_
  simp -dsimp only [SE,astep,seval,c]
  refine Dy rfl rfl ?_
  refine Dg rfl ?_
  simp -dsimp only [SE,astep,seval,List.append_nil,List.nil_append]
  refine (g37 H1).mono ?_
  rintro r H2 ⟨b2,id,rfl,hid⟩
  simp -dsimp only [SE,astep,seval]
  refine Dm rfl ?_
  exact DR.ret ⟨_,by simp [aresult,ares,Env.get] <;> rfl,b1.trans b2,Two.cmp (p:=fun n=>decide (0 < n)) g51_ hid fun a b=>by rw [n0,if_neg h0,if_neg h1,if_neg h2,if_neg h3,if_neg h4,if_pos h5]⟩
 have c5:=sgF h5
 refine Dg rfl ?_
 simp -dsimp only [SE,astep,seval,c5]
 refine Dn rfl rfl ?_
 by_cases h6:sg=s_same
 ·have c:=sgT h6
  refine Dg rfl ?_
  simp -dsimp only [SE,astep,seval,c]
  refine Dy rfl rfl ?_
  refine Dg rfl ?_
  simp -dsimp only [SE,astep,seval,List.append_nil,List.nil_append]
  refine (g40 (w:=true) H1).mono ?_
  rintro r H2 ⟨b2,id,rfl,hid⟩
  simp -dsimp only [SE,astep,seval]
  refine Dm rfl ?_
  exact DR.ret ⟨_,by simp [aresult,ares,Env.get] <;> rfl,b1.trans b2,Two.same (w:=true) hid fun a b=>by rw [n0,if_neg h0,if_neg h1,if_neg h2,if_neg h3,if_neg h4,if_neg h5,if_pos h6]; cases samev a b <;> rfl⟩
 have c6:=sgF h6
 refine Dg rfl ?_
 simp -dsimp only [SE,astep,seval,c6]
 refine Dn rfl rfl ?_
 by_cases h7:sg=s_diff
 ·have c:=sgT h7
  refine Dg rfl ?_
  simp -dsimp only [SE,astep,seval,c]
  refine Dy rfl rfl ?_
  refine Dg rfl ?_
  simp -dsimp only [SE,astep,seval,List.append_nil,List.nil_append]
  refine (g40 (w:=false) H1).mono ?_
  rintro r H2 ⟨b2,id,rfl,hid⟩
  simp -dsimp only [SE,astep,seval]
  refine Dm rfl ?_
  exact DR.ret ⟨_,by simp [aresult,ares,Env.get] <;> rfl,b1.trans b2,Two.same (w:=false) hid fun a b=>by rw [n0,if_neg h0,if_neg h1,if_neg h2,if_neg h3,if_neg h4,if_neg h5,if_neg h6,if_pos h7]; cases samev a b <;> rfl⟩
 have c7:=sgF h7
 refine Dg rfl ?_
 simp -dsimp only [SE,astep,seval,c7]
 refine Dn rfl rfl ?_
 by_cases h8:sg=s_cat
 ·have c:=sgT h8
  refine Dg rfl ?_
  simp -dsimp only [SE,astep,seval,c]
  refine Dy rfl rfl ?_
  refine Dg rfl ?_
  simp -dsimp only [SE,astep,seval]
  refine Dm rfl ?_
  exact DR.ret ⟨_,by simp [aresult,ares,Env.get] <;> rfl,b1,.inr ⟨46,[],rfl⟩,fun u a b ok hx hy ra rb=>.inr ⟨46,[],rfl,fun H2 g2 cid hc=>by rw [n0,if_neg h0,if_neg h1,if_neg h2,if_neg h3,if_neg h4,if_neg h5,if_neg h6,if_neg h7,if_pos h8]; exact g46c ok hx hy ra rb hc⟩⟩
 have c8:=sgF h8
 refine Dg rfl ?_
 simp -dsimp only [SE,astep,seval,c8]
 refine Dn rfl rfl ?_
 refine Dg rfl ?_
 simp -dsimp only [SE,astep,seval]
 refine Dm rfl ?_
 exact DR.ret ⟨_,by simp [aresult,ares,Env.get] <;> rfl,b1,.inl rfl,fun u a b ok hx hy ra rb=>.inl ⟨rfl,by rw [n0,if_neg h0,if_neg h1,if_neg h2,if_neg h3,if_neg h4,if_neg h5,if_neg h6,if_neg h7,if_neg h8]⟩⟩
def One (sg:ByteArray) (r:AVal):Prop:=isFn r∧∀ (H:AHeap) (u a:TM),u.ok→u.l[0]? = some a→right a→(r = .nilf∧opv1 sg a=(none,5))∨FV u H r (opv1 sg a)
theorem p15 {sg:ByteArray} (H:AHeap):DCall Tryz.prog 15 [.str sg] H fun r H'=>H'=H∧One sg r:=by
 refine DCall.of_body (fn:=Tryz.f15) (by kernel_rfl) c15 (by kernel_rfl) (by simp [f15]) ?_
 unfold f15
 simp only []
 refine Dg rfl ?_
 simp -dsimp only [SE,astep,seval]
 refine Dg rfl ?_
 simp -dsimp only [SE,astep,seval]
 by_cases h1:sg=o_sub
 ·have c1:=sgT h1
  refine Dg rfl ?_
  simp -dsimp only [SE,astep,seval,c1]
  refine Dy rfl rfl ?_
  refine Dg rfl ?_
  simp -dsimp only [SE,astep,seval]
  refine Dm rfl ?_
  exact DR.ret ⟨_,by simp [aresult,ares,Env.get] <;> rfl,rfl,.inr ⟨47,[],rfl⟩,fun H u a ok hx ra=>.inr ⟨47,[],rfl,fun H2 g2 cid hc=>by rw [show opv1 sg a=negR a from if_pos h1]; exact g47c ok hx ra hc⟩⟩
 have c1:=sgF h1
 refine Dg rfl ?_
 simp -dsimp only [SE,astep,seval,c1]
 refine Dn rfl rfl ?_
 by_cases h2:sg=s_not
 ·have c2:=sgT h2
  refine Dg rfl ?_
  simp -dsimp only [SE,astep,seval,c2]
  refine Dy rfl rfl ?_
  refine Dg rfl ?_
  simp -dsimp only [SE,astep,seval]
  refine Dm rfl ?_
  exact DR.ret ⟨_,by simp [aresult,ares,Env.get] <;> rfl,rfl,.inr ⟨49,[],rfl⟩,fun H u a ok hx ra=>.inr ⟨49,[],rfl,fun H2 g2 cid hc=>by rw [h2]; exact g49c ok hx hc⟩⟩
 have c2:=sgF h2
 refine Dg rfl ?_
 simp -dsimp only [SE,astep,seval,c2]
 refine Dn rfl rfl ?_
 refine Dg rfl ?_
 simp -dsimp only [SE,astep,seval]
 refine Dm rfl ?_
 exact DR.ret ⟨_,by simp [aresult,ares,Env.get] <;> rfl,rfl,.inl rfl,fun H u a ok hx ra=>.inl ⟨rfl,by unfold opv1; rw [if_neg h1,if_neg h2]⟩⟩
theorem p17 {u:TM} {R:Res} {r:AVal} {H:AHeap} {b7 b6 cid:Nat} (h7:H.get b7=some (.cells 43 [r])) (h6:H.get b6=some (.cells 40 [.ptr cid 0])) (hc:H.get cid=some (.cells 42 (opC u))) (hf:FV u H r R):DCallX Tryz.prog 17 [.ptr b7 0,.ptr b6 0] H (TR H R):=by
 obtain ⟨f,caps,rfl,hf⟩:=hf
 obtain ⟨H1,hH1,g1,n1,f1⟩:=psh H (.cells 27 z25)
 have hz:z25=[.int .i64 0,.int .i64 0,.flt .f64 0,.str ⟨#[]⟩,.nils]:=rfl
 have b1:Gro H H1:=⟨by omega,f1⟩
 have l7:=load_cell (b1.get h7) (o:=0) (v:=.fn (.func f) [] caps) rfl
 have l6:=load_cell (b1.get h6) (o:=0) (v:=.ptr cid 0) rfl
 refine DCallX.of_body (fn:=Tryz.f17) (by kernel_rfl) c17 (by kernel_rfl) (by simp [f17]) ?_
 unfold f17
 simp only []
 refine DRX.go rfl ?_
 simp -dsimp only [XZ,SE,astep,seval,← hz,← hH1]
 refine DRX.go rfl ?_
 simp -dsimp only [XZ,SE,astep,seval,l7,l6,List.append_nil,List.nil_append,List.cons_append]
 refine (hf H1 b1 cid (b1.get hc)).mono ?_
 rintro o H3 ⟨b3,⟨y,oy,hy,rfl⟩ | ⟨e,he,rfl⟩⟩
 ·have t3:=b3.get g1
  have s1:=store_all (n:=5) t3 (new:=TM.c5 y) rfl (TM.ones5 _) rfl
  obtain ⟨H4,hH4,g4,n4,f4⟩:=upd t3 (.cells 27 (TM.c5 y))
  have l6:=load_all (n:=5) g4 rfl
  simp -dsimp only [XZ,SE,astep,seval,s1,← hH4]
  refine DRX.nm rfl ?_
  exact DRX.ret ⟨y.agg,by simp [aresult,ares,Env.get,l6],⟨by have:=b1.1; have:=b3.1; omega,fun i hi=>by rw [f4 i (by omega),(b1.trans b3).2 i hi]⟩,.inl ⟨y,oy,hy,rfl⟩⟩
 ·exact ⟨b1.trans b3,.inr ⟨e,he,rfl⟩⟩
end Go.Am.Rl
namespace Go.Am.Rl
open Go.Proofs
theorem FV.gro {u:TM} {H H':AHeap} {r:AVal} {R:Res} (h:FV u H r R) (g:Gro H H'):FV u H' r R:=by
 obtain ⟨f,caps,e,h⟩:=h
 exact ⟨f,caps,e,fun H2 g2=>h H2 (g.trans g2)⟩
theorem isFn.one {r:AVal} (h:isFn r):r.one=true:=by rcases h with rfl | ⟨f,caps,rfl⟩ <;> rfl
theorem FV.fn {u:TM} {H:AHeap} {r:AVal} {R:Res} (h:FV u H r R):∃ f caps,r = .fn (.func f) [] caps:=by
 obtain ⟨f,caps,e,_⟩:=h
 exact ⟨f,caps,e⟩
def Way (u:TM) (H:AHeap) (r:AVal) (R:Res):Prop:=(R=(none,5)∧(r = .nilf∨((∃ f caps,r = .fn (.func f) [] caps)∧(u.l.length=0∨2 < u.l.length))))∨((u.l.length=1∨u.l.length=2)∧FV u H r R)
theorem p6 {u:TM} {sg:ByteArray} (ok:u.ok) (hr:∀ x ∈ u.l,right x) (H:AHeap):DCallX Tryz.prog 6 [.str sg,u.row] H fun o H'=>∃ v,o = .ret v∧Oped (fun y=>(some (norm y),0)=opv sg u.l) (fun e=>(none,e)=opv sg u.l) v:=by
 obtain ⟨H1,hH1,g1,n1,f1⟩:=psh H (.cells 27 z25)
 have hz:z25=[.int .i64 0,.int .i64 0,.flt .f64 0,.str ⟨#[]⟩,.nils]:=rfl
 obtain ⟨H2,hH2,g2,n2,f2⟩:=psh H1 (.cells 42 (opC u))
 obtain ⟨H3,hH3,g3,n3,f3⟩:=psh H2 (.cells 40 [.nilp])
 have s3:astore H3 1 (.ptr H2.next 0) (.ptr H1.next 0)=some (H3.set H2.next (.cells 40 [.ptr H1.next 0])):=astore_one g3 (o:=0) (by simp) rfl
 obtain ⟨H4,hH4,g4,n4,f4⟩:=upd g3 (.cells 40 [.ptr H1.next 0])
 have k2:H4.get H1.next=some (.cells 42 (opC u)):=by rw [f4 _ (by omega),f3 _ (by omega)]; exact g2
 have k1:H4.get H.next=some (.cells 27 z25):=by rw [f4 _ (by omega),f3 _ (by omega),f2 _ (by omega)]; exact g1
 have hcell:∀ c:List AVal,(AVal.agg c).cells=c:=fun _=>rfl
 refine DCallX.of_body (fn:=Tryz.f6) (by kernel_rfl) c6 (by kernel_rfl) (by simp [f6]) ?_
 unfold f6
 simp only []
 refine DRX.go rfl ?_
 simp -dsimp only [XZ,SE,astep,seval,← hz,← hH1]
 refine DRX.go rfl ?_
 simp -dsimp only [XZ,SE,astep,seval,Env.parts,opFill,hcell,← hH2,← hH3,s3,← hH4]
 refine DRX.go rfl ?_
 simp -dsimp only [XZ,SE,astep,seval]
 refine DCall.monoX (p14 H4) ?_
 rintro r H5 ⟨b5,hfn,hway⟩
 obtain ⟨H6,hH6,g6,n6,f6⟩:=psh H5 (.cells 43 [.nilf])
 have s6:astore H6 1 (.ptr H5.next 0) r=some (H6.set H5.next (.cells 43 [r])):=astore_one g6 (o:=0) (by simp) hfn.one
 obtain ⟨H7,hH7,g7,n7,f7⟩:=upd g6 (.cells 43 [r])
 have b7:Gro H5 H7:=⟨by omega,fun j hj=>by rw [f7 j (by omega),f6 j hj]⟩
 have hl:=TM.lenT ok H7
 simp -dsimp only [XZ,SE,astep,seval,← hH6,s6,← hH7]
 obtain ⟨R,hR⟩:∃ R,R=opv sg u.l:=⟨_,rfl⟩
 by_cases h1:u.l.length=1
 ·have c1:abin .eql (.int .i64 (u.l.length:Nat)) (.int .i64 1)=some (.bool true):=eqlT (by omega)
  obtain ⟨a,ha⟩:∃ a,u.l=[a]:=by
   match hu:u.l,h1 with
   | [a],_=>exact ⟨a,rfl⟩
  have hx:u.l[0]? = some a:=by rw [ha]; rfl
  have e:opv sg u.l=opv1 sg a:=by rw [ha]; rfl
  refine DRX.go rfl ?_
  simp -dsimp only [XZ,SE,astep,seval,hl,c1]
  refine DRX.ye rfl rfl ?_
  refine DRX.go rfl ?_
  simp -dsimp only [XZ,SE,astep,seval]
  refine DCall.monoX (p15 (sg:=sg) H7) ?_
  rintro r1 H' ⟨he,hfn1,hway1⟩
  obtain rfl:=he.symm
  have s8:astore H7 1 (.ptr H5.next 0) r1=some (H7.set H5.next (.cells 43 [r1])):=astore_one g7 (o:=0) (by simp) hfn1.one
  obtain ⟨H8,hH8,g8,n8,f8⟩:=upd g7 (.cells 43 [r1])
  have q1:H8.get H.next=some (.cells 27 z25):=by
   have:=AHeap.get_lt (b5.get k1)
   rw [f8 _ (by omega)]; exact b7.get (b5.get k1)
  have q2:H8.get H1.next=some (.cells 42 (opC u)):=by
   have:=AHeap.get_lt (b5.get k2)
   rw [f8 _ (by omega)]; exact b7.get (b5.get k2)
  have q3:H8.get H2.next=some (.cells 40 [.ptr H1.next 0]):=by
   have:=AHeap.get_lt (b5.get g4)
   rw [f8 _ (by omega)]; exact b7.get (b5.get g4)
  have way:Way u H8 r1 R:=by
   rcases hway1 H8 u a ok hx (hr a (by rw [ha]; simp)) with ⟨hn,h5⟩ | hf
   ·exact .inl ⟨by rw [hR,e,h5],.inl hn⟩
   ·exact .inr ⟨.inl h1,by rw [hR,e]; exact hf⟩
  rw [← hR]
  have hl8:=TM.lenT ok H8
  simp -dsimp only [XZ,SE,astep,seval,s8,← hH8]
  have l7:=load_cell g8 (o:=0) (v:=r1) rfl
  rcases way with ⟨h5,hcase⟩ | ⟨hlen,hfv⟩
  ·have s9:=store_all (n:=5) q1 (new:=z25) rfl rfl rfl
   obtain ⟨HA,hHA,gA,nA,fA⟩:=upd q1 (.cells 27 z25)
   have lA:=load_all (n:=5) gA rfl
   rcases hcase with rfl | ⟨⟨f,caps,rfl⟩,hl3⟩
   ·refine DRX.go rfl ?_
    simp -dsimp only [XZ,SE,astep,seval,l7,anil]
    refine DRX.ye rfl rfl ?_
    refine DRX.go rfl ?_
    simp -dsimp only [XZ,SE,astep,seval,Env.parts,afill,← hz,s9,← hHA]
    refine DRX.nm rfl ?_
    exact DRX.ret ⟨.tup [.agg z25,.int .i64 5],by simp [aresult,ares,Env.get,lA],_,rfl,.inr ⟨5,h5.symm,rfl⟩⟩
   ·rcases hl3 with hl0 | hl3
    ·have d1:abin .lss (.int .i64 (u.l.length:Nat)) (.int .i64 1)=some (.bool true):=lssT (by omega)
     refine DRX.go rfl ?_
     simp -dsimp only [XZ,SE,astep,seval,l7,anil,hl8,d1]
     refine DRX.ye rfl rfl ?_
     refine DRX.go rfl ?_
     simp -dsimp only [XZ,SE,astep,seval,Env.parts,afill,← hz,s9,← hHA]
     refine DRX.nm rfl ?_
     exact DRX.ret ⟨.tup [.agg z25,.int .i64 5],by simp [aresult,ares,Env.get,lA],_,rfl,.inr ⟨5,h5.symm,rfl⟩⟩
    ·have d1:abin .lss (.int .i64 (u.l.length:Nat)) (.int .i64 1)=some (.bool false):=lssF (by omega)
     have d2:abin .gtr (.int .i64 (u.l.length:Nat)) (.int .i64 2)=some (.bool true):=gtrT (by omega)
     refine DRX.go rfl ?_
     simp -dsimp only [XZ,SE,astep,seval,l7,anil,hl8,d1,d2]
     refine DRX.ye rfl rfl ?_
     refine DRX.go rfl ?_
     simp -dsimp only [XZ,SE,astep,seval,Env.parts,afill,← hz,s9,← hHA]
     refine DRX.nm rfl ?_
     exact DRX.ret ⟨.tup [.agg z25,.int .i64 5],by simp [aresult,ares,Env.get,lA],_,rfl,.inr ⟨5,h5.symm,rfl⟩⟩
  ·have d1:abin .lss (.int .i64 (u.l.length:Nat)) (.int .i64 1)=some (.bool false):=lssF (by omega)
   have d2:abin .gtr (.int .i64 (u.l.length:Nat)) (.int .i64 2)=some (.bool false):=gtrF (by omega)
   have hfv2:=hfv
   obtain ⟨f,caps,rfl⟩:=hfv.fn
   refine DRX.go rfl ?_
   simp -dsimp only [XZ,SE,astep,seval,l7,anil,hl8,d1,d2]
   refine DRX.ne rfl rfl ?_
   refine DRX.go rfl ?_
   simp -dsimp only [XZ,SE,astep,seval]
   refine (g22 (fun HB bB=>p17 (bB.get g8) (bB.get q3) (bB.get q2) (hfv2.gro bB))).mono ?_
   rintro o H9 ⟨b9,⟨y,oy,hy,rfl⟩ | ⟨e,he,rfl⟩⟩
   ·have s9:=store_all (n:=5) (b9.get q1) (new:=TM.c5 (norm y)) rfl (TM.ones5 _) rfl
    obtain ⟨HA,hHA,gA,nA,fA⟩:=upd (b9.get q1) (.cells 27 (TM.c5 (norm y)))
    have lA:=load_all (n:=5) gA rfl
    have iy0:([(norm y).agg,.int .i64 0]:List AVal)[0]? = some (norm y).agg:=rfl
    have iy1:([(norm y).agg,.int .i64 0]:List AVal)[1]? = some (.int .i64 0):=rfl
    simp -dsimp only [XZ,SE,astep,seval,iy0,iy1,s9,← hHA]
    refine DRX.nm rfl ?_
    exact DRX.ret ⟨.tup [(norm y).agg,.int .i64 0],by simp [aresult,ares,Env.get,lA],_,rfl,.inl ⟨y,oy,hy,rfl⟩⟩
   ·have s9:=store_all (n:=5) (b9.get q1) (new:=z25) rfl rfl rfl
    obtain ⟨HA,hHA,gA,nA,fA⟩:=upd (b9.get q1) (.cells 27 z25)
    have lA:=load_all (n:=5) gA rfl
    have iy0:([.agg z25,.int .i64 e]:List AVal)[0]? = some (.agg z25):=rfl
    have iy1:([.agg z25,.int .i64 e]:List AVal)[1]? = some (.int .i64 e):=rfl
    simp -dsimp only [XZ,SE,astep,seval,iy0,iy1,s9,← hHA]
    refine DRX.nm rfl ?_
    exact DRX.ret ⟨.tup [.agg z25,.int .i64 e],by simp [aresult,ares,Env.get,lA],_,rfl,.inr ⟨e,he,rfl⟩⟩
 ·have c1:abin .eql (.int .i64 (u.l.length:Nat)) (.int .i64 1)=some (.bool false):=eqlF (by omega)
  have q1:H7.get H.next=some (.cells 27 z25):=b7.get (b5.get k1)
  have q2:H7.get H1.next=some (.cells 42 (opC u)):=b7.get (b5.get k2)
  have q3:H7.get H2.next=some (.cells 40 [.ptr H1.next 0]):=b7.get (b5.get g4)
  have way:Way u H7 r R:=by
   by_cases h2:u.l.length=2
   ·obtain ⟨a,b,ha⟩:∃ a b,u.l=[a,b]:=by
     match hu:u.l,h2 with
     | [a,b],_=>exact ⟨a,b,rfl⟩
    have hx:u.l[0]? = some a:=by rw [ha]; rfl
    have hy:u.l[1]? = some b:=by rw [ha]; rfl
    have e:opv sg u.l=opv2 sg a b:=by rw [ha]; rfl
    rcases hway u a b ok hx hy (hr a (by rw [ha]; simp)) (hr b (by rw [ha]; simp)) with ⟨hn,h5⟩ | hf
    ·exact .inl ⟨by rw [hR,e,h5],.inl hn⟩
    ·exact .inr ⟨.inr h2,by rw [hR,e]; exact hf.gro b7⟩
   ·refine .inl ⟨by rw [hR,opv_none h1 h2],?_⟩
    rcases hfn with hn | hf
    ·exact .inl hn
    ·exact .inr ⟨hf,by omega⟩
  rw [← hR]
  have hl8:=TM.lenT ok H7
  refine DRX.go rfl ?_
  simp -dsimp only [XZ,SE,astep,seval,hl,c1]
  refine DRX.ne rfl rfl ?_
  have l7:=load_cell g7 (o:=0) (v:=r) rfl
  rcases way with ⟨h5,hcase⟩ | ⟨hlen,hfv⟩
  ·have s9:=store_all (n:=5) q1 (new:=z25) rfl rfl rfl
   obtain ⟨HA,hHA,gA,nA,fA⟩:=upd q1 (.cells 27 z25)
   have lA:=load_all (n:=5) gA rfl
   rcases hcase with rfl | ⟨⟨f,caps,rfl⟩,hl3⟩
   ·refine DRX.go rfl ?_
    simp -dsimp only [XZ,SE,astep,seval,l7,anil]
    refine DRX.ye rfl rfl ?_
    refine DRX.go rfl ?_
    simp -dsimp only [XZ,SE,astep,seval,Env.parts,afill,← hz,s9,← hHA]
    refine DRX.nm rfl ?_
    exact DRX.ret ⟨.tup [.agg z25,.int .i64 5],by simp [aresult,ares,Env.get,lA],_,rfl,.inr ⟨5,h5.symm,rfl⟩⟩
   ·rcases hl3 with hl0 | hl3
    ·have d1:abin .lss (.int .i64 (u.l.length:Nat)) (.int .i64 1)=some (.bool true):=lssT (by omega)
     refine DRX.go rfl ?_
     simp -dsimp only [XZ,SE,astep,seval,l7,anil,hl8,d1]
     refine DRX.ye rfl rfl ?_
     refine DRX.go rfl ?_
     simp -dsimp only [XZ,SE,astep,seval,Env.parts,afill,← hz,s9,← hHA]
     refine DRX.nm rfl ?_
     exact DRX.ret ⟨.tup [.agg z25,.int .i64 5],by simp [aresult,ares,Env.get,lA],_,rfl,.inr ⟨5,h5.symm,rfl⟩⟩
    ·have d1:abin .lss (.int .i64 (u.l.length:Nat)) (.int .i64 1)=some (.bool false):=lssF (by omega)
     have d2:abin .gtr (.int .i64 (u.l.length:Nat)) (.int .i64 2)=some (.bool true):=gtrT (by omega)
     refine DRX.go rfl ?_
     simp -dsimp only [XZ,SE,astep,seval,l7,anil,hl8,d1,d2]
     refine DRX.ye rfl rfl ?_
     refine DRX.go rfl ?_
     simp -dsimp only [XZ,SE,astep,seval,Env.parts,afill,← hz,s9,← hHA]
     refine DRX.nm rfl ?_
     exact DRX.ret ⟨.tup [.agg z25,.int .i64 5],by simp [aresult,ares,Env.get,lA],_,rfl,.inr ⟨5,h5.symm,rfl⟩⟩
  ·have d1:abin .lss (.int .i64 (u.l.length:Nat)) (.int .i64 1)=some (.bool false):=lssF (by omega)
   have d2:abin .gtr (.int .i64 (u.l.length:Nat)) (.int .i64 2)=some (.bool false):=gtrF (by omega)
   have hfv2:=hfv
   obtain ⟨f,caps,rfl⟩:=hfv.fn
   refine DRX.go rfl ?_
   simp -dsimp only [XZ,SE,astep,seval,l7,anil,hl8,d1,d2]
   refine DRX.ne rfl rfl ?_
   refine DRX.go rfl ?_
   simp -dsimp only [XZ,SE,astep,seval]
   refine (g22 (fun HB bB=>p17 (bB.get g7) (bB.get q3) (bB.get q2) (hfv2.gro bB))).mono ?_
   rintro o H9 ⟨b9,⟨y,oy,hy,rfl⟩ | ⟨e,he,rfl⟩⟩
   ·have s9:=store_all (n:=5) (b9.get q1) (new:=TM.c5 (norm y)) rfl (TM.ones5 _) rfl
    obtain ⟨HA,hHA,gA,nA,fA⟩:=upd (b9.get q1) (.cells 27 (TM.c5 (norm y)))
    have lA:=load_all (n:=5) gA rfl
    have iy0:([(norm y).agg,.int .i64 0]:List AVal)[0]? = some (norm y).agg:=rfl
    have iy1:([(norm y).agg,.int .i64 0]:List AVal)[1]? = some (.int .i64 0):=rfl
    simp -dsimp only [XZ,SE,astep,seval,iy0,iy1,s9,← hHA]
    refine DRX.nm rfl ?_
    exact DRX.ret ⟨.tup [(norm y).agg,.int .i64 0],by simp [aresult,ares,Env.get,lA],_,rfl,.inl ⟨y,oy,hy,rfl⟩⟩
   ·have s9:=store_all (n:=5) (b9.get q1) (new:=z25) rfl rfl rfl
    obtain ⟨HA,hHA,gA,nA,fA⟩:=upd (b9.get q1) (.cells 27 z25)
    have lA:=load_all (n:=5) gA rfl
    have iy0:([.agg z25,.int .i64 e]:List AVal)[0]? = some (.agg z25):=rfl
    have iy1:([.agg z25,.int .i64 e]:List AVal)[1]? = some (.int .i64 e):=rfl
    simp -dsimp only [XZ,SE,astep,seval,iy0,iy1,s9,← hHA]
    refine DRX.nm rfl ?_
    exact DRX.ret ⟨.tup [.agg z25,.int .i64 e],by simp [aresult,ares,Env.get,lA],_,rfl,.inr ⟨e,he,rfl⟩⟩
theorem oped_NR {R:Res} {r:AVal} (h:Oped (fun y=>(some (norm y),0)=R) (fun e=>(none,e)=R) r):r=NR R:=by
 rcases h with ⟨y,_,hy,rfl⟩ | ⟨e,he,rfl⟩
 ·rw [← hy]
 ·rw [← he]
theorem p6c {u:TM} {sg:ByteArray} (ok:u.ok) (hr:∀ x ∈ u.l,right x) (H:AHeap):DCall Tryz.prog 6 [.str sg,u.row] H fun r H'=>r=NR (opv sg u.l)∧H'=H:=
 (opclosed (p6 ok hr AHeap.empty) H).mono fun r H' ⟨h1,h2⟩=>⟨oped_NR h1,h2⟩
end Go.Am.Rl
namespace Go.Am.Rl
open Go.Proofs
theorem SL2.set {H H':AHeap} {v:AVal} {a b:TM} (h:SL2 H v a b) (g:∀ j,j < H.next→H'.get j=H.get j):SL2 H' v a b:=by
 obtain ⟨id,cap,rfl,h⟩:=h
 exact ⟨id,cap,rfl,(g _ (AHeap.get_lt h)).trans h⟩
section
variable {a b:TM} {v:AVal} {f:FuncId} {blk:ABlk} {p:Bool}
end
end Go.Am.Rl
namespace Go.Am.Rl
open Go.Proofs
section
variable {a b:TM} {H:AHeap} {i1 i2:Nat} {k k':List AItem} {Q:Env→AHeap→Prop}
end
end Go.Am.Rl
namespace Go.Am.Rl
open Go.Proofs
theorem opv_good {sg:ByteArray} {l:List TM} (ho:TM.oks l) (hr:∀ x ∈ l,right x):goodR (opv sg l):=by
 have bt:∀ b:Bool,goodR (some (tf b),0):=fun b=>.inl ⟨tf b,tf_ok b,tf_norm b,rfl⟩
 match l,ho,hr with
 | [],_,_=>exact err_good (by decide)
 | [a],ho,hr=>
  show goodR (opv1 sg a)
  unfold opv1
  split
  ·exact negR_good ho.1
  split
  ·split
   ·exact bt _
   ·exact err_good (by decide)
  ·exact err_good (by decide)
 | [a,b],ho,hr=>
  show goodR (opv2 sg a b)
  unfold opv2
  split
  ·exact opR_good
  iterate 8
   split
   ·exact bt _
  split
  ·split
   ·exact err_good (by decide)
   ·rename_i h
    exact lim_good (cat_ok ho.1 ho.2.1 (hr a (by simp)) (hr b (by simp)) (by omega) (by omega) false (fun h=>nomatch h))
  ·exact err_good (by decide)
 | a::b::c::r,_,_=>exact err_good (by decide)
abbrev zTM:TM:=.mk 0 0 0 ⟨#[]⟩ true []
def celT (R:Res):TM:=match R.1 with
 | some y=>y
 | none=>zTM
theorem celT_agg (R:Res):AVal.agg (cel R)=(celT R).agg:=by
 rcases R with ⟨_ | y,e⟩ <;> rfl
theorem celT_ok {R:Res} (h:goodR R):(celT R).ok:=by
 rcases h with ⟨y,oy,_,rfl⟩ | ⟨e,_,rfl⟩
 ·exact oy
 ·exact ⟨by kernel_rfl,by kernel_rfl,by kernel_rfl,Nat.zero_le _,Nat.zero_le _,fun _=>rfl,trivial⟩
theorem law3 {sg:ByteArray} {nl:Bool} {l:List TM} (ok:(TM.of nl l).ok):DCall Tryz.prog 3 [.str sg,(TM.of nl l).row] AHeap.empty fun r H'=>r = .bool true:=by
 have hz:z25=[.int .i64 0,.int .i64 0,.flt .f64 0,.str ⟨#[]⟩,.nils]:=rfl
 have hs0:alenT AHeap.empty 0 (.str sg)=some sg.size:=rfl
 obtain ⟨b,hb⟩:=bcmp .gtr .i64 ((sg.size:Nat):Int) 100 rfl
 refine DCall.of_body (fn:=Tryz.f3) (by kernel_rfl) c3 (by kernel_rfl) (by simp [f3]) ?_
 unfold f3
 simp only []
 refine Dg rfl ?_
 simp -dsimp only [SE,astep,seval]
 refine Dg rfl ?_
 simp -dsimp only [SE,astep,seval]
 refine (g7 AHeap.empty).mono ?_
 rintro r H' ⟨rfl,he⟩
 obtain rfl:=he.symm
 simp -dsimp only [SE,astep,seval,Bool.not_true]
 refine Dn rfl rfl ?_
 cases b with
 | true=>
  refine Dg rfl ?_
  simp -dsimp only [SE,astep,seval,hs0,hb]
  refine Dy rfl rfl ?_
  refine Dg rfl ?_
  simp -dsimp only [SE,astep,seval]
  refine Dm rfl ?_
  exact DR.ret ⟨_,by simp [aresult,ares,Env.get] <;> rfl,rfl⟩
 | false=>
  refine Dg rfl ?_
  simp -dsimp only [SE,astep,seval,hs0,hb]
  refine (g8x nl l ok).mono ?_
  rintro r H1 ⟨b2,rfl,hr⟩
  cases b2 with
  | false=>
   simp -dsimp only [SE,astep,seval,Bool.not_false]
   refine Dy rfl rfl ?_
   refine Dg rfl ?_
   simp -dsimp only [SE,astep,seval]
   refine Dm rfl ?_
   exact DR.ret ⟨_,by simp [aresult,ares,Env.get] <;> rfl,rfl⟩
  | true=>
   have hr:=hr rfl
   have hgood:=opv_good (sg:=sg) (l:=l) (TM.ok_oks ok) hr
   obtain ⟨R,hR⟩:∃ R,R=opv sg l:=⟨_,rfl⟩
   have p:∀ H,DCall Tryz.prog 6 [.str sg,(TM.of nl l).row] H fun r H'=>r=NR R∧H'=H:=fun H=>by rw [hR]; exact p6c ok hr H
   have q:∀ H,DCall Tryz.prog 7 [.str sg,(TM.of nl l).row] H fun r H'=>r=NR R∧H'=H:=fun H=>by rw [hR]; exact r7 ok hr H
   rw [← hR] at hgood
   clear hR
   obtain ⟨H2,hH2,g2,n2,f2⟩:=psh H1 (.cells 27 z25)
   have s2:=store_all (n:=5) g2 (new:=cel R) (cel_len _) (cel_ones _) rfl
   obtain ⟨H3,hH3,g3,n3,f3⟩:=upd g2 (.cells 27 (cel R))
   obtain ⟨H4,hH4,g4,n4,f4⟩:=psh H3 (.cells 27 z25)
   have s4:=store_all (n:=5) g4 (new:=cel R) (cel_len _) (cel_ones _) rfl
   obtain ⟨H5,hH5,g5,n5,f5⟩:=upd g4 (.cells 27 (cel R))
   have t5:H5.get H1.next=some (.cells 27 (cel R)):=by rw [f5 _ (by omega),f4 _ (by omega)]; exact g3
   have l1:=load_all (n:=5) t5 (cel_len _)
   have l2:=load_all (n:=5) g5 (cel_len _)
   have i0:([.agg (cel R),.int .i64 R.2]:List AVal)[0]? = some (.agg (cel R)):=rfl
   have i1:([.agg (cel R),.int .i64 R.2]:List AVal)[1]? = some (.int .i64 R.2):=rfl
   have ce:abin .eql (.int .i64 R.2) (.int .i64 R.2)=some (.bool true):=eqlT rfl
   have tw:DCall Tryz.prog 8 [.agg (cel R),.agg (cel R)] H5 fun r H'=>r = .bool true∧H'=H5:=by
    rw [celT_agg]
    exact g11 _ _ (celT_ok hgood) (celT_ok hgood) rfl H5
   simp -dsimp only [SE,astep,seval,Bool.not_true]
   refine Dn rfl rfl ?_
   refine Dg rfl ?_
   simp -dsimp only [SE,astep,seval]
   refine (p H1).mono ?_
   rintro r H' ⟨rfl,he⟩
   obtain rfl:=he.symm
   simp -dsimp only [SE,astep,seval,i0,i1,← hz,← hH2,s2,← hH3]
   refine Dg rfl ?_
   simp -dsimp only [SE,astep,seval]
   refine (q H3).mono ?_
   rintro r H' ⟨rfl,he⟩
   obtain rfl:=he.symm
   simp -dsimp only [SE,astep,seval,i0,i1,← hz,← hH4,s4,← hH5]
   refine Dg rfl ?_
   simp -dsimp only [SE,astep,seval,l1,l2]
   refine tw.mono ?_
   rintro r H' ⟨rfl,he⟩
   obtain rfl:=he.symm
   simp -dsimp only [SE,astep,seval,ce]
   refine Dm rfl ?_
   exact DR.ret ⟨_,by simp [aresult,ares,Env.get] <;> rfl,rfl⟩
end Go.Am.Rl
namespace Go.Am
theorem DCallX.call {P:Program} {f:FuncId} {args:List AVal} {H:AHeap} {Q:AVal→AHeap→Prop} (h:DCallX P f args H fun o H'=>∃ v,o = .ret v∧Q v H'):CallEv P f args H Q:=by
 obtain ⟨o,H1,⟨v,rfl,hq⟩,hc,hd⟩:=h
 intro w ro μ argv hg ha
 refine (hd w ro μ argv hg ha).mono fun e w' ⟨o,H',ro',μ',⟨e1,e2⟩,ho,hg',hout⟩=> ?_
 subst e1; subst e2
 obtain ⟨v',h1,h2⟩:=ho
 exact ⟨v',v,_,ro',μ',h1,hq,h2,hg',hout⟩
end Go.Am
namespace Go.Proofs.YtmiomdldmoejgaaGreatDoor
open Go.Am Go.RowKit
theorem termT:∃ fs,TermT Tryz.prog 27 3 2 25 9 22 fs:=by
 refine ⟨_,⟨Tryz.underlying27,rfl,Tryz.underlying3,Tryz.underlying2,Tryz.underlying25,Tryz.underlying9,Tryz.underlying22,by kernel_rfl,by kernel_rfl,?_⟩⟩
 have:Tryz.prog.bytesOf 27=64:=by kernel_rfl
 omega
theorem opensTerm:Opens Tryz.prog 27 fun acs=>∃ x:TM,x.ok∧acs=x.cells:=let ⟨_,h⟩:=termT; Opens.term h
end Go.Proofs.YtmiomdldmoejgaaGreatDoor
namespace Go.Proofs.YtmiomdldmoejgaaGreatDoor
open Go.Am Go.Am.Rl Go.RowKit
theorem opensTerms:Opens Tryz.prog 22 fun acs=>∃ nl l,(TM.of nl l).ok∧acs=[(TM.of nl l).row]:=by
 have wf0:(Lit.int .i64 0).wf=true:=by kernel_rfl
 intro H enc w fuel cs d ps hd hs
 obtain ⟨acs,hv,h⟩:=Opens.slice Tryz.underlying22 opensTerm enc w fuel cs d ps hd hs
 refine ⟨acs,hv,?_⟩
 rcases h with rfl | ⟨rs,h1,h2,h3,rfl⟩
 ·exact ⟨true,[],⟨by kernel_rfl,by kernel_rfl,by kernel_rfl,Nat.zero_le _,Nat.zero_le _,fun _=>rfl,trivial⟩,rfl⟩
 ·obtain ⟨l,k1,k2,k3⟩:=TM.rows rs fun r hr=>(h1 r hr).1
  refine ⟨false,l,⟨by kernel_rfl,by kernel_rfl,by kernel_rfl,Nat.zero_le _,?_,(fun h=>nomatch h),k1⟩,by rw [k2,← k3]; rfl⟩
  have h4:rs.length * 64≤reachBytes:=by
   have h3':=h3
   rw [show Tryz.prog.bytesOf 27=64 by kernel_rfl] at h3'
   exact h3'
  rw [k3]
  simp only [reachBytes] at h4
  omega
end Go.Proofs.YtmiomdldmoejgaaGreatDoor
