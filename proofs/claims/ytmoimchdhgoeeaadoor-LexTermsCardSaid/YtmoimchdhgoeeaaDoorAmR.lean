/- Parts: Am45, Am46, Am47, Am48. -/
import Derived.Test.YtmoimchdhgoeeaaDoorAmP
set_option linter.unusedVariables false
set_option linter.unusedSimpArgs false
namespace Go.Am
open Go.RowKit
def swp (x j:Nat):Nat:=if j=x then x+1 else if j=x+1 then x else j
theorem swp_swp (x j:Nat):swp x (swp x j)=j:=by unfold swp; split <;> split <;> (try split) <;> omega
theorem swp_lt {x j:Nat} (h:j < x):swp x j=j:=by unfold swp; rw [if_neg (by omega),if_neg (by omega)]
theorem swp_iff {x j i:Nat}:j=swp x i↔swp x j=i:=⟨fun h=>by rw [h,swp_swp],fun h=>by rw [← h,swp_swp]⟩
theorem swp_x (x:Nat):swp x x=x+1:=by simp [swp]
theorem swp_y (x:Nat):swp x (x+1)=x:=by simp [swp]
theorem swp_in {x j n:Nat} (hx:x+1 < n):j < n↔swp x j < n:=by unfold swp; split <;> (try split) <;> omega
def idxMap (f:Nat→AOper→AOper):Nat→List AOper→List AOper
 | _,[]=>[]
 | i,o::r=>f i o::idxMap f (i+1) r
theorem idxMap_at (f:Nat→AOper→AOper):∀ (l:List AOper) (i j:Nat),(idxMap f i l)[j]? = l[j]?.map (f (i+j))
 | [],i,j=>by simp [idxMap]
 | o::r,i,0=>by simp [idxMap]
 | o::r,i,j+1=>by
  simp only [idxMap,List.getElem?_cons_succ]
  rw [idxMap_at f r (i+1) j,show i+1+j=i+(j+1) by omega]
theorem idxMap_length (f:Nat→AOper→AOper):∀ (l:List AOper) (i:Nat),(idxMap f i l).length=l.length
 | [],i=>rfl
 | o::r,i=>by simp [idxMap,idxMap_length f r]
def fake1 (x:Nat) (l:List AOper):List AOper:=idxMap (fun j o=>if j=x+1 then { o with after:=x::o.after } else o) 0 l
def fake2 (x:Nat) (l:List AOper):List AOper:=idxMap (fun k o0=>match l[swp x k]? with
 | some o=>{ o with after:=if k=x+1 then x::o.after.map (swp x) else o.after.map (swp x) }
 | none=>o0) 0 l
theorem fake1_at {x:Nat} {l:List AOper} {j:Nat} {o:AOper} (h:l[j]? = some o):(fake1 x l)[j]? = some (if j=x+1 then { o with after:=x::o.after } else o):=by
 unfold fake1; rw [idxMap_at,h]; simp
theorem fake2_at {x:Nat} {l:List AOper} (hx:x+1 < l.length) {j:Nat} {o:AOper} (h:l[j]? = some o):(fake2 x l)[swp x j]? = some { o with after:=if swp x j=x+1 then x::o.after.map (swp x) else o.after.map (swp x) }:=by
 unfold fake2
 have hj:=(List.getElem?_eq_some_iff.mp h).1
 rw [idxMap_at,List.getElem?_eq_getElem ((swp_in hx).mp hj)]
 simp only [Option.map_some,Nat.zero_add,swp_swp,h]
theorem fake1_length (x:Nat) (l:List AOper):(fake1 x l).length=l.length:=idxMap_length ..
theorem fake2_length (x:Nat) (l:List AOper):(fake2 x l).length=l.length:=idxMap_length ..
theorem StepD.same {P:Program} {o o':AOper} {T T1 T2:Env} {H H1 H2:AHeap} (ho:o.op=o'.op) (hd:o.dst=o'.dst) (hg:o.guard=o'.guard) (hq:o.op.quiet=true) (h1:StepD P o T H T1 H1) (h2:StepD P o' T H T2 H2):(T1,H1)=(T2,H2):=by
 unfold StepD at h1 h2
 rw [← ho,← hd,← hg] at h2
 split at h1
 ·exact h1.elim
 ·rename_i hw; rw [hw] at h2; rw [h1.1,h1.2,h2.1,h2.2]
 ·rename_i hw
  rw [hw] at h2
  cases hs:astep o.op T H with
  | none=>rw [hs] at h1; exact h1.elim
  | some n=>
   obtain ⟨v,rfl⟩:=astep_quiet hq hs
   rw [hs] at h1 h2
   rw [h1.1,h1.2,h2.1,h2.2]
theorem Mid.turn {P:Program} {nt:Nat} {dv:List Deferred} {ms:List Nat} {l1 l2:List AOper} {st1 st2:Nat→Env × AHeap} {w0:World} {ro0:Nat→Prop} {μ0:Mu} {S:Nat→Prop} {a:Act} {w:World} (h:Mid P nt dv l1 st1 w0 ro0 μ0 S a w) (hl:Line P ms l1 st1 l1.length) {x:Nat} (hx:x≤l2.length)
  (he:∀ j o,j < x→l2[j]? = some o→∃ o',l1[j]? = some o'∧o'.op=o.op∧o'.dst=o.dst∧∀ i ∈ o.after,i ∈ o'.after) (hst:∀ j,j≤x→st1 j=st2 j) (hS:∀ j,S j→j < x):Mid P nt dv l2 st2 w0 ro0 μ0 S a w:=by
 obtain ⟨hd,p,q,ro,μ,hp,hq,hE,hW,hg,hT,hs,hdf,hout⟩:=h
 have hpx:(st2 (min p x)).2=(st1 p).2:=by
  rw [← hst _ (Nat.min_le_right _ _)]
  refine (hl.heap' (Nat.min_le_left _ _) hp fun i o h1 h2 ho=> ?_).symm
  cases hqo:o.op.quiet with
  | true=>rfl
  | false=>have:=hS i ((hE i o ho hqo).mpr h2); omega
 have hqx:∀ s,(st2 (min (q s) x)).1.get s=(st1 (q s)).1.get s:=by
  intro s
  rw [← hst _ (Nat.min_le_right _ _)]
  refine (hl.get' (Nat.min_le_left _ _) (hq s) fun i o h1 h2 ho hds=> ?_).symm
  have:=hS i ((hW i o s ho hds).mpr h2); omega
 refine ⟨fun i o ho hi j hj=> ?_,min p x,fun s=>min (q s) x,ro,μ,by omega,fun s=>Nat.le_trans (Nat.min_le_right _ _) hx,fun e o ho hqe=> ?_,fun i o s ho hs=> ?_,by rw [hpx]; exact hg,fun s v hv=>hT s v (by rw [← hqx]; exact hv),hs,hdf,by rw [hpx,← hst 0 (Nat.zero_le _)]; exact hout⟩
 ·obtain ⟨o',h1,h2,h3,h4⟩:=he i o (hS i hi) ho
  exact hd i o' h1 hi j (h4 j hj)
 ·by_cases hex:e < x
  ·obtain ⟨o',h1,h2,h3,h4⟩:=he e o hex ho
   rw [hE e o' h1 (by rw [h2]; exact hqe)]; omega
  ·exact ⟨fun h=>absurd (hS e h) hex,fun h=>by omega⟩
 ·by_cases hex:i < x
  ·obtain ⟨o',h1,h2,h3,h4⟩:=he i o hex ho
   rw [hW i o' s h1 (by rw [h3]; exact hs)]
   show i < q s↔i < min (q s) x
   omega
  ·refine ⟨fun h=>absurd (hS i h) hex,fun h=> ?_⟩
   have h:i < min (q s) x:=h
   omega
theorem draw_inv {P:Program} {nt:Nat} {l:List AOper} {ops:Array Oper} (hc:copers P nt ops ops.toList=some l) (haft:∀ (i:Nat) (o:AOper),l[i]? = some o→∀ j ∈ o.after,j < i) {I:Array Bool→Act→World→Prop} {Q:Exit→Act→World→Prop}
  (hQ:∀ listed a w,listed.size=l.length→(∀ i,i < l.length→listed.getD i false=true)→I listed a w→Q .normal a w)
  (hstep:∀ listed a w,listed.size=l.length→I listed a w→∀ (i:Nat) (o:Oper) (ao:AOper),i < l.length→¬ (listed.getD i false=true)→ops[i]? = some o→l[i]? = some ao→coper P nt ops o=some ao→(∀ j ∈ ao.after,listed.getD j false=true)→∀ {K:Act→World→Prop},(∀ a w,I (listed.setIfInBounds i true) a w→K a w)→wpOp P ops Q i K a w) :
  ∀ (fuel:Nat) (listed:Array Bool) (rem:List Nat) (a:Act) (w:World),listed.size=l.length→(∀ i,i < l.length→listed.getD i false=false→i ∈ rem)→rem.length≤fuel→I listed a w→wpAny P .any ops Q fuel listed a w:=by
 obtain ⟨hlen,hat⟩:=copers_at hc
 have hlen':ops.size=l.length:=by rw [← hlen]; simp
 have aft:∀ {i:Nat} {o:Oper} {ao:AOper},ops[i]? = some o→l[i]? = some ao→coper P nt ops o=some ao∧ao.after=(o.after.toList.filter (Region.binds .any)).map (·.on):=by
  intro i o ao ho hao
  obtain ⟨ao',h1,h2⟩:=hat i o (by simpa using ho)
  rw [hao] at h1; cases h1
  exact ⟨h2,coper_after h2⟩
 have gd:∀ (listed:Array Bool) (i:Nat) (b:Bool),i < listed.size→listed.getD i b=listed.getD i false:=by
  intro listed i b hi
  simp [Array.getD_eq_getD_getElem?,hi]
 have done:∀ (listed:Array Bool) (a:Act) (w:World),listed.size=l.length→I listed a w→Region.ready .any ops listed=[]→Q .normal a w:=by
  intro listed a w hsz hm hr
  refine hQ listed a w hsz ?_ hm
  intro i
  induction i using Nat.strongRecOn with
  | ind i ih=>
   intro hi
   cases hb:listed.getD i false with
   | true=>rfl
   | false=>
    have hio:i < ops.size:=by omega
    have ho:ops[i]? = some ops[i]:=by simp [hio]
    have hao:=List.getElem?_eq_getElem hi
    obtain ⟨a1,a2⟩:=aft ho hao
    have:i ∈ Region.ready .any ops listed:=ready_mem ((gd listed i true (by omega)).trans hb) ho fun j hj=>by
     rw [← a2] at hj
     have hji:=haft i _ hao j hj
     exact ih j hji (by omega)
    rw [hr] at this; cases this
 intro fuel
 induction fuel with
 | zero=>
  intro listed rem a w hsz hrem hle hm
  have hnil:rem=[]:=List.length_eq_zero_iff.mp (by omega)
  have hr:Region.ready .any ops listed=[]:=by
   cases hR:Region.ready .any ops listed with
   | nil=>rfl
   | cons x xs=>
    obtain ⟨h1,h2,_⟩:=mem_ready (i:=x) (by rw [hR]; exact List.mem_cons_self)
    have:=hrem x (by omega) (by rw [← gd listed x true (by omega)]; exact h2)
    rw [hnil] at this; cases this
  exact ⟨hr,done listed a w hsz hm hr⟩
 | succ fuel ih=>
  intro listed rem a w hsz hrem hle hm
  refine ⟨done listed a w hsz hm,fun i hi=> ?_⟩
  obtain ⟨h1,h2,o,ho,h3⟩:=mem_ready hi
  have hil:i < l.length:=by omega
  have hao:=List.getElem?_eq_getElem hil
  obtain ⟨a1,a2⟩:=aft ho hao
  have hSi:¬ (listed.getD i false=true):=by rw [← gd listed i true (by omega),h2]; simp
  refine hstep listed a w hsz hm i o _ hil hSi ho hao a1 (by rw [a2]; exact h3) fun a' w' hm'=> ?_
  have him:i ∈ rem:=hrem i (by omega) (by rw [← gd listed i true (by omega)]; exact h2)
  refine ih _ (rem.erase i) a' w' (by simp [hsz]) (fun j hj hlj=> ?_) (by rw [List.length_erase_of_mem him]; omega) hm'
  have hne:j≠i:=by
   rintro rfl
   simp [Array.getD_eq_getD_getElem?,Array.getElem?_setIfInBounds,hsz,hj] at hlj
  refine (List.mem_erase_of_ne hne).mpr (hrem j hj ?_)
  simpa [Array.getD_eq_getD_getElem?,Array.getElem?_setIfInBounds,Ne.symm hne] using hlj
theorem draw_two {P:Program} {nt:Nat} {dv:List Deferred} {ms1 ms2:List Nat} {l:List AOper} {x:Nat} {st1 st2:Nat→Env × AHeap} {ops:Array Oper} (hc:copers P nt ops ops.toList=some l) (hx:x+1 < l.length)
  (hdep:∀ (j:Nat) (o:AOper),x+1 < j→l[j]? = some o→x ∈ o.after) (hpre:∀ (j:Nat) (o:AOper),j < x→l[j]? = some o→o.op.quiet=true)
  (hk1:okDraw (fake1 x l) ms1=true) (hk2:okDraw (fake2 x l) ms2=true) (hl1:Line P ms1 (fake1 x l) st1 (fake1 x l).length) (hl2:Line P ms2 (fake2 x l) st2 (fake2 x l).length) (h00:st1 0=st2 0)
  {w0:World} {ro0:Nat→Prop} {μ0:Mu} {Q:Exit→Act→World→Prop} (hQ1:∀ a w,Mid P nt dv (fake1 x l) st1 w0 ro0 μ0 (fun i=>i < l.length) a w→Q .normal a w) (hQ2:∀ a w,Mid P nt dv (fake2 x l) st2 w0 ro0 μ0 (fun i=>i < l.length) a w→Q .normal a w) :
  ∀ (fuel:Nat) (listed:Array Bool) (rem:List Nat) (a:Act) (w:World),listed.size=l.length→(∀ i,i < l.length→listed.getD i false=false→i ∈ rem)→rem.length≤fuel→Mid P nt dv (fake1 x l) st1 w0 ro0 μ0 (fun i=>listed.getD i false=true) a w→¬ (listed.getD (x+1) false=true)→wpAny P .any ops Q fuel listed a w:=by
 have haft1:∀ (i:Nat) (o:AOper),(fake1 x l)[i]? = some o→∀ j ∈ o.after,j < i:=fun i o ho=>(okDraw_at hk1 ho).1
 have haft2:∀ (i:Nat) (o:AOper),(fake2 x l)[i]? = some o→∀ j ∈ o.after,j < i:=fun i o ho=>(okDraw_at hk2 ho).1
 have haft:∀ (i:Nat) (o:AOper),l[i]? = some o→∀ j ∈ o.after,j < i:=fun i o ho j hj=>haft1 i _ (fake1_at ho) j (by split <;> simp [hj])
 have same:∀ j o,j < x→l[j]? = some o→(fake1 x l)[j]? = some o∧(fake2 x l)[j]? = some o:=by
  intro j o hj ho
  have h1:=fake1_at (x:=x) ho
  have h2:=fake2_at hx ho
  rw [if_neg (by omega)] at h1
  rw [swp_lt hj,if_neg (by omega)] at h2
  have e:o.after.map (swp x)=o.after:=by
   have:∀ i ∈ o.after,swp x i=i:=fun i hi=>swp_lt (by have:=haft j o ho i hi; omega)
   exact (List.map_congr_left this).trans (List.map_id _)
  rw [e] at h2
  exact ⟨h1,h2⟩
 have hst:∀ j,j≤x→st1 j=st2 j:=by
  intro j
  induction j with
  | zero=>intro _; exact h00
  | succ j ih=>
   intro hj
   have hjl:j < l.length:=by omega
   have ho:=List.getElem?_eq_getElem hjl
   obtain ⟨s1,s2⟩:=same j _ (by omega) ho
   have e:=ih (by omega)
   have k1:=hl1.step j _ (by rw [fake1_length]; exact hjl) s1
   have k2:=hl2.step j _ (by rw [fake2_length]; exact hjl) s2
   rw [← e] at k2
   exact StepD.same rfl rfl rfl (hpre j _ (by omega) ho) k1 k2
 intro fuel listed rem a w hsz hrem hle hm hy
 refine draw_inv hc haft (I:=fun listed a w=>(Mid P nt dv (fake1 x l) st1 w0 ro0 μ0 (fun i=>listed.getD i false=true) a w∧(listed.getD (x+1) false=true→listed.getD x false=true))∨(Mid P nt dv (fake2 x l) st2 w0 ro0 μ0 (fun i=>listed.getD (swp x i) false=true) a w∧listed.getD (x+1) false=true)) (fun listed a w hsz hall hI=> ?_) (fun listed a w hsz hI i o ao hil hSi ho hao hco haf K hK=> ?_) fuel listed rem a w hsz hrem hle (.inl ⟨hm,fun h=>absurd h hy⟩)
 ·rcases hI with ⟨hm,_⟩ | ⟨hm,_⟩
  ·exact hQ1 a w (hm.congr (fun i o ho=>by
    have:=(List.getElem?_eq_some_iff.mp ho).1
    rw [fake1_length] at this
    exact ⟨fun _=>hall i this,fun _=>this⟩) haft1)
  ·exact hQ2 a w (hm.congr (fun i o ho=>by
    have:=(List.getElem?_eq_some_iff.mp ho).1
    rw [fake2_length] at this
    exact ⟨fun _=>hall _ ((swp_in hx).mp this),fun _=>this⟩) haft2)
 ·obtain ⟨h1,h2,h3,h4⟩:=coper_inv hco
  have hset:∀ j,((listed.setIfInBounds i true).getD j false=true)↔(j=i∨listed.getD j false=true):=by
   intro j
   by_cases hji:j=i
   ·subst hji
    simp [Array.getD_eq_getD_getElem?,Array.getElem?_setIfInBounds,hsz,hil]
   ·simp [Array.getD_eq_getD_getElem?,Array.getElem?_setIfInBounds,Ne.symm hji,hji]
  have second:Mid P nt dv (fake2 x l) st2 w0 ro0 μ0 (fun j=>listed.getD (swp x j) false=true) a w→(swp x i=x+1→listed.getD (x+1) false=true)→(i=x+1∨listed.getD (x+1) false=true)→wpOp P ops Q i K a w:=by
   intro hm hex hy
   have hk:=fake2_at hx hao
   refine hm.goAt hk2 hl2 ho hk h1 h2 h3 h4 (by rw [swp_swp]; exact hSi) (fun j hj=> ?_) fun a w hmid=>hK a w (.inr ⟨hmid.congr (fun j o' hj=> ?_) haft2,(hset _).mpr (hy.imp Eq.symm id)⟩)
   ·have hin:∀ j ∈ ao.after.map (swp x),listed.getD (swp x j) false=true:=by
     intro j hj
     obtain ⟨j0,hj0,rfl⟩:=List.mem_map.mp hj
     rw [swp_swp]; exact haf j0 hj0
    simp only at hj
    split at hj
    ·rename_i he
     rcases List.mem_cons.mp hj with rfl | hj
     ·rw [swp_x]; exact hex he
     ·exact hin j hj
    ·exact hin j hj
   ·rw [hset,← swp_iff]
  rcases hI with ⟨hm,hxy⟩ | ⟨hm,hy⟩
  ·by_cases hc2:i=x+1∧¬ (listed.getD x false=true)
   ·obtain ⟨rfl,hnx⟩:=hc2
    have hS:∀ j,listed.getD j false=true→j < x:=by
     intro j hj
     have hjl:j < l.length:=by
      rw [← hsz]
      rcases Nat.lt_or_ge j listed.size with h | h
      ·exact h
      ·simp [Array.getD_eq_getD_getElem?,Array.getElem?_eq_none h] at hj
     rcases Nat.lt_trichotomy j x with h | h | h
     ·exact h
     ·subst h; exact absurd hj hnx
     ·rcases Nat.lt_or_ge (x+1) j with h' | h'
      ·have hoj:=List.getElem?_eq_getElem hjl
       have hd:=hm.down j _ (fake1_at hoj) hj x (by have:=hdep j _ h' hoj; split <;> simp [this])
       exact absurd hd hnx
      ·obtain rfl:j=x+1:=by omega
       exact absurd hj hSi
    have hm2:Mid P nt dv (fake2 x l) st2 w0 ro0 μ0 (fun i=>listed.getD i false=true) a w:=hm.turn hl1 (x:=x) (by rw [fake2_length]; omega) (fun j o' hj ho'=>by
     have hjl:j < l.length:=by omega
     obtain ⟨s1,s2⟩:=same j _ hj (List.getElem?_eq_getElem hjl)
     rw [ho'] at s2; cases s2
     exact ⟨_,s1,rfl,rfl,fun _ h=>h⟩) hst hS
    refine second (hm2.congr (fun j o' hj=> ?_) haft2) (fun he=>absurd he (by rw [swp_y]; omega)) (.inl rfl)
    by_cases hjx:j < x
    ·rw [swp_lt hjx]
    ·refine ⟨fun h=>absurd (hS _ h) ?_,fun h=>absurd (hS _ h) hjx⟩
     unfold swp; split <;> (try split) <;> omega
   ·have hk:=fake1_at (x:=x) hao
    refine hm.goAt hk1 hl1 ho hk (by split <;> exact h1) (by split <;> exact h2) (by split <;> exact h3) h4 hSi (fun j hj=> ?_) fun a w hmid=>hK a w (.inl ⟨hmid.congr (fun j o' hj=>hset j) haft1,fun hh=> ?_⟩)
    ·split at hj
     ·rename_i he
      rcases List.mem_cons.mp hj with rfl | hj
      ·by_cases hl:listed.getD j false=true
       ·exact hl
       ·exact absurd ⟨he,hl⟩ hc2
      ·exact haf j hj
     ·exact haf j hj
    ·rw [hset] at hh ⊢
     rcases hh with hh | hh
     ·by_cases hl:listed.getD x false=true
      ·exact .inr hl
      ·exact absurd ⟨hh.symm,hl⟩ hc2
     ·exact .inr (hxy hh)
  ·exact second hm (fun _=>hy) (.inr hy)
section
variable {P:Program} {ks:Keeps} {nt:Nat} {k:List AItem} {T:Env} {H:AHeap} {K:Env→AHeap→Prop}
theorem Mid.end_ {dv:List Deferred} {ms:List Nat} {l:List AOper} {st:Nat→Env × AHeap} {n:Nat} (hn:n=l.length) (hl:Line P ms l st l.length) (h0':st 0=(T,H)) {w w1:World} {ro:Nat→Prop} {μ:Mu} {a1:Act} (hmid:Mid P nt dv l st w ro μ (fun i=>i < n) a1 w1) :
  ∃ ro1 μ1,Good P w1 ro1 μ1 (st l.length).2∧TR P w1 ro1 μ1 (st l.length).1 a1.tmps∧a1.tmps.size=nt∧a1.defers=dv∧Out w ro μ H w1 ro1 μ1 (st l.length).2:=by
 subst hn
 obtain ⟨hd1,p,q,ro1,μ1,hp,hq,hE,hW,hg1,hT1,hs1,hdf1,hout1⟩:=hmid
 have hH:(st l.length).2=(st p).2:=hl.heap' hp (Nat.le_refl _) fun i o h1 h2 ho=>by
  cases hqo:o.op.quiet with
  | true=>rfl
  | false=>have:=(hE i o ho hqo).mp h2; omega
 have hTT:TR P w1 ro1 μ1 (st l.length).1 a1.tmps:=⟨fun s v hv=>hT1 s v (by
  rw [← hl.get' (s:=s) (hq s) (Nat.le_refl _) fun i o h1 h2 ho hds=>by have:=(hW i o s ho hds).mp h2; omega]
  exact hv),hg1.glob⟩
 rw [← hH] at hg1 hout1
 rw [h0'] at hout1
 exact ⟨ro1,μ1,hg1,hTT,hs1,hdf1,hout1⟩
def okTwo (x:Nat) (l:List AOper):Bool:=
 Nat.blt (x+1) l.length&&(l.drop (x+2)).all (fun o=>o.after.contains x)&&(l.take x).all (fun o=>o.op.quiet)&&okDraw (fake1 x l) (aclos (fake1 x l) [])&&okDraw (fake2 x l) (aclos (fake2 x l) [])
theorem Runs.two {l:List AOper} {kl:List Nat} {x:Nat} (hm:P.follows .mixedOrders=true) (hok:okTwo x l=true)
  (h1:DrawRun P (aclos (fake1 x l) []) 0 (fake1 x l) [] [] T H fun T' H'=>Runs P ks nt k (T'.keep kl) H' K) (h2:DrawRun P (aclos (fake2 x l) []) 0 (fake2 x l) [] [] T H fun T' H'=>Runs P ks nt k (T'.keep kl) H' K):Runs P ks nt (.code (.region true l kl)::k) T H K:=by
 obtain ⟨st1,hl1,h01,hfin1⟩:=h1.line
 obtain ⟨st2,hl2,h02,hfin2⟩:=h2.line
 simp only [okTwo,Bool.and_eq_true] at hok
 obtain ⟨⟨⟨⟨hx,hdep⟩,hpre⟩,hk1⟩,hk2⟩:=hok
 have hx:x+1 < l.length:=by rw [Nat.blt_eq] at hx; exact hx
 intro items hc w ro μ a hg hT hs hd b cs
 obtain ⟨i,r,rfl,g1,g2⟩:=cis_cons hc
 obtain ⟨c,rfl,h3⟩:=ci_code g1
 obtain ⟨id,ops,rfl,h4,rfl⟩:=ccode_inv h3
 obtain ⟨hlen,_⟩:=copers_at h4
 have hlen':ops.size=l.length:=by rw [← hlen]; simp
 have hwp:(Code.region id ops true).wp P (fun e a' w'=>e = .normal∧(Mid P nt [] (fake1 x l) st1 w ro μ (fun i=>i < l.length) a' w'∨Mid P nt [] (fake2 x l) st2 w ro μ (fun i=>i < l.length) a' w')) a w:=by
  have hfalse:∀ i,¬ ((Array.replicate ops.size false).getD i false=true):=by
   intro i hi
   simp only [Array.getD_eq_getD_getElem?,Array.getElem?_replicate] at hi
   split at hi <;> simp at hi
  refine wp_region_any hm (draw_two h4 hx (fun j o hj ho=> ?_) (fun j o hj ho=> ?_) hk1 hk2 hl1 hl2 (h01.trans h02.symm) (fun a w h=>⟨rfl,.inl h⟩) (fun a w h=>⟨rfl,.inr h⟩) ops.size _ (List.range l.length) a _ (by simp [hlen']) (fun i hi _=>List.mem_range.mpr hi) (by simp [hlen']) ?_ (hfalse _))
  ·have:=List.all_eq_true.mp hdep o (List.mem_of_getElem? (i:=j - (x+2)) (by rw [List.getElem?_drop,show x+2+(j - (x+2))=j by omega]; exact ho))
   simpa using this
  ·exact List.all_eq_true.mp hpre o (List.mem_of_getElem? (i:=j) (by rw [List.getElem?_take,if_pos hj]; exact ho))
  have hx:Ext w ro μ { w with drawn:=w.drawn+1 } ro μ:=⟨fun _ h=>h,fun _ _ _ h=>h,fun _ _=>rfl,fun _ c _ fr h=>⟨c,fr,h,rfl⟩⟩
  refine ⟨fun i o ho hi=>absurd hi (hfalse i),0,fun _=>0,ro,μ,Nat.zero_le _,fun _=>Nat.zero_le _,fun e o _ _=>⟨fun hi=>absurd hi (hfalse e),fun h=>absurd h (Nat.not_lt_zero _)⟩,fun e o s _ _=>⟨fun hi=>absurd hi (hfalse e),fun h=>absurd h (Nat.not_lt_zero _)⟩,?_,?_,hs,hd,?_⟩
  ·rw [h01]; exact hg.drawn _
  ·intro s v hv
   rw [h01] at hv
   exact (hT.val s v hv).ext hx _ _
  ·rw [h01]; exact Out.drawn _ _ _ _ _
 obtain ⟨e,a1,w1,⟨he,hmid⟩,harr⟩:=hwp b r cs
 subst he
 rcases hmid with hmid | hmid
 ·obtain ⟨ro1,μ1,hg1,hTT,hs1,hdf1,hout1⟩:=Mid.end_ (fake1_length x l).symm hl1 h01 hmid
  obtain ⟨a',w',todo',hp',hsteps⟩:=hfin1 r g2 w1 ro1 μ1 a1 hg1 (hTT.keep _) hs1 hdf1 b cs
  exact ⟨a',w',todo',hp'.trans hout1,Steps.trans harr hsteps⟩
 ·obtain ⟨ro1,μ1,hg1,hTT,hs1,hdf1,hout1⟩:=Mid.end_ (fake2_length x l).symm hl2 h02 hmid
  obtain ⟨a',w',todo',hp',hsteps⟩:=hfin2 r g2 w1 ro1 μ1 a1 hg1 (hTT.keep _) hs1 hdf1 b cs
  exact ⟨a',w',todo',hp'.trans hout1,Steps.trans harr hsteps⟩
end
end Go.Am
namespace Go.Am
open Go.RowKit
end Go.Am
namespace Go.Am
open Go.RowKit
def apartS (q o:AOper):Bool:=
 (match q.dst with | some d=> !(o.slots.contains d)&&o.dst != some d | none=>true)&&
 (match o.dst with | some d=> !(q.slots.contains d) | none=>true)
def okDrawX (x:Nat) (l:List AOper) (ms:List Nat):Bool:=
 (List.range l.length).all fun i=>match l[i]? with
  | some o=>o.after.all (fun j=>j < i)&&ms.getD i 0==amask o.after ms&&(List.range i).all fun j=>match l[j]? with
   | some q=>(ms.getD i 0).testBit j || (apartS q o&&(q.op.quiet || o.op.quiet || i==x))
   | none=>true
  | none=>true
theorem apartS_inv {q o:AOper} (h:apartS q o=true):(∀ d,q.dst=some d→d ∉ o.slots)∧(∀ d,q.dst=some d→o.dst≠some d)∧(∀ d,o.dst=some d→d ∉ q.slots):=by
 simp only [apartS,Bool.and_eq_true] at h
 obtain ⟨h1,h2⟩:=h
 refine ⟨fun d hd=> ?_,fun d hd=> ?_,fun d hd=> ?_⟩
 ·rw [hd] at h1; simp at h1; exact h1.1
 ·rw [hd] at h1; simp at h1; exact h1.2
 ·rw [hd] at h2; simp at h2; exact h2
theorem okDrawX_at {x:Nat} {l:List AOper} {ms:List Nat} (h:okDrawX x l ms=true) {i:Nat} {o:AOper} (ho:l[i]? = some o) :
  (∀ j ∈ o.after,j < i)∧ms.getD i 0=amask o.after ms∧∀ (j:Nat) q,j < i→l[j]? = some q→(ms.getD i 0).testBit j=true∨((∀ d,q.dst=some d→d ∉ o.slots)∧(∀ d,q.dst=some d→o.dst≠some d)∧(∀ d,o.dst=some d→d ∉ q.slots)∧(q.op.quiet=true∨o.op.quiet=true∨i=x)):=by
 have hi:i < l.length:=(List.getElem?_eq_some_iff.mp ho).1
 have:=List.all_eq_true.mp h i (List.mem_range.mpr hi)
 rw [ho] at this
 simp only [Bool.and_eq_true,beq_iff_eq] at this
 obtain ⟨⟨h1,h2⟩,h3⟩:=this
 refine ⟨fun j hj=>by simpa using List.all_eq_true.mp h1 j hj,h2,fun j q hj hq=> ?_⟩
 have:=List.all_eq_true.mp h3 j (List.mem_range.mpr hj)
 rw [hq] at this
 simp only [Bool.or_eq_true,Bool.and_eq_true,beq_iff_eq] at this
 rcases this with h | ⟨h,h'⟩
 ·exact .inl h
 ·obtain ⟨b1,b2,b3⟩:=apartS_inv h
  exact .inr ⟨b1,b2,b3,by rcases h' with (h' | h') | h' <;> simp [h']⟩
theorem Down.bitX {x:Nat} {l:List AOper} {ms:List Nat} (h:okDrawX x l ms=true) {S:Nat→Prop} (hd:Down l S):∀ {i:Nat} {o:AOper},l[i]? = some o→(∀ j ∈ o.after,S j)→∀ {j},(ms.getD i 0).testBit j=true→S j:=by
 intro i
 induction i using Nat.strongRecOn with
 | ind i ih=>
  intro o ho ha j hj
  obtain ⟨h1,h2,h3⟩:=okDrawX_at h ho
  rw [h2] at hj
  rcases amask_bit hj with hj | ⟨k,hk,hj⟩
  ·exact ha j hj
  ·have hki:=h1 k hk
   have hl:k < l.length:=Nat.lt_trans hki (List.getElem?_eq_some_iff.mp ho).1
   exact ih k hki (List.getElem?_eq_getElem hl) (hd k _ (List.getElem?_eq_getElem hl) (ha k hk)) hj
def MidAt (P:Program) (nt:Nat) (dv:List Deferred) (l:List AOper) (st:Nat→Env × AHeap) (w0:World) (ro0:Nat→Prop) (μ0:Mu) (S:Nat→Prop) (a:Act) (w:World) (p:Nat) (q:Nat→Nat) (ro:Nat→Prop) (μ:Mu):Prop:=
 p≤l.length∧(∀ s,q s≤l.length)∧(∀ (e:Nat) o,l[e]? = some o→o.op.quiet=false→(S e↔e < p))∧
  (∀ (i:Nat) o s,l[i]? = some o→o.dst=some s→(S i↔i < q s))∧Good P w ro μ (st p).2∧(∀ s v,(st (q s)).1.get s=some v→VR P w ro μ v (a.tmps.getD s undef))∧
  a.tmps.size=nt∧a.defers=dv∧Out w0 ro0 μ0 (st 0).2 w ro μ (st p).2
theorem MidAt.go {P:Program} {nt:Nat} {dv:List Deferred} {ms:List Nat} {l:List AOper} {st:Nat→Env × AHeap} {ops:Array Oper} {x:Nat} (hk:okDrawX x l ms=true) (hl:Line P ms l st l.length)
  {w0:World} {ro0:Nat→Prop} {μ0:Mu} {S:Nat→Prop} {a:Act} {w:World} {p:Nat} {q:Nat→Nat} {ro:Nat→Prop} {μ:Mu} (hd:Down l S) (hm:MidAt P nt dv l st w0 ro0 μ0 S a w p q ro μ) {i i0:Nat} {o:Oper} {ao:AOper} (ho:ops[i0]? = some o) (hao:l[i]? = some ao) (h1:cop P o.op=some ao.op) (h2:cguard ops o.guard=some ao.guard) (h3:ao.dst=o.dst) (h4:dstOk nt o.dst=true)
  (hS:¬ S i) (hr:∀ j ∈ ao.after,S j) (hx:i=x→∀ e o',l[e]? = some o'→o'.op.quiet=false→e < x→S e) {Q:Exit→Act→World→Prop} {K:Act→World→Prop}
  (hK:∀ a' w' p' q' ro' μ',Down l (fun j=>j=i∨S j)→MidAt P nt dv l st w0 ro0 μ0 (fun j=>j=i∨S j) a' w' p' q' ro' μ'→Out w ro μ (st p).2 w' ro' μ' (st p').2→(∀ s,ao.dst≠some s→a'.tmps.getD s undef=a.tmps.getD s undef)→K a' w'):wpOp P ops Q i0 K a w:=by
 obtain ⟨hp,hq,hE,hW,hg,hT,hs,hdf,hout⟩:=hm
 have hput:∀ (v':Value) (s:Nat),ao.dst≠some s→(a.put o.dst v').tmps.getD s undef=a.tmps.getD s undef:=by
  intro v' s hds
  rw [h3] at hds
  cases hod:o.dst with
  | none=>rfl
  | some d=>
   rw [hod] at hds
   have hne:¬ d=s:=fun e=>hds (by rw [e])
   simp only [Act.put,Array.getD_eq_getD_getElem?,Array.getElem?_setIfInBounds,if_neg hne]
 obtain ⟨k1,k2,k3⟩:=okDrawX_at hk hao
 have hil:i < l.length:=(List.getElem?_eq_some_iff.mp hao).1
 have hstep:=hl.step i ao hil hao
 have hfor:∀ {j},(ms.getD i 0).testBit j=true→S j:=fun hj=>hd.bitX hk hao hr hj
 have hback:∀ {j o'},l[j]? = some o'→(ms.getD j 0).testBit i=true→¬ S j:=fun {j o'} hj hb hSj=>hS (hd.bitX hk hj (fun k hk'=>hd j o' hj hSj k hk') hb)
 have hslot:∀ s ∈ ao.slots,(st (q s)).1.get s=(st i).1.get s:=by
  intro s hsl
  rcases Nat.lt_or_ge (q s) i with hlt | hge
  ·refine (hl.get' (Nat.le_of_lt hlt) (Nat.le_of_lt hil) fun j o' hj1 hj2 hj hds=> ?_).symm
   have hns:¬ S j:=fun h=>by have:=(hW j o' s hj hds).mp h; omega
   rcases k3 j o' hj2 hj with hb | hb
   ·exact hns (hfor hb)
   ·exact hb.1 s hds hsl
  ·refine hl.get' hge (hq s) fun j o' hj1 hj2 hj hds=> ?_
   have hSj:S j:=(hW j o' s hj hds).mpr hj2
   rcases Nat.lt_or_ge i j with hij | hij
   ·rcases (okDrawX_at hk hj).2.2 i ao hij hao with hb | hb
    ·exact hback hj hb hSj
    ·exact hb.2.2.1 s hds hsl
   ·have hji:j=i:=by omega
    rw [hji] at hSj; exact hS hSj
 have hTi:TR P w ro μ ((st i).1.keep ao.slots) a.tmps:=⟨fun s v hv=>by
  obtain ⟨b1,b2⟩:=Env.keep_in _ _ _ _ hv
  exact hT s v (by rw [hslot s b1]; exact b2),hg.glob⟩
 have hval:∀ x ∈ ao.op.opnds,((st i).1.keep ao.slots).val x=(st i).1.val x:=by
  intro x hx
  cases x with
  | c v=>rfl
  | t s=>exact Env.keep_get _ _ _ (List.mem_append_left _ (List.mem_flatMap.mpr ⟨_,hx,List.mem_singleton.mpr rfl⟩))
 have hgd:wantedA ((st i).1.keep ao.slots) ao.guard=wantedA (st i).1 ao.guard:=by
  cases hgu:ao.guard with
  | none=>rfl
  | some gb=>
   obtain ⟨g,b⟩:=gb
   have:g ∈ ao.slots:=List.mem_append_right _ (by rw [hgu]; exact List.mem_singleton.mpr rfl)
   simp only [wantedA,Env.keep_get _ _ _ this]
 have hdown':Down l (fun j=>j=i∨S j):=by
  intro j o' hj hSj k hk'
  rcases hSj with rfl | hSj
  ·rw [hao] at hj; cases hj; exact .inr (hr k hk')
  ·exact .inr (hd j o' hj hSj k hk')
 have hW':∀ (j:Nat) o' s,l[j]? = some o'→o'.dst=some s→((j=i∨S j)↔j < (if ao.dst=some s then i+1 else q s)):=by
  intro j o' s hj hds
  by_cases hsi:ao.dst=some s
  ·rw [if_pos hsi]
   rcases Nat.lt_trichotomy j i with hji | hji | hji
   ·refine ⟨fun _=>by omega,fun _=>.inr ?_⟩
    rcases k3 j o' hji hj with hb | hb
    ·exact hfor hb
    ·exact absurd hsi (hb.2.1 s hds)
   ·exact ⟨fun _=>by omega,fun _=>.inl hji⟩
   ·refine ⟨fun h=> ?_,fun h=>by omega⟩
    have hSj:S j:=h.resolve_left (by omega)
    rcases (okDrawX_at hk hj).2.2 i ao hji hao with hb | hb
    ·exact absurd hSj (hback hj hb)
    ·exact absurd hds (hb.2.1 s hsi)
  ·rw [if_neg hsi]
   have hne:j≠i:=by rintro rfl; rw [hao] at hj; cases hj; exact hsi hds
   rw [← hW j o' s hj hds]
   exact ⟨fun h=>h.resolve_left hne,.inr⟩
 have hq':∀ s,(if ao.dst=some s then i+1 else q s)≤l.length:=fun s=>by split <;> first | exact hil | exact hq s
 have hTT:∀ {w1:World} {ro1:Nat→Prop} {μ1:Mu} {v:AVal} {v':Value},(∀ s u,(st (q s)).1.get s=some u→VR P w1 ro1 μ1 u (a.tmps.getD s undef))→VR P w1 ro1 μ1 v v'→(st (i+1)).1=(st i).1.put ao.dst v→
   (∀ s u,(st (if ao.dst=some s then i+1 else q s)).1.get s=some u→VR P w1 ro1 μ1 u ((a.put o.dst v').tmps.getD s undef))∧(a.put o.dst v').tmps.size=nt∧(a.put o.dst v').defers=dv:=by
  intro w1 ro1 μ1 v v' hT1 hv he
  rw [← h3]
  rw [← h3] at h4
  cases hds:ao.dst with
  | none=>exact ⟨fun s u hu=>hT1 s u (by simpa using hu),hs,hdf⟩
  | some d=>
   rw [hds] at h4 he
   simp only [dstOk,decide_eq_true_eq] at h4
   refine ⟨fun s u hu=> ?_,by simp [Act.put,hs],by simp [Act.put,hdf]⟩
   by_cases hsd:s=d
   ·subst hsd
    rw [if_pos rfl,he] at hu
    simp only [Env.put,Env.get_set,if_true] at hu
    cases hu
    simp only [Act.put,Array.getD_eq_getD_getElem?,Array.getElem?_setIfInBounds,if_true,hs,h4]
    exact hv
   ·rw [if_neg (by simpa using Ne.symm hsd)] at hu
    have:=hT1 s u hu
    simp only [Act.put,Array.getD_eq_getD_getElem?,Array.getElem?_setIfInBounds,if_neg (Ne.symm hsd)] at this ⊢
    exact this
 have hget:ops[i0]? = some o:=ho
 simp only [wpOp,hget]
 rcases hstep.wanted with hw | hw
 ·
  have hwt:=wantedA_sound hTi h2 (hgd.trans hw)
  simp only [hwt,if_true]
  have hcong:∀ H,astep ao.op ((st i).1.keep ao.slots) H=astep ao.op (st i).1 H:=fun H=>astep_congr _ _ hval
  cases hqt:ao.op.quiet with
  | true=>
   have hst0:=hstep
   simp only [StepD,hw] at hst0
   cases hsv:astep ao.op (st i).1 (st i).2 with
   | none=>rw [hsv] at hst0; exact hst0.elim
   | some nx=>
    obtain ⟨v,rfl⟩:=astep_quiet hqt hsv
    rw [hsv] at hst0
    obtain ⟨e1,e2⟩:=hst0
    have hsee:astep ao.op (st i).1 (st p).2=some (.value v (st p).2):=by
     rcases Nat.lt_or_ge p i with hlt | hge
     ·refine hl.earlier hao hqt hw hsv (i - p) p (by omega) fun e o' he1 he2 he hqe=> ?_
      cases hb:(ms.getD i 0).testBit e with
      | false=>rfl
      | true=>have:=(hE e o' he hqe).mp (hfor hb); omega
     ·have:=hl.later hao hqt hw hsv (p - i) (by omega) fun e o' he1 he2 he hqe=>by
       cases hb:(ms.getD e 0).testBit i with
       | false=>rfl
       | true=>exact absurd ((hE e o' he hqe).mpr (by omega)) (hback he hb)
      rwa [show i+(p - i)=p by omega] at this
    obtain ⟨v',w1,ro1,μ1,hrun,hv,hg1,ho1⟩:=cop_sound hg hTi h1 ((hcong _).trans hsee)
    have hx:=Out.ext hg ho1
    obtain ⟨t1,t2,t3⟩:=hTT (fun s u hu=>(hT s u hu).ext hx _ _) hv e1
    have hmid:MidAt P nt dv l st w0 ro0 μ0 (fun j=>j=i∨S j) (a.put o.dst v') w1 p _ ro1 μ1:=
     ⟨hp,hq',fun e o' he hqe=>by
      have hne:e≠i:=by rintro rfl; rw [hao] at he; cases he; rw [hqt] at hqe; cases hqe
      rw [← hE e o' he hqe]; exact ⟨fun h=>h.resolve_left hne,.inr⟩,hW',hg1,t1,t2,t3,hout.trans ho1⟩
    refine .inl ?_
    unfold Oper.wp
    rcases hrun with hrun | ⟨hrun,rfl⟩
    ·rw [hrun]; exact hK _ _ _ _ _ _ hdown' hmid ho1 (hput _)
    ·rw [hrun]; exact hK _ _ _ _ _ _ hdown' hmid ho1 (hput _)
  | false=>
   have hEi:∀ (e:Nat) o',l[e]? = some o'→o'.op.quiet=false→e < i→S e:=by
    intro e o' he hqe hei
    rcases k3 e o' hei he with hb | hb
    ·exact hfor hb
    ·rcases hb.2.2.2 with h | h | h
     ·rw [hqe] at h; cases h
     ·rw [hqt] at h; cases h
     ·exact hx h e o' he hqe (h ▸ hei)
   have hEi':∀ (e:Nat) o',l[e]? = some o'→o'.op.quiet=false→i < e→¬ S e:=by
    intro e o' he hqe hei
    intro hSe
    have h1:=(hE e o' he hqe).mp hSe
    exact hS ((hE i ao hao hqt).mpr (by omega))
   have hpi:p≤i:=by
    rcases Nat.lt_or_ge i p with h | h
    ·exact absurd ((hE i ao hao hqt).mpr h) hS
    ·exact h
   have hheap:(st i).2=(st p).2:=hl.heap' hpi (Nat.le_of_lt hil) fun j o' hj1 hj2 hj=>by
    cases hqj:o'.op.quiet with
    | true=>rfl
    | false=>have:=(hE j o' hj hqj).mp (hEi j o' hj hqj hj2); omega
   have hE':∀ (e:Nat) o',l[e]? = some o'→o'.op.quiet=false→((e=i∨S e)↔e < i+1):=by
    intro e o' he hqe
    rcases Nat.lt_trichotomy e i with h | h | h
    ·exact ⟨fun _=>by omega,fun _=>.inr (hEi e o' he hqe h)⟩
    ·exact ⟨fun _=>by omega,fun _=>.inl h⟩
    ·exact ⟨fun hh=>absurd (hh.resolve_left (by omega)) (hEi' e o' he hqe h),fun hh=>by omega⟩
   have hst0:=hstep
   simp only [StepD,hw] at hst0
   cases hsv:astep ao.op (st i).1 (st i).2 with
   | none=>rw [hsv] at hst0; exact hst0.elim
   | some nx=>
    rw [hsv] at hst0
    rw [hheap] at hsv
    cases nx with
    | anyOf _=>exact hst0.elim
    | pan _=>exact hst0.elim
    | dfr _ _=>exact hst0.elim
    | value v H1=>
     obtain ⟨e1,e2⟩:=hst0
     obtain ⟨v',w1,ro1,μ1,hrun,hv,hg1,ho1⟩:=cop_sound hg hTi h1 ((hcong _).trans hsv)
     have hx:=Out.ext hg ho1
     obtain ⟨t1,t2,t3⟩:=hTT (fun s u hu=>(hT s u hu).ext hx _ _) hv e1
     rw [← e2] at hg1 ho1
     have hmid:MidAt P nt dv l st w0 ro0 μ0 (fun j=>j=i∨S j) (a.put o.dst v') w1 (i+1) _ ro1 μ1:=
      ⟨hil,hq',hE',hW',hg1,t1,t2,t3,hout.trans ho1⟩
     refine .inl ?_
     unfold Oper.wp
     rcases hrun with hrun | ⟨hrun,rfl⟩
     ·rw [hrun]; exact hK _ _ _ _ _ _ hdown' hmid ho1 (hput _)
     ·rw [hrun]; exact hK _ _ _ _ _ _ hdown' hmid ho1 (hput _)
    | enter f as=>
     obtain ⟨r,⟨hcb,hcall⟩,e1⟩:=hst0
     rw [hheap] at hcall
     obtain ⟨args,hrun,hargs⟩:=cop_enter (w:=w) hTi h1 ((hcong _).trans hsv) hcb
     refine .inl ?_
     unfold Oper.wp
     rw [hrun]
     show Calls P f args w _
     refine (hcall w ro μ args hg hargs).mono ?_
     rintro e w1 ⟨v',r1,H1,ro1,μ1,rfl,⟨rfl,rfl⟩,hv,hg1,ho1⟩
     have hx:=Out.ext hg ho1
     obtain ⟨t1,t2,t3⟩:=hTT (fun s u hu=>(hT s u hu).ext hx _ _) hv e1
     exact hK _ _ (i+1) _ ro1 μ1 hdown' ⟨hil,hq',hE',hW',hg1,t1,t2,t3,hout.trans ho1⟩ ho1 (hput _)
 ·
  have hwt:=wantedA_sound hTi h2 (hgd.trans hw)
  simp only [hwt,Bool.false_eq_true,if_false]
  have hst0:=hstep
  simp only [StepD,hw] at hst0
  obtain ⟨e1,e2⟩:=hst0
  obtain ⟨t1,t2,t3⟩:=hTT hT (v:=aundef) (v':=undef) ⟨#[],rfl,rfl⟩ e1
  cases hqt:ao.op.quiet with
  | true=>
   exact hK _ _ p _ ro μ hdown' ⟨hp,hq',fun e o' he hqe=>by
      have hne:e≠i:=by rintro rfl; rw [hao] at he; cases he; rw [hqt] at hqe; cases hqe
      rw [← hE e o' he hqe]; exact ⟨fun h=>h.resolve_left hne,.inr⟩,hW',hg,t1,t2,t3,hout⟩ (Out.refl _ _ _ _) (hput undef)
  | false=>
   have hEi:∀ (e:Nat) o',l[e]? = some o'→o'.op.quiet=false→e < i→S e:=by
    intro e o' he hqe hei
    rcases k3 e o' hei he with hb | hb
    ·exact hfor hb
    ·rcases hb.2.2.2 with h | h | h
     ·rw [hqe] at h; cases h
     ·rw [hqt] at h; cases h
     ·exact hx h e o' he hqe (h ▸ hei)
   have hEi':∀ (e:Nat) o',l[e]? = some o'→o'.op.quiet=false→i < e→¬ S e:=by
    intro e o' he hqe hei
    intro hSe
    have h1:=(hE e o' he hqe).mp hSe
    exact hS ((hE i ao hao hqt).mpr (by omega))
   have hpi:p≤i:=by
    rcases Nat.lt_or_ge i p with h | h
    ·exact absurd ((hE i ao hao hqt).mpr h) hS
    ·exact h
   have hheap:(st i).2=(st p).2:=hl.heap' hpi (Nat.le_of_lt hil) fun j o' hj1 hj2 hj=>by
    cases hqj:o'.op.quiet with
    | true=>rfl
    | false=>have:=(hE j o' hj hqj).mp (hEi j o' hj hqj hj2); omega
   have hE':∀ (e:Nat) o',l[e]? = some o'→o'.op.quiet=false→((e=i∨S e)↔e < i+1):=by
    intro e o' he hqe
    rcases Nat.lt_trichotomy e i with h | h | h
    ·exact ⟨fun _=>by omega,fun _=>.inr (hEi e o' he hqe h)⟩
    ·exact ⟨fun _=>by omega,fun _=>.inl h⟩
    ·exact ⟨fun hh=>absurd (hh.resolve_left (by omega)) (hEi' e o' he hqe h),fun hh=>by omega⟩
   rw [hheap] at e2
   exact hK _ _ (i+1) _ ro μ hdown' ⟨hil,hq',hE',hW',by rw [e2]; exact hg,t1,t2,t3,by rw [e2]; exact hout⟩ (by rw [e2]; exact Out.refl _ _ _ _) (hput undef)
def Flo (P:Program) (n0:Nat) (w:World) (ro:Nat→Prop) (μ:Mu) (H:AHeap) (k:TypeId) (z:AVal) (v:Value):Prop:=
 ∃ b zv,v = .pointer (some ⟨b,0,none⟩)∧w.heap[b]? = some (Obj.cells zv k (0,0))∧z.cells.length=zv.size∧(∀ w' ro' μ',VRs P w' ro' μ' z.cells zv.toList)∧n0≤b∧¬ ro b∧¬ Lv μ H b
theorem Flo.out {P:Program} {n0:Nat} {w w':World} {ro ro':Nat→Prop} {μ μ':Mu} {H H':AHeap} {k:TypeId} {z:AVal} {v:Value} (h:Flo P n0 w ro μ H k z v) (ho:Out w ro μ H w' ro' μ' H'):Flo P n0 w' ro' μ' H' k z v:=by
 obtain ⟨b,zv,e,hb,hl,hz,hn,hr,hm⟩:=h
 have hlt:b < w.heap.size:=(Array.getElem?_eq_some_iff.1 hb).1
 refine ⟨b,zv,e,(ho.keep.same b hlt hm).trans hb,hl,hz,hn,fun h=> ?_,fun h=> ?_⟩
 ·rcases ho.roNew b h with x | x | x
  ·exact hr x
  ·exact hm x
  ·omega
 ·rcases ho.lv b h with x | x
  ·exact hm x
  ·omega
theorem Flo.adopt {P:Program} {w0 w:World} {ro0 ro:Nat→Prop} {μ0 μ:Mu} {H0 H:AHeap} {k:TypeId} {z:AVal} {v:Value} (h:Flo P w0.heap.size w ro μ H k z v) (hg:Good P w ro μ H) (ho:Out w0 ro0 μ0 H0 w ro μ H) :
  ∃ μ',Good P w ro μ' (H.push (.cells k z.cells))∧Ext w ro μ w ro μ'∧VR P w ro μ' (.ptr H.next 0) v∧Out w0 ro0 μ0 H0 w ro μ' (H.push (.cells k z.cells)):=by
 obtain ⟨b,zv,rfl,hb,hl,hz,hn,hr,hm⟩:=h
 have hlt:b < w.heap.size:=(Array.getElem?_eq_some_iff.1 hb).1
 have hold:∀ id,id < H.next→(μ.put H.next b 0) id=μ id:=fun id hi=>by unfold Mu.put; rw [if_neg (by omega)]
 have hext:Ext w ro μ w ro (μ.put H.next b 0):=⟨fun _ h=>h,fun id b' o hid=>by
  unfold Mu.put; rw [if_neg (fun e=>by subst e; rw [hg.new _ (Nat.le_refl _)] at hid; cases hid)]; exact hid,fun _ _=>rfl,fun _ c _ fr h=>⟨c,fr,h,rfl⟩⟩
 have hnew:(μ.put H.next b 0) H.next=some (b,0):=by simp [Mu.put]
 refine ⟨μ.put H.next b 0,⟨fun id k' b' base hk hid=> ?_,fun id b' base hid=> ?_,fun id k' b' base hk hid=> ?_,fun i j ki kj b' oi oj hi hj mi mj=> ?_,fun id hid=> ?_,hg.rolt,hg.glob⟩,hext,⟨b,0,hnew,rfl⟩,?_⟩
 ·rw [AHeap.get_push] at hk
  split at hk
  ·rename_i e; subst e
   rw [hnew] at hid; injection hid with hid; injection hid with h1 h2; subst h1; subst h2
   injection hk with hk; subst hk
   refine ⟨zv,(0,0),hb,by omega,fun i _ hi=>by simp,?_⟩
   rw [VRat_iff]
   intro i a ha
   have hi:i < zv.size:=by rw [← hl]; exact (List.getElem?_eq_some_iff.1 ha).1
   refine ⟨zv[i],by simp [World.cell?,hb,hi],?_⟩
   exact ((VRs_iff _ _).1 (hz w ro (μ.put H.next b 0))).2 i a _ ha (by simp [hi])
  ·rename_i e
   have hlt':=AHeap.get_lt hk
   rw [hold id hlt'] at hid
   exact (hg.blk id k' b' base hk hid).ext hext rfl
 ·unfold Mu.put at hid
  split at hid
  ·injection hid with hid; injection hid with h1 h2; omega
  ·exact hg.lt id b' base hid
 ·rw [AHeap.get_push] at hk
  split at hk
  ·rename_i e; subst e
   rw [hnew] at hid; injection hid with hid; injection hid with h1 h2; subst h1; exact hr
  ·have hlt':=AHeap.get_lt hk
   rw [hold id hlt'] at hid
   exact hg.nro id k' b' base hk hid
 ·rw [AHeap.get_push] at hi hj
  split at hi <;> split at hj
  ·rename_i e1 e2; rw [e1,e2]
  ·rename_i e1 e2; subst e1
   rw [hnew] at mi; injection mi with mi; injection mi with h1 h2; subst h1
   rw [hold j (AHeap.get_lt hj)] at mj
   exact absurd ⟨j,kj,oj,hj,mj⟩ hm
  ·rename_i e1 e2; subst e2
   rw [hnew] at mj; injection mj with mj; injection mj with h1 h2; subst h1
   rw [hold i (AHeap.get_lt hi)] at mi
   exact absurd ⟨i,ki,oi,hi,mi⟩ hm
  ·rw [hold i (AHeap.get_lt hi)] at mi
   rw [hold j (AHeap.get_lt hj)] at mj
   exact hg.inj i j ki kj b' oi oj hi hj mi mj
 ·simp at hid
  unfold Mu.put; rw [if_neg (by omega)]; exact hg.new id (by omega)
 ·refine ⟨Nat.le_trans ho.next (by simp),fun id hi=>(hold id (Nat.lt_of_lt_of_le hi ho.next)).trans (ho.same id hi),ho.roLe,ho.roNew,fun b' hb'=> ?_,ho.keep⟩
  obtain ⟨id,k',base,hk,hid⟩:=hb'
  rw [AHeap.get_push] at hk
  split at hk
  ·rename_i e; subst e
   rw [hnew] at hid; injection hid with hid; injection hid with h1 h2; subst h1; exact .inr hn
  ·have hlt':=AHeap.get_lt hk
   rw [hold id hlt'] at hid
   exact ho.lv b' ⟨id,k',base,hk,hid⟩
theorem zero_any {P:Program} {t:TypeId} {z:AVal} (h:zeroOf P t=some z) (w:World):∃ zv,(zeroValue t).run P w = .ok zv w∧∀ w' ro' μ',VR P w' ro' μ' z zv:=by
 obtain ⟨zv,hr,_,he⟩:=zeroOf_sound h w (ro:=fun _=>False) (μ:=fun _=>none)
 refine ⟨zv,hr,fun w' ro' μ'=> ?_⟩
 obtain ⟨zv',_,hv,he'⟩:=zeroOf_sound h w' (ro:=ro') (μ:=μ')
 rw [he] at he'; injection he' with he'; subst he'; exact hv
end Go.Am
namespace Go.Am
open Go.RowKit
theorem cop_alloc' {P:Program} {ao:AOp} {op:Op} {k:TypeId} {z:AVal} (hc:cop P op=some ao) (h:ao = .alloc k z):op = .alloc k∧zeroOf P k=some z:=by
 have no:∀ {b:AOp},some b=some ao→(∀ k z,b≠.alloc k z)→False:=by
  intro b hb h1
  injection hb with hb; subst hb
  exact h1 _ _ h
 cases op <;> simp only [cop] at hc
 case alloc e=>
  obtain ⟨z',hz,hc⟩:=bind_some hc
  injection hc with hc; rw [h] at hc; injection hc with h1 h2; subst h1; subst h2
  exact ⟨rfl,hz⟩
 case call c=>
  exfalso
  unfold ccall at hc
  repeat' (first | (cases hc; done) | (exact no hc (by simp)) | (obtain ⟨_,_,hc⟩:=bind_some hc) | (obtain ⟨_,_,rfl⟩:=map_some hc; exact no rfl (by simp)) | split at hc)
 case makeMap t r=>exfalso; cases r <;> simp only [cop] at hc <;> first | (cases hc; done) | exact no hc (by simp)
 case next x b=>exfalso; cases b <;> simp only [cop] at hc <;> first | (cases hc; done) | (obtain ⟨_,_,rfl⟩:=map_some hc; exact no rfl (by simp))
 all_goals (exfalso; repeat' (first | (cases hc; done) | (exact no hc (by simp)) | (obtain ⟨_,_,hc⟩:=bind_some hc) | (obtain ⟨_,_,rfl⟩:=map_some hc; exact no rfl (by simp)) | split at hc))
theorem cop_alloc {P:Program} {op:Op} {k:TypeId} {z:AVal} (hc:cop P op=some (.alloc k z)):op = .alloc k∧zeroOf P k=some z:=cop_alloc' hc rfl
theorem amask_of_mem {as ms:List Nat} {j:Nat} (h:j ∈ as):(amask as ms).testBit j=true:=by
 induction as with
 | nil=>cases h
 | cons a r ih=>
  simp only [amask,List.foldr_cons]
  rw [Nat.testBit_or,Nat.testBit_or,Nat.shiftLeft_eq,Nat.one_mul,Nat.testBit_two_pow]
  rcases List.mem_cons.mp h with rfl | h
  ·simp
  ·have:=ih h
   simp only [amask] at this
   rw [this]; simp
def okX (x:Nat) (l:List AOper) (ms:List Nat):Bool:=
 okDrawX x l ms&&(match l[x]? with
  | some ⟨some d,.alloc _ _,none,_⟩=>(List.range l.length).all fun j=>j==x || (match l[j]? with
   | some o=>o.dst != some d
   | none=>true)
  | _=>false)&&
 (List.range l.length).all fun i=> !((ms.getD i 0).testBit x) || (List.range x).all fun e=>match l[e]? with
  | some o=>o.op.quiet || (ms.getD i 0).testBit e
  | none=>true
theorem okX_at {x:Nat} {l:List AOper} {ms:List Nat} (h:okX x l ms=true):okDrawX x l ms=true∧(∃ d k z af,l[x]? = some ⟨some d,.alloc k z,none,af⟩∧∀ j o,l[j]? = some o→j≠x→o.dst≠some d)∧
  ∀ i o e o',l[i]? = some o→(ms.getD i 0).testBit x=true→e < x→l[e]? = some o'→o'.op.quiet=false→(ms.getD i 0).testBit e=true:=by
 simp only [okX,Bool.and_eq_true] at h
 obtain ⟨⟨h1,h2⟩,h3⟩:=h
 refine ⟨h1,?_,fun i o e o' hi hb he ho' hq=> ?_⟩
 ·split at h2
  ·rename_i d k z af hx
   refine ⟨d,k,z,af,hx,fun j o hj hne=> ?_⟩
   have:=List.all_eq_true.mp h2 j (List.mem_range.mpr (List.getElem?_eq_some_iff.mp hj).1)
   rw [hj] at this
   simp only [Bool.or_eq_true,beq_iff_eq,bne_iff_ne] at this
   exact this.resolve_left hne
  ·cases h2
 ·have:=List.all_eq_true.mp h3 i (List.mem_range.mpr (List.getElem?_eq_some_iff.mp hi).1)
  rw [hb] at this
  simp only [Bool.not_true,Bool.false_or] at this
  have:=List.all_eq_true.mp this e (List.mem_range.mpr he)
  rw [ho'] at this
  simpa [hq] using this
section
variable {P:Program} {nt:Nat} {dv:List Deferred} {ms:List Nat} {l:List AOper} {st:Nat→Env × AHeap} {w0:World} {ro0:Nat→Prop} {μ0:Mu}
def InvX (P:Program) (nt:Nat) (dv:List Deferred) (l:List AOper) (st:Nat→Env × AHeap) (w0:World) (ro0:Nat→Prop) (μ0:Mu) (x d:Nat) (k:TypeId) (z:AVal) (S:Nat→Prop) (a:Act) (w:World):Prop:=
 Down l S∧((∃ p q ro μ,MidAt P nt dv l st w0 ro0 μ0 S a w p q ro μ)∨
  (S x∧(∃ e o,e < x∧l[e]? = some o∧o.op.quiet=false∧¬ S e)∧∃ p q ro μ,MidAt P nt dv l st w0 ro0 μ0 (fun j=>S j∧j≠x) a w p q ro μ∧Flo P w0.heap.size w ro μ (st p).2 k z (a.tmps.getD d undef)))
theorem MidAt.congr {S S':Nat→Prop} {a:Act} {w:World} {p:Nat} {q:Nat→Nat} {ro:Nat→Prop} {μ:Mu} (h:MidAt P nt dv l st w0 ro0 μ0 S a w p q ro μ) (he:∀ (i:Nat) (o:AOper),l[i]? = some o→(S' i↔S i)):MidAt P nt dv l st w0 ro0 μ0 S' a w p q ro μ:=
 ⟨h.1,h.2.1,fun e o ho hq=>(he e o ho).trans (h.2.2.1 e o ho hq),fun i o s ho hs=>(he i o ho).trans (h.2.2.2.1 i o s ho hs),h.2.2.2.2⟩
theorem Down.congr {S S':Nat→Prop} (h:Down l S) (haft:∀ (i:Nat) (o:AOper),l[i]? = some o→∀ j ∈ o.after,j < i) (he:∀ (i:Nat) (o:AOper),l[i]? = some o→(S' i↔S i)):Down l S':=fun i o ho hi j hj=>by
 have hji:=haft i o ho j hj
 have hlt:j < l.length:=Nat.lt_trans hji (List.getElem?_eq_some_iff.mp ho).1
 exact (he j _ (List.getElem?_eq_getElem hlt)).mpr (h i o ho ((he i o ho).mp hi) j hj)
theorem InvX.congr {x d:Nat} {k:TypeId} {z:AVal} {S S':Nat→Prop} {a:Act} {w:World} (h:InvX P nt dv l st w0 ro0 μ0 x d k z S a w) (hx:x < l.length) (haft:∀ (i:Nat) (o:AOper),l[i]? = some o→∀ j ∈ o.after,j < i) (he:∀ (i:Nat) (o:AOper),l[i]? = some o→(S' i↔S i)):InvX P nt dv l st w0 ro0 μ0 x d k z S' a w:=by
 refine ⟨h.1.congr haft he,?_⟩
 rcases h.2 with ⟨p,q,ro,μ,hm⟩ | ⟨h1,⟨e,o,h2,h3,h4,h5⟩,p,q,ro,μ,hm,hf⟩
 ·exact .inl ⟨p,q,ro,μ,hm.congr he⟩
 ·exact .inr ⟨(he x _ (List.getElem?_eq_getElem hx)).mpr h1,⟨e,o,h2,h3,h4,fun h=>h5 ((he e o h3).mp h)⟩,p,q,ro,μ,hm.congr fun i o ho=>⟨fun ⟨a,b⟩=>⟨(he i o ho).mp a,b⟩,fun ⟨a,b⟩=>⟨(he i o ho).mpr a,b⟩⟩,hf⟩
theorem MidAt.adopt {x d:Nat} {k:TypeId} {z:AVal} {af:List Nat} (hl:Line P ms l st l.length) (hlx:l[x]? = some ⟨some d,.alloc k z,none,af⟩) (hdx:∀ j o,l[j]? = some o→j≠x→o.dst≠some d) {S:Nat→Prop} {a:Act} {w:World} {p:Nat} {q:Nat→Nat} {ro:Nat→Prop} {μ:Mu}
  (hm:MidAt P nt dv l st w0 ro0 μ0 (fun j=>S j∧j≠x) a w p q ro μ) (hSx:S x) (hall:∀ e o,e < x→l[e]? = some o→o.op.quiet=false→S e) (hf:Flo P w0.heap.size w ro μ (st p).2 k z (a.tmps.getD d undef)):∃ p q ro μ,MidAt P nt dv l st w0 ro0 μ0 S a w p q ro μ:=by
 obtain ⟨hp,hq,hE,hW,hg,hT,hs,hdf,hout⟩:=hm
 have hxl:x < l.length:=(List.getElem?_eq_some_iff.mp hlx).1
 have hpx:p≤x:=by
  rcases Nat.lt_or_ge x p with h | h
  ·exact absurd rfl ((hE x _ hlx rfl).mpr h).2
  ·exact h
 have hno:∀ e o,p≤e→e < x→l[e]? = some o→o.op.quiet=true:=by
  intro e o h1 h2 ho
  cases hqo:o.op.quiet with
  | true=>rfl
  | false=>have:=(hE e o ho hqo).mp ⟨hall e o h2 ho hqo,by omega⟩; omega
 have hH:(st x).2=(st p).2:=hl.heap' hpx (Nat.le_of_lt hxl) hno
 have hstep:=hl.step x _ hxl hlx
 simp only [StepD,wantedA,astep] at hstep
 obtain ⟨e1,e2⟩:=hstep
 rw [hH] at e1 e2
 obtain ⟨μ',g1,hext,hv,ho'⟩:=hf.adopt hg hout
 rw [← e2] at g1 ho'
 refine ⟨x+1,fun s=>if s=d then x+1 else q s,ro,μ',hxl,fun s=>by show (if s=d then x+1 else q s)≤l.length; split <;> first | exact hxl | exact hq s,fun e o he hqe=> ?_,fun i o s hi hs=> ?_,g1,fun s v hsv=> ?_,hs,hdf,ho'⟩
 ·rcases Nat.lt_trichotomy e x with h | h | h
  ·exact ⟨fun _=>by omega,fun _=>hall e o h he hqe⟩
  ·subst h; exact ⟨fun _=>by omega,fun _=>hSx⟩
  ·refine ⟨fun hS=> ?_,fun h=>by omega⟩
   have:=(hE e o he hqe).mp ⟨hS,by omega⟩; omega
 ·by_cases hsd:s=d
  ·subst hsd
   have hix:i=x:=by
    rcases Classical.em (i=x) with h | h
    ·exact h
    ·exact absurd hs (hdx i o hi h)
   subst hix
   simp only [if_true]
   exact ⟨fun _=>by omega,fun _=>hSx⟩
  ·have hne:i≠x:=by
    rintro rfl
    rw [hlx] at hi; cases hi
    injection hs with hs; exact hsd hs.symm
   simp only [if_neg hsd]
   rw [← hW i o s hi hs]
   exact ⟨fun h=>⟨h,hne⟩,fun h=>h.1⟩
 ·by_cases hsd:s=d
  ·subst hsd
   simp only [if_true] at hsv
   rw [e1] at hsv
   simp only [Env.put,Env.get_set,if_true] at hsv
   injection hsv with hsv; subst hsv; exact hv
  ·simp only [if_neg hsd] at hsv
   exact (hT s v hsv).ext hext _ _
theorem InvX.go {ops:Array Oper} {x d:Nat} {k:TypeId} {z:AVal} {af:List Nat} (hok:okX x l ms=true) (hl:Line P ms l st l.length) (hlx:l[x]? = some ⟨some d,.alloc k z,none,af⟩) (hd0:(st 0).1.get d=none) (hdx:∀ j o,l[j]? = some o→j≠x→o.dst≠some d)
  {S:Nat→Prop} {a:Act} {w:World} (hI:InvX P nt dv l st w0 ro0 μ0 x d k z S a w) {i:Nat} {o:Oper} {ao:AOper} (ho:ops[i]? = some o) (hao:l[i]? = some ao) (hco:coper P nt ops o=some ao) (hS:¬ S i) (hr:∀ j ∈ ao.after,S j)
  {Q:Exit→Act→World→Prop} {K:Act→World→Prop} (hK:∀ a w,InvX P nt dv l st w0 ro0 μ0 x d k z (fun j=>j=i∨S j) a w→K a w):wpOp P ops Q i K a w:=by
 obtain ⟨h1,h2,h3,h4⟩:=coper_inv hco
 obtain ⟨hk,_,hbit⟩:=okX_at hok
 have haft:∀ (i:Nat) (o:AOper),l[i]? = some o→∀ j ∈ o.after,j < i:=fun i o ho=>(okDrawX_at hk ho).1
 obtain ⟨hdn,hI⟩:=hI
 have hdn':Down l (fun j=>j=i∨S j):=by
  intro j o' hj hSj m hm
  rcases hSj with rfl | hSj
  ·rw [hao] at hj; cases hj; exact .inr (hr m hm)
  ·exact .inr (hdn j o' hj hSj m hm)
 rcases hI with ⟨p,q,ro,μ,hm⟩ | ⟨hSx,⟨e0,o0,he0,hoe0,hqe0,hSe0⟩,p,q,ro,μ,hm,hf⟩
 ·by_cases hearly:i=x∧∃ e o,e < x∧l[e]? = some o∧o.op.quiet=false∧¬ S e
  ·obtain ⟨rfl,e0,o0,he0,hoe0,hqe0,hSe0⟩:=hearly
   rw [hlx] at hao; cases hao
   obtain ⟨hoa,hz⟩:=cop_alloc h1
   obtain ⟨zv,hzr,hzv⟩:=zero_any hz w
   obtain ⟨hp,hq,hE,hW,hg,hT,hs,hdf,hout⟩:=hm
   have hh:w.heap.push (.cells zv.cells k (0,0))=(w.alloc (.cells zv.cells k)).heap:=rfl
   have hk1:Keep w (w.alloc (.cells zv.cells k)) (Lv μ (st p).2):=Keep.push (o:=.cells zv.cells k (0,0)) rfl rfl rfl rfl
   obtain ⟨hg1,ho1⟩:=hg.step (w':=w.alloc (.cells zv.cells k)) (μ':=μ) (H':=(st p).2) hk1 (Nat.le_refl _) (fun _ _=>rfl) hg.new (fun id b base h=>Nat.lt_of_lt_of_le (hg.lt id b base h) hk1.size)
    (fun id k' b base h5 h6=>.inl ⟨h5,h6,by
     have:=hg.lt id b base h6
     rw [← hh,Array.getElem?_push,if_neg (by omega)]⟩) hg.inj
   have hx:=Out.ext hg ho1
   have hget:ops[i]? = some o:=ho
   have hwt:Region.wanted o (yielded ops a.tmps)=true:=wantedA_sound (μ:=μ) (T:=[]) ⟨fun s v h=>by simp [Env.get] at h,hg.glob⟩ h2 rfl
   have hdst:o.dst=some d:=h3.symm
   rw [hdst] at h4
   simp only [dstOk,decide_eq_true_eq] at h4
   have hd1:∀ s,s≠d→(a.put o.dst (.pointer (some ⟨w.heap.size,0,none⟩))).tmps.getD s undef=a.tmps.getD s undef:=by
    intro s hs
    rw [hdst]
    simp only [Act.put,Array.getD_eq_getD_getElem?,Array.getElem?_setIfInBounds,if_neg (Ne.symm hs)]
   have hd2:(a.put o.dst (.pointer (some ⟨w.heap.size,0,none⟩))).tmps.getD d undef = .pointer (some ⟨w.heap.size,0,none⟩):=by
    rw [hdst]
    simp only [Act.put,Array.getD_eq_getD_getElem?,Array.getElem?_setIfInBounds,if_true,hs,h4,Option.getD_some]
   have hcx:=(hzv w ro μ).cells
   have hkey:InvX P nt dv l st w0 ro0 μ0 i d k z (fun j=>j=i∨S j) (a.put o.dst (.pointer (some ⟨w.heap.size,0,none⟩))) (w.alloc (.cells zv.cells k)):=by
    refine ⟨hdn',.inr ⟨.inl rfl,⟨e0,o0,he0,hoe0,hqe0,fun h=>h.elim (fun h=>by omega) hSe0⟩,p,q,ro,μ,⟨hp,hq,fun e o he hqe=> ?_,fun j o s hj hsj=> ?_,hg1,fun s v hsv=> ?_,by simp [Act.put,hdst,hs],by simp [Act.put,hdst,hdf],hout.trans ho1⟩,?_⟩⟩
    ·rw [← hE e o he hqe]
     exact ⟨fun ⟨h,hn⟩=>h.resolve_left hn,fun h=>⟨.inr h,fun e'=>hS (e' ▸ h)⟩⟩
    ·rw [← hW j o s hj hsj]
     exact ⟨fun ⟨h,hn⟩=>h.resolve_left hn,fun h=>⟨.inr h,fun e'=>hS (e' ▸ h)⟩⟩
    ·by_cases hsd:s=d
     ·subst hsd
      have:(st (q s)).1.get s=(st 0).1.get s:=hl.get' (Nat.zero_le _) (hq s) fun j o' h5 h6 hj hds=>by
       rcases Classical.em (j=i) with h | h
       ·subst h; exact hS ((hW j o' s hj hds).mpr h6)
       ·exact hdx j o' hj h hds
      rw [this,hd0] at hsv; cases hsv
     ·rw [hd1 s hsd]
      exact (hT s v hsv).ext hx _ _
    ·rw [hd2]
     refine ⟨w.heap.size,zv.cells,rfl,by rw [← hh]; simp,by have:=hcx.len; simpa using this,fun w' ro' μ'=>(hzv w' ro' μ').cells,hout.keep.size,fun h=>absurd (hg.rolt _ h) (by omega),fun ⟨id,k',base,h5,h6⟩=>absurd (hg.lt id _ base h6) (by omega)⟩
   simp only [wpOp,hget,hwt,if_true]
   refine .inl ?_
   unfold Oper.wp
   have hrun:(Instr.alloc k true (.tuple #[])).run P w = .ok (.pointer (some ⟨w.heap.size,0,none⟩)) (w.alloc (.cells zv.cells k)):=by
    simp [Instr.alloc,hzr,newVar,newRow]
   have hx2:(execOp a.eval o).run P w = .ok (.value (.pointer (some ⟨w.heap.size,0,none⟩))) (w.alloc (.cells zv.cells k)):=by
    simp [execOp,hoa,hrun]
   rw [hx2]
   exact hK _ _ hkey
  ·refine hm.go hk hl hdn ho hao h1 h2 h3 h4 hS hr (fun hix e o' he hqe hex=> ?_) fun a' w' p' q' ro' μ' hd' hm' ho' hs'=>hK a' w' ⟨hd',.inl ⟨p',q',ro',μ',hm'⟩⟩
   rcases Classical.em (S e) with h | h
   ·exact h
   ·exact absurd ⟨hix,e,o',hex,he,hqe,h⟩ hearly
 ·have hix:i≠x:=fun e=>hS (e ▸ hSx)
  have hnx:∀ (j:Nat) (o':AOper),l[j]? = some o'→(∀ m ∈ o'.after,S m)→x ∉ o'.after:=by
   intro j o' hj hm hxm
   have hb:(ms.getD j 0).testBit x=true:=by rw [(okDrawX_at hk hj).2.1]; exact amask_of_mem hxm
   have:=hbit j o' e0 o0 hj hb he0 hoe0 hqe0
   exact hSe0 (hdn.bitX hk hj hm this)
  have hdS:Down l (fun j=>S j∧j≠x):=fun j o' hj hSj m hm=>⟨hdn j o' hj hSj.1 m hm,fun e=>hnx j o' hj (hdn j o' hj hSj.1) (e ▸ hm)⟩
  refine hm.go hk hl hdS ho hao h1 h2 h3 h4 (fun h=>hS h.1) (fun m hm=>⟨hr m hm,fun e=>hnx i ao hao hr (e ▸ hm)⟩) (fun e=>absurd e hix) fun a' w' p' q' ro' μ' hd' hm' ho' hs'=>hK a' w' ⟨hdn',?_⟩
  have hm2:MidAt P nt dv l st w0 ro0 μ0 (fun j=>(j=i∨S j)∧j≠x) a' w' p' q' ro' μ':=hm'.congr fun j o' hj=>⟨fun ⟨h,hn⟩=>h.imp id fun h=>⟨h,hn⟩,fun h=>h.elim (fun h=>⟨.inl h,h ▸ hix⟩) fun h=>⟨.inr h.1,h.2⟩⟩
  have hf2:Flo P w0.heap.size w' ro' μ' (st p').2 k z (a'.tmps.getD d undef):=by rw [hs' d (hdx i ao hao hix)]; exact hf.out ho'
  by_cases hex:∃ e o,e < x∧l[e]? = some o∧o.op.quiet=false∧¬ (e=i∨S e)
  ·exact .inr ⟨.inr hSx,hex,p',q',ro',μ',hm2,hf2⟩
  ·refine .inl (MidAt.adopt hl hlx hdx hm2 (.inr hSx) (fun e o' he hoe hqe=> ?_) hf2)
   rcases Classical.em (e=i∨S e) with h | h
   ·exact h
   ·exact absurd ⟨e,o',he,hoe,hqe,h⟩ hex
end
section
variable {P:Program} {ks:Keeps} {nt:Nat} {k:List AItem} {T:Env} {H:AHeap} {K:Env→AHeap→Prop}
end
end Go.Am
