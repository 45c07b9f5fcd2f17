/- The rule of regions whose order is drawn: its soundness. -/
import Derived.Test.YtmoimchdhgoeeaaDoorAm22
set_option linter.unusedVariables false
set_option linter.unusedSimpArgs false
namespace Go.Am
open Go.RowKit
theorem copers_at {P:Program} {nt:Nat} {ops:Array Oper}:∀ {r:List Oper} {l:List AOper},copers P nt ops r=some l→r.length=l.length∧∀ (i:Nat) (o:Oper),r[i]? = some o→∃ ao,l[i]? = some ao∧coper P nt ops o=some ao
 | [],l,h=>by
  simp only [copers] at h; injection h with h; subst h
  exact ⟨rfl,fun i o ho=>by simp at ho⟩
 | x::r,l,h=>by
  simp only [copers] at h
  obtain ⟨ao,hao,h⟩:=bind_some h
  obtain ⟨l',hl',h⟩:=bind_some h
  injection h with h; subst h
  obtain ⟨k1,k2⟩:=copers_at hl'
  refine ⟨by simp [k1],fun i o ho=> ?_⟩
  cases i with
  | zero=>simp only [List.getElem?_cons_zero,Option.some.injEq] at ho; subst ho; exact ⟨ao,by simp,hao⟩
  | succ i=>simp only [List.getElem?_cons_succ] at ho ⊢; exact k2 i o ho
theorem coper_after {P:Program} {nt:Nat} {ops:Array Oper} {o:Oper} {ao:AOper} (h:coper P nt ops o=some ao):ao.after=(o.after.toList.filter (Region.binds .any)).map (·.on):=by
 unfold coper at h
 obtain ⟨op,h1,h⟩:=bind_some h
 obtain ⟨g,h2,h⟩:=bind_some h
 split at h
 ·cases h
 ·injection h with h; subst h; rfl
theorem Env.keep_in (T:Env):∀ (l:List Nat) (s:Nat) (v:AVal),(T.keep l).get s=some v→s ∈ l∧T.get s=some v:=by
 intro l s v h
 refine ⟨?_,Env.get_keep T l s v h⟩
 induction l with
 | nil=>simp [Env.keep,Env.get] at h
 | cons a r ih=>
  simp only [Env.keep] at h
  split at h
  ·simp only [Env.get] at h
   split at h
   ·rename_i e; rw [e]; exact List.mem_cons_self
   ·exact List.mem_cons_of_mem _ (ih h)
  ·exact List.mem_cons_of_mem _ (ih h)
theorem Env.keep_get (T:Env):∀ (l:List Nat) (s:Nat),s ∈ l→(T.keep l).get s=T.get s:=by
 intro l s h
 induction l with
 | nil=>cases h
 | cons a r ih=>
  simp only [Env.keep]
  rcases List.mem_cons.mp h with e | h
  ·subst e
   cases hs:T.get s with
   | none=>
    simp only
    cases hk:(T.keep r).get s with
    | none=>rfl
    | some v=>rw [(Env.keep_in T r s v hk).2] at hs; cases hs
   | some v=>simp only [Env.get,if_true]
  ·cases ha:T.get a with
   | none=>simp only; exact ih h
   | some u=>
    simp only [Env.get]
    split
    ·rename_i e; subst e; exact ha.symm
    ·exact ih h
theorem Good.drawn {P:Program} {w:World} {ro:Nat→Prop} {μ:Mu} {H:AHeap} (h:Good P w ro μ H) (n:Nat):Good P { w with drawn:=n } ro μ H:=by
 have he:Ext w ro μ { w with drawn:=n } ro μ:=⟨fun _ h=>h,fun _ _ _ h=>h,fun _ _=>rfl,fun _ c _ fr h=>⟨c,fr,h,rfl⟩⟩
 exact ⟨fun id k b base h1 h2=>BR.ext he rfl (h.blk id k b base h1 h2),h.lt,h.nro,h.inj,h.new,h.rolt,h.glob.ext he⟩
theorem Out.drawn (w:World) (ro:Nat→Prop) (μ:Mu) (H:AHeap) (n:Nat):Out w ro μ H { w with drawn:=n } ro μ H:=
 ⟨Nat.le_refl _,fun _ _=>rfl,fun _ h=>h,fun _ h=>.inl h,fun _ h=>.inl h,⟨Nat.le_refl _,fun _ _ _=>rfl,fun _ c _ fr h=>⟨c,fr,h,rfl⟩,rfl,rfl,rfl⟩⟩
structure Mid (P:Program) (nt:Nat) (dv:List Deferred) (l:List AOper) (st:Nat→Env × AHeap) (w0:World) (ro0:Nat→Prop) (μ0:Mu) (S:Nat→Prop) (a:Act) (w:World):Prop where
 down:Down l S
 mid:∃ (p:Nat) (q:Nat→Nat) (ro:Nat→Prop) (μ:Mu),p≤l.length∧(∀ s,q s≤l.length)∧(∀ (e:Nat) o,l[e]? = some o→o.op.quiet=false→(S e↔e < p))∧
  (∀ (i:Nat) o s,l[i]? = some o→o.dst=some s→(S i↔i < q s))∧Good P w ro μ (st p).2∧(∀ s v,(st (q s)).1.get s=some v→VR P w ro μ v (a.tmps.getD s undef))∧
  a.tmps.size=nt∧a.defers=dv∧Out w0 ro0 μ0 (st 0).2 w ro μ (st p).2
theorem apart_inv {q o:AOper} (h:apart q o=true):(∀ d,q.dst=some d→d ∉ o.slots)∧(∀ d,q.dst=some d→o.dst≠some d)∧(∀ d,o.dst=some d→d ∉ q.slots)∧(q.op.quiet=true∨o.op.quiet=true):=by
 simp only [apart,Bool.and_eq_true,Bool.or_eq_true] at h
 obtain ⟨⟨h1,h2⟩,h3⟩:=h
 refine ⟨fun d hd=> ?_,fun d hd=> ?_,fun d hd=> ?_,h3⟩
 ·rw [hd] at h1; simp at h1; exact h1.1
 ·rw [hd] at h1; simp at h1; exact h1.2
 ·rw [hd] at h2; simp at h2; exact h2
theorem Mid.goAt {P:Program} {nt:Nat} {dv:List Deferred} {ms:List Nat} {l:List AOper} {st:Nat→Env × AHeap} {ops:Array Oper} (hk:okDraw l ms=true) (hl:Line P ms l st l.length)
  {w0:World} {ro0:Nat→Prop} {μ0:Mu} {S:Nat→Prop} {a:Act} {w:World} (hm:Mid P nt dv l st w0 ro0 μ0 S a w) {i i0:Nat} {o:Oper} {ao:AOper} (ho:ops[i0]? = some o) (hao:l[i]? = some ao) (h1:cop P o.op=some ao.op) (h2:cguard ops o.guard=some ao.guard) (h3:ao.dst=o.dst) (h4:dstOk nt o.dst=true)
  (hS:¬ S i) (hr:∀ j ∈ ao.after,S j) {Q:Exit→Act→World→Prop} {K:Act→World→Prop} (hK:∀ a w,Mid P nt dv l st w0 ro0 μ0 (fun j=>j=i∨S j) a w→K a w):wpOp P ops Q i0 K a w:=by
 obtain ⟨hd,p,q,ro,μ,hp,hq,hE,hW,hg,hT,hs,hdf,hout⟩:=hm
 obtain ⟨k1,k2,k3⟩:=okDraw_at hk hao
 have hil:i < l.length:=(List.getElem?_eq_some_iff.mp hao).1
 have hstep:=hl.step i ao hil hao
 have hfor:∀ {j},(ms.getD i 0).testBit j=true→S j:=fun hj=>hd.bit hk hao hr hj
 have hback:∀ {j o'},l[j]? = some o'→(ms.getD j 0).testBit i=true→¬ S j:=fun {j o'} hj hb hSj=>hS (hd.bit hk hj (fun k hk'=>hd j o' hj hSj k hk') hb)
 have hslot:∀ s ∈ ao.slots,(st (q s)).1.get s=(st i).1.get s:=by
  intro s hsl
  rcases Nat.lt_or_ge (q s) i with hlt | hge
  ·refine (hl.get' (Nat.le_of_lt hlt) (Nat.le_of_lt hil) fun j o' hj1 hj2 hj hds=> ?_).symm
   have hns:¬ S j:=fun h=>by have:=(hW j o' s hj hds).mp h; omega
   rcases k3 j o' hj2 hj with hb | hb
   ·exact hns (hfor hb)
   ·exact (apart_inv hb).1 s hds hsl
  ·refine hl.get' hge (hq s) fun j o' hj1 hj2 hj hds=> ?_
   have hSj:S j:=(hW j o' s hj hds).mpr hj2
   rcases Nat.lt_or_ge i j with hij | hij
   ·rcases (okDraw_at hk hj).2.2 i ao hij hao with hb | hb
    ·exact hback hj hb hSj
    ·exact (apart_inv hb).2.2.1 s hds hsl
   ·have hji:j=i:=by omega
    rw [hji] at hSj; exact hS hSj
 have hTi:TR P w ro μ ((st i).1.keep ao.slots) a.tmps:=⟨fun s v hv=>by
  obtain ⟨b1,b2⟩:=Env.keep_in _ _ _ _ hv
  exact hT s v (by rw [hslot s b1]; exact b2),hg.glob⟩
 have hval:∀ x ∈ ao.op.opnds,((st i).1.keep ao.slots).val x=(st i).1.val x:=by
  intro x hx
  cases x with
  | c v=>rfl
  | t s=>exact Env.keep_get _ _ _ (List.mem_append_left _ (List.mem_flatMap.mpr ⟨_,hx,List.mem_singleton.mpr rfl⟩))
 have hgd:wantedA ((st i).1.keep ao.slots) ao.guard=wantedA (st i).1 ao.guard:=by
  cases hgu:ao.guard with
  | none=>rfl
  | some gb=>
   obtain ⟨g,b⟩:=gb
   have:g ∈ ao.slots:=List.mem_append_right _ (by rw [hgu]; exact List.mem_singleton.mpr rfl)
   simp only [wantedA,Env.keep_get _ _ _ this]
 have hdown':Down l (fun j=>j=i∨S j):=by
  intro j o' hj hSj k hk'
  rcases hSj with rfl | hSj
  ·rw [hao] at hj; cases hj; exact .inr (hr k hk')
  ·exact .inr (hd j o' hj hSj k hk')
 have hW':∀ (j:Nat) o' s,l[j]? = some o'→o'.dst=some s→((j=i∨S j)↔j < (if ao.dst=some s then i+1 else q s)):=by
  intro j o' s hj hds
  by_cases hsi:ao.dst=some s
  ·rw [if_pos hsi]
   rcases Nat.lt_trichotomy j i with hji | hji | hji
   ·refine ⟨fun _=>by omega,fun _=>.inr ?_⟩
    rcases k3 j o' hji hj with hb | hb
    ·exact hfor hb
    ·exact absurd hsi ((apart_inv hb).2.1 s hds)
   ·exact ⟨fun _=>by omega,fun _=>.inl hji⟩
   ·refine ⟨fun h=> ?_,fun h=>by omega⟩
    have hSj:S j:=h.resolve_left (by omega)
    rcases (okDraw_at hk hj).2.2 i ao hji hao with hb | hb
    ·exact absurd hSj (hback hj hb)
    ·exact absurd hds ((apart_inv hb).2.1 s hsi)
  ·rw [if_neg hsi]
   have hne:j≠i:=by rintro rfl; rw [hao] at hj; cases hj; exact hsi hds
   rw [← hW j o' s hj hds]
   exact ⟨fun h=>h.resolve_left hne,.inr⟩
 have hq':∀ s,(if ao.dst=some s then i+1 else q s)≤l.length:=fun s=>by split <;> first | exact hil | exact hq s
 have hTT:∀ {w1:World} {ro1:Nat→Prop} {μ1:Mu} {v:AVal} {v':Value},(∀ s u,(st (q s)).1.get s=some u→VR P w1 ro1 μ1 u (a.tmps.getD s undef))→VR P w1 ro1 μ1 v v'→(st (i+1)).1=(st i).1.put ao.dst v→
   (∀ s u,(st (if ao.dst=some s then i+1 else q s)).1.get s=some u→VR P w1 ro1 μ1 u ((a.put o.dst v').tmps.getD s undef))∧(a.put o.dst v').tmps.size=nt∧(a.put o.dst v').defers=dv:=by
  intro w1 ro1 μ1 v v' hT1 hv he
  rw [← h3]
  rw [← h3] at h4
  cases hds:ao.dst with
  | none=>exact ⟨fun s u hu=>hT1 s u (by simpa using hu),hs,hdf⟩
  | some d=>
   rw [hds] at h4 he
   simp only [dstOk,decide_eq_true_eq] at h4
   refine ⟨fun s u hu=> ?_,by simp [Act.put,hs],by simp [Act.put,hdf]⟩
   by_cases hsd:s=d
   ·subst hsd
    rw [if_pos rfl,he] at hu
    simp only [Env.put,Env.get_set,if_true] at hu
    cases hu
    simp only [Act.put,Array.getD_eq_getD_getElem?,Array.getElem?_setIfInBounds,if_true,hs,h4]
    exact hv
   ·rw [if_neg (by simpa using Ne.symm hsd)] at hu
    have:=hT1 s u hu
    simp only [Act.put,Array.getD_eq_getD_getElem?,Array.getElem?_setIfInBounds,if_neg (Ne.symm hsd)] at this ⊢
    exact this
 have hget:ops[i0]? = some o:=ho
 simp only [wpOp,hget]
 rcases hstep.wanted with hw | hw
 ·
  have hwt:=wantedA_sound hTi h2 (hgd.trans hw)
  simp only [hwt,if_true]
  have hcong:∀ H,astep ao.op ((st i).1.keep ao.slots) H=astep ao.op (st i).1 H:=fun H=>astep_congr _ _ hval
  cases hqt:ao.op.quiet with
  | true=>
   have hst0:=hstep
   simp only [StepD,hw] at hst0
   cases hsv:astep ao.op (st i).1 (st i).2 with
   | none=>rw [hsv] at hst0; exact hst0.elim
   | some nx=>
    obtain ⟨v,rfl⟩:=astep_quiet hqt hsv
    rw [hsv] at hst0
    obtain ⟨e1,e2⟩:=hst0
    have hsee:astep ao.op (st i).1 (st p).2=some (.value v (st p).2):=by
     rcases Nat.lt_or_ge p i with hlt | hge
     ·refine hl.earlier hao hqt hw hsv (i - p) p (by omega) fun e o' he1 he2 he hqe=> ?_
      cases hb:(ms.getD i 0).testBit e with
      | false=>rfl
      | true=>have:=(hE e o' he hqe).mp (hfor hb); omega
     ·have:=hl.later hao hqt hw hsv (p - i) (by omega) fun e o' he1 he2 he hqe=>by
       cases hb:(ms.getD e 0).testBit i with
       | false=>rfl
       | true=>exact absurd ((hE e o' he hqe).mpr (by omega)) (hback he hb)
      rwa [show i+(p - i)=p by omega] at this
    obtain ⟨v',w1,ro1,μ1,hrun,hv,hg1,ho1⟩:=cop_sound hg hTi h1 ((hcong _).trans hsee)
    have hx:=Out.ext hg ho1
    obtain ⟨t1,t2,t3⟩:=hTT (fun s u hu=>(hT s u hu).ext hx _ _) hv e1
    have hmid:Mid P nt dv l st w0 ro0 μ0 (fun j=>j=i∨S j) (a.put o.dst v') w1:=
     ⟨hdown',p,_,ro1,μ1,hp,hq',fun e o' he hqe=>by
      have hne:e≠i:=by rintro rfl; rw [hao] at he; cases he; rw [hqt] at hqe; cases hqe
      rw [← hE e o' he hqe]; exact ⟨fun h=>h.resolve_left hne,.inr⟩,hW',hg1,t1,t2,t3,hout.trans ho1⟩
    refine .inl ?_
    unfold Oper.wp
    rcases hrun with hrun | ⟨hrun,rfl⟩
    ·rw [hrun]; exact hK _ _ hmid
    ·rw [hrun]; exact hK _ _ hmid
  | false=>
   have hEi:∀ (e:Nat) o',l[e]? = some o'→o'.op.quiet=false→e < i→S e:=by
    intro e o' he hqe hei
    rcases k3 e o' hei he with hb | hb
    ·exact hfor hb
    ·rcases (apart_inv hb).2.2.2 with h | h
     ·rw [hqe] at h; cases h
     ·rw [hqt] at h; cases h
   have hEi':∀ (e:Nat) o',l[e]? = some o'→o'.op.quiet=false→i < e→¬ S e:=by
    intro e o' he hqe hei
    rcases (okDraw_at hk he).2.2 i ao hei hao with hb | hb
    ·exact hback he hb
    ·rcases (apart_inv hb).2.2.2 with h | h
     ·rw [hqt] at h; cases h
     ·rw [hqe] at h; cases h
   have hpi:p≤i:=by
    rcases Nat.lt_or_ge i p with h | h
    ·exact absurd ((hE i ao hao hqt).mpr h) hS
    ·exact h
   have hheap:(st i).2=(st p).2:=hl.heap' hpi (Nat.le_of_lt hil) fun j o' hj1 hj2 hj=>by
    cases hqj:o'.op.quiet with
    | true=>rfl
    | false=>have:=(hE j o' hj hqj).mp (hEi j o' hj hqj hj2); omega
   have hE':∀ (e:Nat) o',l[e]? = some o'→o'.op.quiet=false→((e=i∨S e)↔e < i+1):=by
    intro e o' he hqe
    rcases Nat.lt_trichotomy e i with h | h | h
    ·exact ⟨fun _=>by omega,fun _=>.inr (hEi e o' he hqe h)⟩
    ·exact ⟨fun _=>by omega,fun _=>.inl h⟩
    ·exact ⟨fun hh=>absurd (hh.resolve_left (by omega)) (hEi' e o' he hqe h),fun hh=>by omega⟩
   have hst0:=hstep
   simp only [StepD,hw] at hst0
   cases hsv:astep ao.op (st i).1 (st i).2 with
   | none=>rw [hsv] at hst0; exact hst0.elim
   | some nx=>
    rw [hsv] at hst0
    rw [hheap] at hsv
    cases nx with
    | anyOf _=>exact hst0.elim
    | pan _=>exact hst0.elim
    | dfr _ _=>exact hst0.elim
    | value v H1=>
     obtain ⟨e1,e2⟩:=hst0
     obtain ⟨v',w1,ro1,μ1,hrun,hv,hg1,ho1⟩:=cop_sound hg hTi h1 ((hcong _).trans hsv)
     have hx:=Out.ext hg ho1
     obtain ⟨t1,t2,t3⟩:=hTT (fun s u hu=>(hT s u hu).ext hx _ _) hv e1
     rw [← e2] at hg1 ho1
     have hmid:Mid P nt dv l st w0 ro0 μ0 (fun j=>j=i∨S j) (a.put o.dst v') w1:=
      ⟨hdown',i+1,_,ro1,μ1,hil,hq',hE',hW',hg1,t1,t2,t3,hout.trans ho1⟩
     refine .inl ?_
     unfold Oper.wp
     rcases hrun with hrun | ⟨hrun,rfl⟩
     ·rw [hrun]; exact hK _ _ hmid
     ·rw [hrun]; exact hK _ _ hmid
    | enter f as=>
     obtain ⟨r,⟨hcb,hcall⟩,e1⟩:=hst0
     rw [hheap] at hcall
     obtain ⟨args,hrun,hargs⟩:=cop_enter (w:=w) hTi h1 ((hcong _).trans hsv) hcb
     refine .inl ?_
     unfold Oper.wp
     rw [hrun]
     show Calls P f args w _
     refine (hcall w ro μ args hg hargs).mono ?_
     rintro e w1 ⟨v',r1,H1,ro1,μ1,rfl,⟨rfl,rfl⟩,hv,hg1,ho1⟩
     have hx:=Out.ext hg ho1
     obtain ⟨t1,t2,t3⟩:=hTT (fun s u hu=>(hT s u hu).ext hx _ _) hv e1
     exact hK _ _ ⟨hdown',i+1,_,ro1,μ1,hil,hq',hE',hW',hg1,t1,t2,t3,hout.trans ho1⟩
 ·
  have hwt:=wantedA_sound hTi h2 (hgd.trans hw)
  simp only [hwt,Bool.false_eq_true,if_false]
  have hst0:=hstep
  simp only [StepD,hw] at hst0
  obtain ⟨e1,e2⟩:=hst0
  obtain ⟨t1,t2,t3⟩:=hTT hT (v:=aundef) (v':=undef) ⟨#[],rfl,rfl⟩ e1
  refine hK _ _ ?_
  cases hqt:ao.op.quiet with
  | true=>
   exact ⟨hdown',p,_,ro,μ,hp,hq',fun e o' he hqe=>by
      have hne:e≠i:=by rintro rfl; rw [hao] at he; cases he; rw [hqt] at hqe; cases hqe
      rw [← hE e o' he hqe]; exact ⟨fun h=>h.resolve_left hne,.inr⟩,hW',hg,t1,t2,t3,hout⟩
  | false=>
   have hEi:∀ (e:Nat) o',l[e]? = some o'→o'.op.quiet=false→e < i→S e:=by
    intro e o' he hqe hei
    rcases k3 e o' hei he with hb | hb
    ·exact hfor hb
    ·rcases (apart_inv hb).2.2.2 with h | h
     ·rw [hqe] at h; cases h
     ·rw [hqt] at h; cases h
   have hEi':∀ (e:Nat) o',l[e]? = some o'→o'.op.quiet=false→i < e→¬ S e:=by
    intro e o' he hqe hei
    rcases (okDraw_at hk he).2.2 i ao hei hao with hb | hb
    ·exact hback he hb
    ·rcases (apart_inv hb).2.2.2 with h | h
     ·rw [hqt] at h; cases h
     ·rw [hqe] at h; cases h
   have hpi:p≤i:=by
    rcases Nat.lt_or_ge i p with h | h
    ·exact absurd ((hE i ao hao hqt).mpr h) hS
    ·exact h
   have hheap:(st i).2=(st p).2:=hl.heap' hpi (Nat.le_of_lt hil) fun j o' hj1 hj2 hj=>by
    cases hqj:o'.op.quiet with
    | true=>rfl
    | false=>have:=(hE j o' hj hqj).mp (hEi j o' hj hqj hj2); omega
   have hE':∀ (e:Nat) o',l[e]? = some o'→o'.op.quiet=false→((e=i∨S e)↔e < i+1):=by
    intro e o' he hqe
    rcases Nat.lt_trichotomy e i with h | h | h
    ·exact ⟨fun _=>by omega,fun _=>.inr (hEi e o' he hqe h)⟩
    ·exact ⟨fun _=>by omega,fun _=>.inl h⟩
    ·exact ⟨fun hh=>absurd (hh.resolve_left (by omega)) (hEi' e o' he hqe h),fun hh=>by omega⟩
   rw [hheap] at e2
   exact ⟨hdown',i+1,_,ro,μ,hil,hq',hE',hW',by rw [e2]; exact hg,t1,t2,t3,by rw [e2]; exact hout⟩
theorem Mid.go {P:Program} {nt:Nat} {dv:List Deferred} {ms:List Nat} {l:List AOper} {st:Nat→Env × AHeap} {ops:Array Oper} (hc:copers P nt ops ops.toList=some l) (hk:okDraw l ms=true) (hl:Line P ms l st l.length)
  {w0:World} {ro0:Nat→Prop} {μ0:Mu} {S:Nat→Prop} {a:Act} {w:World} (hm:Mid P nt dv l st w0 ro0 μ0 S a w) {i:Nat} {o:Oper} {ao:AOper} (ho:ops[i]? = some o) (hao:l[i]? = some ao) (hco:coper P nt ops o=some ao)
  (hS:¬ S i) (hr:∀ j ∈ ao.after,S j) {Q:Exit→Act→World→Prop} {K:Act→World→Prop} (hK:∀ a w,Mid P nt dv l st w0 ro0 μ0 (fun j=>j=i∨S j) a w→K a w):wpOp P ops Q i K a w:=by
 obtain ⟨h1,h2,h3,h4⟩:=coper_inv hco
 exact hm.goAt hk hl ho hao h1 h2 h3 h4 hS hr hK
end Go.Am
