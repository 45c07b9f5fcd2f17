/- The rule of regions whose order is drawn: all orders. -/
import Derived.Test.YtmoimchdhgoeeaaDoorAm23
set_option linter.unusedVariables false
set_option linter.unusedSimpArgs false
namespace Go.Am
open Go.RowKit
theorem mem_ready {ops:Array Oper} {listed:Array Bool} {i:Nat} (h:i ∈ Region.ready .any ops listed):i < ops.size∧listed.getD i true=false∧∃ o,ops[i]? = some o∧∀ j ∈ (o.after.toList.filter (Region.binds .any)).map (·.on),listed.getD j false=true:=by
 unfold Region.ready at h
 obtain ⟨h1,h2⟩:=List.mem_filter.mp h
 have hi:=List.mem_range.mp h1
 simp only [Bool.and_eq_true,Bool.not_eq_true'] at h2
 obtain ⟨h2,h3⟩:=h2
 have ho:ops[i]? = some ops[i]:=by simp [hi]
 rw [ho] at h3
 simp only [Option.map_some,Option.getD_some] at h3
 refine ⟨hi,h2,_,ho,fun j hj=> ?_⟩
 obtain ⟨e,he,rfl⟩:=List.mem_map.mp hj
 obtain ⟨he1,he2⟩:=List.mem_filter.mp he
 have:=Array.all_eq_true_iff_forall_mem.mp h3 e (Array.mem_toList_iff.mp he1)
 rw [he2] at this
 simpa using this
theorem ready_mem {ops:Array Oper} {listed:Array Bool} {i:Nat} {o:Oper} (hi:listed.getD i true=false) (ho:ops[i]? = some o) (ha:∀ j ∈ (o.after.toList.filter (Region.binds .any)).map (·.on),listed.getD j false=true):i ∈ Region.ready .any ops listed:=by
 unfold Region.ready
 have hlt:i < ops.size:=(Array.getElem?_eq_some_iff.mp ho).1
 refine List.mem_filter.mpr ⟨List.mem_range.mpr hlt,?_⟩
 rw [hi,ho]
 simp only [Bool.not_false,Bool.true_and,Option.map_some,Option.getD_some]
 refine Array.all_eq_true_iff_forall_mem.mpr fun e he=> ?_
 cases hb:Region.binds .any e with
 | false=>rfl
 | true=>
  have:=ha e.on (List.mem_map.mpr ⟨e,List.mem_filter.mpr ⟨Array.mem_toList_iff.mpr he,hb⟩,rfl⟩)
  simpa using this
theorem Mid.congr {P:Program} {nt:Nat} {dv:List Deferred} {l:List AOper} {st:Nat→Env × AHeap} {w0:World} {ro0:Nat→Prop} {μ0:Mu} {S S':Nat→Prop} {a:Act} {w:World} (h:Mid P nt dv l st w0 ro0 μ0 S a w) (he:∀ (i:Nat) (o:AOper),l[i]? = some o→(S' i↔S i)) (hl:∀ (i:Nat) (o:AOper),l[i]? = some o→∀ j ∈ o.after,j < i):Mid P nt dv l st w0 ro0 μ0 S' a w:=by
 obtain ⟨hd,p,q,ro,μ,hp,hq,hE,hW,r⟩:=h
 refine ⟨fun i o ho hi j hj=> ?_,p,q,ro,μ,hp,hq,fun e o ho hqe=>(he e o ho).trans (hE e o ho hqe),fun i o s ho hs=>(he i o ho).trans (hW i o s ho hs),r⟩
 have hji:=hl i o ho j hj
 have hlt:j < l.length:=Nat.lt_trans hji (List.getElem?_eq_some_iff.mp ho).1
 exact (he j _ (List.getElem?_eq_getElem hlt)).mpr (hd i o ho ((he i o ho).mp hi) j hj)
theorem draw_any {P:Program} {nt:Nat} {dv:List Deferred} {ms:List Nat} {l:List AOper} {st:Nat→Env × AHeap} {ops:Array Oper} (hc:copers P nt ops ops.toList=some l) (hk:okDraw l ms=true) (hl:Line P ms l st l.length)
  {w0:World} {ro0:Nat→Prop} {μ0:Mu} {Q:Exit→Act→World→Prop} (hQ:∀ a w,Mid P nt dv l st w0 ro0 μ0 (fun i=>i < l.length) a w→Q .normal a w) :
  ∀ (fuel:Nat) (listed:Array Bool) (rem:List Nat) (a:Act) (w:World),listed.size=l.length→(∀ i,i < l.length→listed.getD i false=false→i ∈ rem)→rem.length≤fuel→Mid P nt dv l st w0 ro0 μ0 (fun i=>listed.getD i false=true) a w→wpAny P .any ops Q fuel listed a w:=by
 obtain ⟨hlen,hat⟩:=copers_at hc
 have hlen':ops.size=l.length:=by rw [← hlen]; simp
 have aft:∀ {i:Nat} {o:Oper} {ao:AOper},ops[i]? = some o→l[i]? = some ao→coper P nt ops o=some ao∧ao.after=(o.after.toList.filter (Region.binds .any)).map (·.on):=by
  intro i o ao ho hao
  obtain ⟨ao',h1,h2⟩:=hat i o (by simpa using ho)
  rw [hao] at h1; cases h1
  exact ⟨h2,coper_after h2⟩
 have gd:∀ (listed:Array Bool) (i:Nat) (b:Bool),i < listed.size→listed.getD i b=listed.getD i false:=by
  intro listed i b hi
  simp [Array.getD_eq_getD_getElem?,hi]
 have done:∀ (listed:Array Bool) (a:Act) (w:World),listed.size=l.length→Mid P nt dv l st w0 ro0 μ0 (fun i=>listed.getD i false=true) a w→Region.ready .any ops listed=[]→Q .normal a w:=by
  intro listed a w hsz hm hr
  have all:∀ i,i < l.length→listed.getD i false=true:=by
   intro i
   induction i using Nat.strongRecOn with
   | ind i ih=>
    intro hi
    cases hb:listed.getD i false with
    | true=>rfl
    | false=>
     have hio:i < ops.size:=by omega
     have ho:ops[i]? = some ops[i]:=by simp [hio]
     have hao:=List.getElem?_eq_getElem hi
     obtain ⟨a1,a2⟩:=aft ho hao
     have:i ∈ Region.ready .any ops listed:=ready_mem ((gd listed i true (by omega)).trans hb) ho fun j hj=>by
      rw [← a2] at hj
      have hji:=(okDraw_at hk hao).1 j hj
      exact ih j hji (by omega)
     rw [hr] at this; cases this
  exact hQ a w (hm.congr (fun i o ho=>⟨fun _=>all i (List.getElem?_eq_some_iff.mp ho).1,fun _=>(List.getElem?_eq_some_iff.mp ho).1⟩) fun i o ho=>(okDraw_at hk ho).1)
 have step:∀ (listed:Array Bool) (a:Act) (w:World),listed.size=l.length→Mid P nt dv l st w0 ro0 μ0 (fun i=>listed.getD i false=true) a w→∀ i ∈ Region.ready .any ops listed,∀ {K:Act→World→Prop},
   (∀ a w,Mid P nt dv l st w0 ro0 μ0 (fun j=>(listed.setIfInBounds i true).getD j false=true) a w→K a w)→wpOp P ops Q i K a w:=by
  intro listed a w hsz hm i hi K hK
  obtain ⟨h1,h2,o,ho,h3⟩:=mem_ready hi
  have hil:i < l.length:=by omega
  have hao:=List.getElem?_eq_getElem hil
  obtain ⟨a1,a2⟩:=aft ho hao
  have hSi:¬ (listed.getD i false=true):=by rw [← gd listed i true (by omega),h2]; simp
  refine hm.go hc hk hl ho hao a1 hSi (by rw [a2]; exact h3) fun a w hmid=>hK a w (hmid.congr (fun j o' hj=> ?_) fun i o ho=>(okDraw_at hk ho).1)
  by_cases hji:j=i
  ·subst hji
   simp [Array.getD_eq_getD_getElem?,Array.getElem?_setIfInBounds,hsz,hil]
  ·simp [Array.getD_eq_getD_getElem?,Array.getElem?_setIfInBounds,Ne.symm hji,hji]
 intro fuel
 induction fuel with
 | zero=>
  intro listed rem a w hsz hrem hle hm
  have hnil:rem=[]:=List.length_eq_zero_iff.mp (by omega)
  have hr:Region.ready .any ops listed=[]:=by
   cases hR:Region.ready .any ops listed with
   | nil=>rfl
   | cons x xs=>
    obtain ⟨h1,h2,_⟩:=mem_ready (i:=x) (by rw [hR]; exact List.mem_cons_self)
    have:=hrem x (by omega) (by rw [← gd listed x true (by omega)]; exact h2)
    rw [hnil] at this; cases this
  exact ⟨hr,done listed a w hsz hm hr⟩
 | succ fuel ih=>
  intro listed rem a w hsz hrem hle hm
  refine ⟨done listed a w hsz hm,fun i hi=>step listed a w hsz hm i hi fun a' w' hm'=> ?_⟩
  obtain ⟨h1,h2,_⟩:=mem_ready hi
  have him:i ∈ rem:=hrem i (by omega) (by rw [← gd listed i true (by omega)]; exact h2)
  refine ih _ (rem.erase i) a' w' (by simp [hsz]) (fun j hj hlj=> ?_) (by rw [List.length_erase_of_mem him]; omega) hm'
  have hne:j≠i:=by
   rintro rfl
   simp [Array.getD_eq_getD_getElem?,Array.getElem?_setIfInBounds,hsz,hj] at hlj
  refine (List.mem_erase_of_ne hne).mpr (hrem j hj ?_)
  simpa [Array.getD_eq_getD_getElem?,Array.getElem?_setIfInBounds,Ne.symm hne] using hlj
variable {P:Program} {ks:Keeps} {nt:Nat} {k:List AItem} {T:Env} {H:AHeap} {K:Env→AHeap→Prop}
theorem Runs.ofLine {l:List AOper} {kl:List Nat} (hm:P.follows .mixedOrders=true) {ms:List Nat} (hk:okDraw l ms=true) {st:Nat→Env × AHeap} (hl:Line P ms l st l.length) (h0':st 0=(T,H)) (hfin:Runs P ks nt k ((st l.length).1.keep kl) (st l.length).2 K) :
  Runs P ks nt (.code (.region true l kl)::k) T H K:=by
 intro items hc w ro μ a hg hT hs hd b cs
 obtain ⟨i,r,rfl,h1,h2⟩:=cis_cons hc
 obtain ⟨c,rfl,h3⟩:=ci_code h1
 obtain ⟨id,ops,rfl,h4,rfl⟩:=ccode_inv h3
 obtain ⟨hlen,_⟩:=copers_at h4
 have hlen':ops.size=l.length:=by rw [← hlen]; simp
 have hwp:(Code.region id ops true).wp P (fun e a' w'=>e = .normal∧Mid P nt [] l st w ro μ (fun i=>i < l.length) a' w') a w:=by
  refine wp_region_any hm (draw_any h4 hk hl (fun a w h=>⟨rfl,h⟩) ops.size _ (List.range l.length) a _ (by simp [hlen']) (fun i hi _=>List.mem_range.mpr hi) (by simp [hlen']) ?_)
  have hfalse:∀ i,¬ ((Array.replicate ops.size false).getD i false=true):=by
   intro i hi
   simp only [Array.getD_eq_getD_getElem?,Array.getElem?_replicate] at hi
   split at hi <;> simp at hi
  have hx:Ext w ro μ { w with drawn:=w.drawn+1 } ro μ:=⟨fun _ h=>h,fun _ _ _ h=>h,fun _ _=>rfl,fun _ c _ fr h=>⟨c,fr,h,rfl⟩⟩
  refine ⟨fun i o ho hi=>absurd hi (hfalse i),0,fun _=>0,ro,μ,Nat.zero_le _,fun _=>Nat.zero_le _,fun e o _ _=>⟨fun hi=>absurd hi (hfalse e),fun h=>absurd h (Nat.not_lt_zero _)⟩,fun e o s _ _=>⟨fun hi=>absurd hi (hfalse e),fun h=>absurd h (Nat.not_lt_zero _)⟩,?_,?_,hs,hd,?_⟩
  ·rw [h0']; exact hg.drawn _
  ·intro s v hv
   rw [h0'] at hv
   exact (hT.val s v hv).ext hx _ _
  ·rw [h0']; exact Out.drawn _ _ _ _ _
 obtain ⟨e,a1,w1,⟨he,hmid⟩,harr⟩:=hwp b r cs
 subst he
 obtain ⟨hd1,p,q,ro1,μ1,hp,hq,hE,hW,hg1,hT1,hs1,hdf1,hout1⟩:=hmid
 have hH:(st l.length).2=(st p).2:=hl.heap' hp (Nat.le_refl _) fun i o h1 h2 ho=>by
  cases hqo:o.op.quiet with
  | true=>rfl
  | false=>have:=(hE i o ho hqo).mp h2; omega
 have hTT:TR P w1 ro1 μ1 (st l.length).1 a1.tmps:=⟨fun s v hv=>hT1 s v (by
  rw [← hl.get' (s:=s) (hq s) (Nat.le_refl _) fun i o h1 h2 ho hds=>by have:=(hW i o s ho hds).mp h2; omega]
  exact hv),hg1.glob⟩
 rw [← hH] at hg1 hout1
 rw [h0'] at hout1
 obtain ⟨a',w',todo',hp',hsteps⟩:=hfin r h2 w1 ro1 μ1 a1 hg1 (hTT.keep _) hs1 hdf1 b cs
 exact ⟨a',w',todo',hp'.trans hout1,Steps.trans harr hsteps⟩
theorem DrawRun.line {P:Program} {l:List AOper} {ms:List Nat} {T:Env} {H:AHeap} {K:Env→AHeap→Prop} (h:DrawRun P ms 0 l [] [] T H K):∃ st,Line P ms l st l.length∧st 0=(T,H)∧K (st l.length).1 (st l.length).2:=by
 obtain ⟨st,hl,hfin,h0⟩:=line_of (l:=l) l 0 [] [] T H rfl (Nat.zero_le _) h (fun _=>(T,H)) ⟨fun i o hi=>by omega,fun j e q o v h1 h2=>by omega,fun j e q o v h1 h2=>by omega⟩ ⟨fun e o hi=>by omega,fun j q v hi=>by omega⟩ rfl
 exact ⟨st,hl,h0 0 (Nat.le_refl _),hfin⟩
theorem Runs.regionD {l:List AOper} {kl:List Nat} (hm:P.follows .mixedOrders=true) {ms:List Nat} (hk:okDraw l ms=true) (h:DrawRun P ms 0 l [] [] T H fun T' H'=>Runs P ks nt k (T'.keep kl) H' K):Runs P ks nt (.code (.region true l kl)::k) T H K:=by
 obtain ⟨st,hl,h0,hfin⟩:=h.line
 exact Runs.ofLine hm hk hl h0 hfin
end Go.Am
