/- One operation: loads, stores, new blocks, addresses. -/
import Derived.Test.YtmoimchdhgoeeaaDoorAm6
set_option linter.unusedVariables false
set_option linter.unusedSimpArgs false
namespace Go.Am
open Go.RowKit
theorem VRat.drop {P:Program} {w:World} {ro:Nat→Prop} {μ:Mu} {cs:List AVal} {b o:Nat} (h:VRat P w ro μ cs b o) (n:Nat):VRat P w ro μ (cs.drop n) b (o+n):=by
 rw [VRat_iff] at h ⊢
 intro i a ha
 rw [List.getElem?_drop] at ha
 have:=h _ a ha
 rwa [show o+(n+i)=o+n+i by omega] at this
theorem VRat.take {P:Program} {w:World} {ro:Nat→Prop} {μ:Mu} {cs:List AVal} {b o:Nat} (h:VRat P w ro μ cs b o) (n:Nat):VRat P w ro μ (cs.take n) b o:=by
 rw [VRat_iff] at h ⊢
 intro i a ha
 rw [List.getElem?_take] at ha
 split at ha
 ·exact h i a ha
 ·cases ha
theorem VRat.vals {P:Program} {w:World} {ro:Nat→Prop} {μ:Mu}:∀ {cs:List AVal} {b o:Nat},VRat P w ro μ cs b o→∃ vs,VRs P w ro μ cs vs∧∀ (j:Nat) (v:Value),vs[j]? = some v→w.cell? ⟨b,o+j,none⟩=some v
 | [],b,o,_=>⟨[],rfl,by simp⟩
 | c::cs,b,o,⟨⟨u,hu,hv⟩,h⟩=>by
  obtain ⟨vs,h1,h2⟩:=VRat.vals h
  refine ⟨u::vs,⟨u,vs,rfl,hv,h1⟩,fun j v hj=> ?_⟩
  cases j with
  | zero=>simp at hj; subst hj; exact hu
  | succ j=>have:=h2 j v (by simpa using hj); rwa [show o+1+j=o+(j+1) by omega] at this
theorem cellsAt_sound {P:Program} {w:World} {ro:Nat→Prop} {μ:Mu} {H:AHeap} (hg:Good P w ro μ H) {a:AVal} {v:Value} (hv:VR P w ro μ a v) {cs:List AVal} (h:cellsAt H a=some cs) :
  ∃ b o sp,v = .pointer (some ⟨b,o,sp⟩)∧VRat P w ro μ cs b o∧(cs≠[]→sp=none):=by
 cases a <;> simp only [cellsAt] at h <;> (try (cases h; done))
 case ptr id off=>
  obtain ⟨b,base,hm,rfl⟩:=hv
  split at h
  ·rename_i e cs' hid
   split at h
   ·injection h with h; subst h
    obtain ⟨c,fr,h1,h2,h3,h4⟩:=hg.blk id _ b base hid hm
    exact ⟨b,base+off,none,rfl,h4.drop off,fun _=>rfl⟩
   ·cases h
  ·cases h
 case rop cs'=>
  injection h with h; subst h
  obtain ⟨b,o,sp,rfl,hr,hc⟩:=hv
  exact ⟨b,o,sp,rfl,hc,fun hne=>(hr hne).2⟩
theorem loadKind_none {P:Program} {t:TypeId} (h:loadKind P t=some none) (w:World):(isAgg t).run P w = .ok false w:=by
 unfold loadKind at h
 split at h
 ·cases h
 ·simp at h
 ·simp at h
 ·rename_i d hs ha hd
  exact isAgg_false hd (by cases d <;> simp_all) w
theorem loadKind_some {P:Program} {t:TypeId} {n:Nat} (h:loadKind P t=some (some n)) (w:World):(isAgg t).run P w = .ok true w∧(sizeOf t).run P w = .ok n w:=by
 unfold loadKind at h
 split at h
 ·cases h
 ·rename_i fs hd
  simp only [Option.map_eq_some_iff,Option.some.injEq] at h
  obtain ⟨m,hm,rfl⟩:=h
  exact ⟨isAgg_true hd rfl w,sizeOf_run hm w⟩
 ·rename_i l e hd
  simp only [Option.map_eq_some_iff,Option.some.injEq] at h
  obtain ⟨m,hm,rfl⟩:=h
  exact ⟨isAgg_true hd rfl w,sizeOf_run hm w⟩
 ·cases h
theorem do_load {P:Program} {w:World} {ro:Nat→Prop} {μ:Mu} {H:AHeap} (hg:Good P w ro μ H) {a x:AVal} {v:Value} (hv:VR P w ro μ a v) {t:TypeId} {n:Option Nat} (hk:loadKind P t=some n) (h:aload H n a=some x) :
  ∃ v',(Instr.loadAt t v).run P w = .ok v' w∧VR P w ro μ x v':=by
 unfold aload at h
 split at h
 ·rename_i c r hc
  injection h with h; subst h
  obtain ⟨b,o,sp,rfl,hat,hsp⟩:=cellsAt_sound hg hv hc
  have hsp0:=hsp (by simp); subst hsp0
  obtain ⟨⟨u,hu,hvr⟩,_⟩:=hat
  have ha:=loadKind_none hk w
  exact ⟨u,by simp [Instr.loadAt,Instr.sureAddr,loadVar,ha,hu],hvr⟩
 ·rename_i cs m hc
  split at h
  ·rename_i hle
   injection h with h; subst h
   obtain ⟨b,o,sp,rfl,hat,hsp⟩:=cellsAt_sound hg hv hc
   obtain ⟨vs,hvs,hcell⟩:=(hat.take m).vals
   obtain ⟨ha,hs⟩:=loadKind_some hk w
   have hlen:vs.length=m:=by have:=hvs.len; simp at this; omega
   have hl:=run_loadCells_list (P:=P) w ⟨b,o,sp⟩ vs (fun j u hj=>by
    have hne:cs≠[]:=by
     intro e; subst e
     have h0:=(List.getElem?_eq_some_iff.1 hj).1
     have h1:=hvs.len; simp at h1; omega
    have hsp0:=hsp hne; subst hsp0
    rw [Addr.add_lit]; exact hcell j u hj)
   rw [hlen] at hl
   exact ⟨.agg vs.toArray,by simp [Instr.loadAt,Instr.sureAddr,loadVar,ha,hs,hl],⟨_,rfl,by simpa using hvs⟩⟩
  ·cases h
 ·cases h
theorem do_store {P:Program} {w:World} {ro:Nat→Prop} {μ:Mu} {H H':AHeap} (hg:Good P w ro μ H) {a x:AVal} {va vx:Value} (ha:VR P w ro μ a va) (hx:VR P w ro μ x vx) {t:TypeId} {n:Nat} (hk:szOf P t=some n) (h:astore H n a x=some H') :
  ∃ w',(Instr.storeAt t va vx).run P w = .ok () w'∧Good P w' ro μ H'∧Out w ro μ H w' ro μ H':=by
 unfold astore at h
 split at h
 case h_2=>cases h
 rename_i id off
 split at h
 case h_2=>cases h
 rename_i e cs hid
 split at h
 case isFalse=>cases h
 rename_i hh
 obtain ⟨hn,hfit,ho⟩:=hh
 injection h with h; subst h
 obtain ⟨b,base,hm,rfl⟩:=ha
 obtain ⟨c,fr,h1,h2,h3,h4⟩:=hg.blk id _ b base hid hm
 have hcx:=hx.cells
 have hlen:=hcx.len
 have hall:∀ v ∈ vx.cells.toList,v.oneCell'=true:=hcx.allOne ho
 have hcell:∀ j,j < vx.cells.toList.length→(w.cell? ⟨b,base+off+j,none⟩).isSome=true:=by
  intro j hj
  have:base+off+j < c.size:=by omega
  simp [World.cell?,h1,this]
 have hst:=run_storeCells_cells (P:=P) b (base+off) vx.cells.toList 0 w (by simpa using hcell) (fun j hj=>by
  refine frozen_of h1 (h3 _ (by omega) (by omega))) hall
 refine ⟨w.setCells b (base+off) vx.cells.toList,?_,?_⟩
 ·have hsz:vx.cells.size=n:=by simpa using hlen.symm.trans hn
  simp [Instr.storeAt,Instr.sureAddr,storeVar,sizeOf_run hk,hsz] at hst ⊢
  exact hst
 ·have hkeep:Keep w (w.setCells b (base+off) vx.cells.toList) (fun x=>x=b):=Keep.setCells h1
  have hLv:Lv μ H b:=⟨id,_,base,hid,hm⟩
  have hext:Ext w ro μ (w.setCells b (base+off) vx.cells.toList) ro μ:=⟨fun _ h=>h,fun _ _ _ h=>h,fun x hx=>hkeep.same x (hg.rolt x hx) (fun e=>hg.nro id _ b base hid hm (e ▸ hx)),hkeep.shape⟩
  obtain ⟨c',hc',hcs⟩:=setCells_shape (b:=b) vx.cells.toList (base+off) w c e fr h1
  refine hg.put hid hm hkeep ⟨c',fr,hc',?_,?_,?_⟩ (setCells_rest _ _ _).2.2.2
  ·have:(aput cs off x.cells).length=cs.length:=by unfold aput; simp; omega
   rw [this,hcs]; exact h2
  ·rw [hcs]; exact h3
  ·exact VRat.put hext h4 hcx (by omega) rfl
theorem new_cells {P:Program} {w w':World} {ro:Nat→Prop} {μ:Mu} {H:AHeap} (hg:Good P w ro μ H) {c:Array Value} {e:TypeId} {fr:Nat × Nat} {cs:List AVal} (h:w'.heap=w.heap.push (.cells c e fr)) (h1:w'.os=w.os) (h2:w'.tape=w.tape) (h3:w'.output=w.output)
  (hfr:∀ i,i < c.size→¬ (fr.1≤i∧i < fr.2)) (hl:cs.length≤c.size) (hcs:VRs P w ro μ cs (c.toList.take cs.length)) :
  Good P w' ro (μ.put H.next w.heap.size 0) (H.push (.cells e cs))∧Out w ro μ H w' ro (μ.put H.next w.heap.size 0) (H.push (.cells e cs)):=by
 have hnew:w'.heap[w.heap.size]? = some (Obj.cells c e fr):=by rw [h]; simp
 have hk:Keep w w' (Lv μ H):=Keep.push h h1 h2 h3
 have hext:Ext w ro μ w' ro (μ.put H.next w.heap.size 0):=⟨fun _ h=>h,fun id b o hm=>by
   unfold Mu.put; rw [if_neg (fun e=>by subst e; rw [hg.new _ (Nat.le_refl _)] at hm; cases hm)]; exact hm,
  fun b hb=>by rw [h,Array.getElem?_push,if_neg (by have:=hg.rolt b hb; omega)],hk.shape⟩
 refine hg.push (o:=.cells c e fr) h h1 h2 h3 ⟨c,fr,hnew,by omega,fun i _ hi=>hfr i hi,?_⟩
 rw [VRat_iff]
 intro i a ha
 have hi:i < cs.length:=(List.getElem?_eq_some_iff.1 ha).1
 refine ⟨c[i],by simp [World.cell?,hnew,show i < c.size by omega],?_⟩
 exact (((VRs_iff _ _).1 hcs).2 i a _ ha (by rw [List.getElem?_take,if_pos hi]; simp [show i < c.size by omega])).ext hext _ _
theorem VRs.refl_toList {P:Program} {w:World} {ro:Nat→Prop} {μ:Mu} {cs:List AVal} {c:Array Value} (h:VRs P w ro μ cs c.toList):VRs P w ro μ cs (c.toList.take cs.length):=by
 rw [List.take_of_length_le (by rw [h.len]; exact Nat.le_refl _)]; exact h
theorem do_box {P:Program} {w:World} {ro:Nat→Prop} {μ:Mu} {H:AHeap} (hg:Good P w ro μ H) {x:AVal} {v:Value} (hv:VR P w ro μ x v) (e:TypeId) :
  (Instr.box e v).run P w = .ok (.pointer (some ⟨w.heap.size,0,none⟩)) (w.alloc (.cells v.cells e))∧VR P (w.alloc (.cells v.cells e)) ro (μ.put H.next w.heap.size 0) (.ptr H.next 0) (.pointer (some ⟨w.heap.size,0,none⟩))∧
   Good P (w.alloc (.cells v.cells e)) ro (μ.put H.next w.heap.size 0) (H.push (.cells e x.cells))∧Out w ro μ H (w.alloc (.cells v.cells e)) ro (μ.put H.next w.heap.size 0) (H.push (.cells e x.cells)):=by
 have hcx:=hv.cells
 have hl:=hcx.len
 simp only [Array.length_toList] at hl
 exact ⟨by simp [Instr.box,newVar,newRow],⟨w.heap.size,0,by simp [Mu.put],rfl⟩,
  new_cells hg rfl rfl rfl rfl (fun i _=>by simp) (by omega) (VRs.refl_toList hcx)⟩
theorem afill_sound {P:Program} {w:World} {ro:Nat→Prop} {μ:Mu} (place:Nat→Option (Nat × Nat)) {T:Env} {a:Act} (hT:TR P w ro μ T a.tmps):∀ (ps:List (Nat × Operand)) (as:List (Nat × Nat × AOpnd)) (vs:List (Nat × Nat × AVal)) (cs cs':List AVal) (c:Array Value),
  cparts place ps=some as→T.parts as=some vs→afill cs vs=some cs'→VRs P w ro μ cs c.toList→∃ c',Instr.fill place c (ps.map fun p=>(p.1,a.eval p.2))=some c'∧VRs P w ro μ cs' c'.toList
 | [],as,vs,cs,cs',c,h1,h2,h3,h4=>by
  simp only [cparts] at h1; injection h1 with h1; subst h1
  simp only [Env.parts] at h2; injection h2 with h2; subst h2
  simp only [afill] at h3; injection h3 with h3; subst h3
  exact ⟨c,rfl,h4⟩
 | (i,x)::ps,as,vs,cs,cs',c,h1,h2,h3,h4=>by
  simp only [cparts,Option.bind_eq_bind,Option.bind_eq_some_iff,Option.pure_def] at h1
  obtain ⟨⟨off,n⟩,hp,ax,hx,ar,hr,h1⟩:=h1
  injection h1 with h1; subst h1
  simp only [Env.parts,Option.bind_eq_bind,Option.bind_eq_some_iff,Option.pure_def] at h2
  obtain ⟨v,hv,vr,hvr,h2⟩:=h2
  injection h2 with h2; subst h2
  simp only [afill] at h3
  split at h3
  case isFalse=>cases h3
  rename_i hh
  obtain ⟨hn,hfit⟩:=hh
  have hval:=copd_sound hT hx hv
  have hcx:=hval.cells
  have hlx:=hcx.len
  have hlc:=h4.len
  simp only [Array.length_toList] at hlx hlc
  have hnew:∀ (vl:List Value) (c:Array Value) (off:Nat),off+vl.length≤c.size→((vl.zipIdx).foldl (fun (cs:Array Value) (p:Value × Nat)=>cs.setIfInBounds (off+p.2) p.1) c).toList=c.toList.take off++vl++c.toList.drop (off+vl.length):=by
   intro vl
   suffices hs:∀ (vl:List Value) (k:Nat) (c:Array Value) (off:Nat),off+k+vl.length≤c.size→((vl.zipIdx k).foldl (fun (cs:Array Value) (p:Value × Nat)=>cs.setIfInBounds (off+p.2) p.1) c).toList=c.toList.take (off+k)++vl++c.toList.drop (off+k+vl.length) by
    intro c off h; simpa using hs vl 0 c off (by simpa using h)
   intro vl
   induction vl with
   | nil=>intro k c off h; simp
   | cons v r ih=>
    intro k c off h
    simp only [List.zipIdx_cons,List.foldl_cons]
    rw [ih (k+1) _ off (by simp at h ⊢; omega)]
    have hlt:off+k < c.size:=by simp at h; omega
    simp only [Array.toList_setIfInBounds,List.length_cons]
    rw [show off+(k+1)=off+k+1 by omega,List.take_set,List.take_succ_eq_append_getElem (by simpa using hlt),List.drop_set_of_lt (by omega)]
    rw [List.set_append_right _ _ (by simp; omega)]
    simp [Nat.min_eq_left (Nat.le_of_lt hlt),show off+k+1+r.length=off+k+(r.length+1) by omega]
  have hstep:Instr.fill place c ((i,a.eval x)::ps.map fun p=>(p.1,a.eval p.2))=Instr.fill place ((a.eval x).cells.zipIdx.foldl (fun cs (c,j)=>cs.setIfInBounds (off+j) c) c) (ps.map fun p=>(p.1,a.eval p.2)):=by
   simp only [Instr.fill,hp]
   rw [if_neg (by simp; omega)]
  have hlist:((a.eval x).cells.zipIdx.foldl (fun cs (c,j)=>cs.setIfInBounds (off+j) c) c).toList=c.toList.take off++(a.eval x).cells.toList++c.toList.drop (off+(a.eval x).cells.toList.length):=by
   rw [← hnew (a.eval x).cells.toList c off (by simp; omega)]
   rw [← Array.foldl_toList,Array.toList_zipIdx]
  obtain ⟨c',hc',hvr'⟩:=afill_sound place hT ps ar vr _ cs' ((a.eval x).cells.zipIdx.foldl (fun cs (c,j)=>cs.setIfInBounds (off+j) c) c) hr hvr h3 (by
   rw [hlist]
   have:(a.eval x).cells.toList.length=n:=by simp; omega
   rw [this]
   exact ((h4.take off).append hcx).append (h4.drop (off+n)))
  exact ⟨c',by rw [List.map_cons,hstep]; exact hc',hvr'⟩
end Go.Am
