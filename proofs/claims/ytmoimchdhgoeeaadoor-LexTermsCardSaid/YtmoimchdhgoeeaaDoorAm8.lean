/- One operation: structs and slices that are built, addresses, indexes, slice expressions. -/
import Derived.Test.YtmoimchdhgoeeaaDoorAm7
set_option linter.unusedVariables false
set_option linter.unusedSimpArgs false
namespace Go.Am
open Go.RowKit
theorem zeroOf_sound {P:Program} {t:TypeId} {z:AVal} (h:zeroOf P t=some z) (w:World) {ro:Nat→Prop} {μ:Mu}:∃ zv,(zeroValue t).run P w = .ok zv w∧VR P w ro μ z zv∧(P.info? t).bind (·.zero)=some zv:=by
 simp only [zeroOf,Option.bind_eq_bind,Option.bind_eq_some_iff] at h
 obtain ⟨i,hi,zv,hz,hc⟩:=h
 exact ⟨zv,by simp [zeroValue,typeInfo,hi,hz],cvl_sound 3 zv z hc,by simp [hi,hz]⟩
theorem mapM_places {P:Program} (fs:Array Field) (h:fs.all (fun f=>(szOf P f.type).isSome)=true) (w:World) :
  (fs.mapM fun f=>do pure (f.offset,← sizeOf f.type):Sem (Array (Nat × Nat))).run P w = .ok (fs.map fun f=>(f.offset,(szOf P f.type).getD 0)) w:=by
 rw [Array.mapM_eq_mapM_toList]
 have:∀ (l:List Field),(∀ f ∈ l,(szOf P f.type).isSome=true)→(l.mapM fun f=>do pure (f.offset,← sizeOf f.type):Sem (List (Nat × Nat))).run P w = .ok (l.map fun f=>(f.offset,(szOf P f.type).getD 0)) w:=by
  intro l
  induction l with
  | nil=>intro _; simp
  | cons f r ih=>
   intro hl
   obtain ⟨n,hn⟩:=Option.isSome_iff_exists.1 (hl f (by simp))
   have hr:=ih (fun g hg=>hl g (by simp [hg]))
   simp only [List.mapM_cons,Sem.run_bind,sizeOf_run hn,Sem.run_pure,Result.andThen_ok,hr,List.map_cons,hn,Option.getD_some]
 have h2:=this fs.toList (fun f hf=>by
  rw [Array.all_eq_true'] at h
  exact h f (by simpa using hf))
 simp only [Sem.run_map,h2,Result.andThen_ok]
 congr 1
 apply Array.ext'
 simp
theorem cparts_congr {p q:Nat→Option (Nat × Nat)} (h:∀ i x,p i=some x→q i=some x):∀ {ps:List (Nat × Operand)} {as:List (Nat × Nat × AOpnd)},cparts p ps=some as→cparts q ps=some as
 | [],as,hh=>hh
 | (i,x)::r,as,hh=>by
  simp only [cparts,Option.bind_eq_bind,Option.bind_eq_some_iff,Option.pure_def] at hh ⊢
  obtain ⟨pl,hp,ax,hx,ar,hr,e⟩:=hh
  exact ⟨pl,h i pl hp,ax,hx,ar,cparts_congr h hr,e⟩
theorem do_buildS {P:Program} {w:World} {ro:Nat→Prop} {μ:Mu} {T:Env} {a:Act} (hT:TR P w ro μ T a.tmps) {t:TypeId} {z:AVal} {fs:Array Field} {ps:Array (Nat × Operand)} {as:List (Nat × Nat × AOpnd)} {vs:List (Nat × Nat × AVal)} {cs:List AVal}
  (hz:zeroOf P t=some z) (hu:P.underlying t=some (.struct fs)) (hp:cparts (fun i=>do
    let f ← fs[i]?
    let n ← szOf P f.type
    pure (f.offset,n)) ps.toList=some as) (hall:fs.all (fun f=>(szOf P f.type).isSome)=true) (hv:T.parts as=some vs) (hf:afill z.cells vs=some cs) :
  ∃ v',(Instr.build t (ps.map fun (i,x)=>(i,a.eval x))).run P w = .ok v' w∧VR P w ro μ (.agg cs) v':=by
 obtain ⟨zv,hzr,hzv,_⟩:=zeroOf_sound hz w (ro:=ro) (μ:=μ)
 obtain ⟨c',hc',hvr⟩:=afill_sound (fun i=>(fs.map fun f=>(f.offset,(szOf P f.type).getD 0))[i]?) hT ps.toList as vs z.cells cs zv.cells (cparts_congr (fun i x hx=>by
  simp only [Option.bind_eq_bind,Option.bind_eq_some_iff,Option.pure_def] at hx
  obtain ⟨f,hf,n,hn,e⟩:=hx
  injection e with e; subst e
  simp [Array.getElem?_map,hf,hn]) hp) hv hf hzv.cells
 refine ⟨.agg c',?_,⟨c',rfl,hvr⟩⟩
 have hl:(ps.map fun (i,x)=>(i,a.eval x)).toList=ps.toList.map fun p=>(p.1,a.eval p.2):=by simp
 simp only [Instr.build,Sem.run_bind,hzr,Result.andThen_ok,run_underlying hu,mapM_places fs hall,Sem.run_pure,hl,hc']
theorem do_buildA {P:Program} {w:World} {ro:Nat→Prop} {μ:Mu} {T:Env} {a:Act} (hT:TR P w ro μ T a.tmps) {t e:TypeId} {z:AVal} {len n:Nat} {ps:Array (Nat × Operand)} {as:List (Nat × Nat × AOpnd)} {vs:List (Nat × Nat × AVal)} {cs:List AVal}
  (hz:zeroOf P t=some z) (hu:P.underlying t=some (.array len e)) (hn:szOf P e=some n) (hp:cparts (fun i=>some (i * n,n)) ps.toList=some as) (hv:T.parts as=some vs) (hf:afill z.cells vs=some cs) :
  ∃ v',(Instr.build t (ps.map fun (i,x)=>(i,a.eval x))).run P w = .ok v' w∧VR P w ro μ (.agg cs) v':=by
 obtain ⟨zv,hzr,hzv,_⟩:=zeroOf_sound hz w (ro:=ro) (μ:=μ)
 obtain ⟨c',hc',hvr⟩:=afill_sound _ hT ps.toList as vs z.cells cs zv.cells hp hv hf hzv.cells
 refine ⟨.agg c',?_,⟨c',rfl,hvr⟩⟩
 have hl:(ps.map fun (i,x)=>(i,a.eval x)).toList=ps.toList.map fun p=>(p.1,a.eval p.2):=by simp
 simp only [Instr.build,Sem.run_bind,hzr,Result.andThen_ok,run_underlying hu,sizeOf_run hn,Sem.run_pure,hl,hc']
theorem madeCells_toList (z:Array Value) (n k:Nat) (h:z.size=n) (hn:n≠0):(madeCells z (k * n)).toList=(List.replicate k z.toList).flatten:=by
 unfold madeCells
 simp only [Array.toList_map,Array.toList_range]
 induction k with
 | zero=>simp
 | succ k ih=>
  rw [Nat.succ_mul,List.range_add,List.map_append,ih,List.replicate_succ',List.flatten_append]
  congr 1
  simp only [List.map_map,List.flatten_cons,List.flatten_nil,List.append_nil]
  apply List.ext_getElem?
  intro i
  by_cases hi:i < n
  ·have e:(k * n+i) % z.size=i:=by rw [h,Nat.mul_comm,Nat.mul_add_mod,Nat.mod_eq_of_lt hi]
   simp [hi,e,Nat.mod_eq_of_lt hi,h,getElem!_pos,show i < z.size by omega]
  ·simp [hi,h]
theorem VRs.flat_rep {P:Program} {w:World} {ro:Nat→Prop} {μ:Mu} {as:List AVal} {vs:List Value} (h:VRs P w ro μ as vs):∀ k,VRs P w ro μ (List.replicate k as).flatten (List.replicate k vs).flatten
 | 0=>by simp [VRs]
 | k+1=>by
  simp only [List.replicate_succ,List.flatten_cons]
  exact h.append (VRs.flat_rep h k)
theorem do_brow {P:Program} {w:World} {ro:Nat→Prop} {μ:Mu} {H:AHeap} {T:Env} {a:Act} (hg:Good P w ro μ H) (hT:TR P w ro μ T a.tmps) {t e:TypeId} {z:AVal} {len n:Nat} {ps:Array (Nat × Operand)} {as:List (Nat × Nat × AOpnd)} {vs:List (Nat × Nat × AVal)} {cs:List AVal}
  (hu:P.underlying t=some (.slice e)) (hn:szOf P e=some n) (hz:zeroOf P e=some z) (hp:cparts (fun i=>some (i * n,n)) ps.toList=some as) (h24:len * n≤2 ^ 24) (hzn:z.cells.length=n) (hn0:n≠0)
  (hv:T.parts as=some vs) (hf:afill (List.replicate len z.cells).flatten vs=some cs) :
  ∃ v' w' ro',(Instr.buildSlice t len (ps.map fun (i,x)=>(i,a.eval x))).run P w = .ok v' w'∧VR P w' ro' μ (.ros cs len) v'∧Good P w' ro' μ H∧Out w ro μ H w' ro' μ H:=by
 obtain ⟨zv,hzr,hzv,_⟩:=zeroOf_sound hz w (ro:=ro) (μ:=μ)
 have hzc:=hzv.cells
 have hzl:zv.cells.size=n:=by have:=hzc.len; simp at this; omega
 have hinit:VRs P w ro μ (List.replicate len z.cells).flatten (madeCells zv.cells (len * n)).toList:=by
  rw [madeCells_toList _ n len hzl hn0]; exact hzc.flat_rep len
 obtain ⟨c',hc',hvr⟩:=afill_sound _ hT ps.toList as vs _ cs (madeCells zv.cells (len * n)) hp hv hf hinit
 have hl:(ps.map fun (i,x)=>(i,a.eval x)).toList=ps.toList.map fun p=>(p.1,a.eval p.2):=by simp
 have hcl:=hvr.len
 simp only [Array.length_toList] at hcl
 have hh:(w.alloc (.cells c' e)).heap=w.heap.push (.cells c' e (0,0)):=rfl
 have hk:Keep w (w.alloc (.cells c' e)) (Lv μ H):=Keep.push (o:=.cells c' e (0,0)) rfl rfl rfl rfl
 have hsame:∀ b:Nat,b < w.heap.size→(w.alloc (.cells c' e)).heap[b]? = w.heap[b]? :=fun b hb=>by rw [hh,Array.getElem?_push,if_neg (by omega)]
 have hx:Ext w ro μ (w.alloc (.cells c' e)) (fun b=>ro b∨b=w.heap.size) μ:=⟨fun _ h=>.inl h,fun _ _ _ h=>h,fun b hb=>hsame b (hg.rolt b hb),hk.shape⟩
 have hnew:(w.alloc (.cells c' e)).heap[w.heap.size]? = some (Obj.cells c' e (0,0)):=by rw [hh]; simp
 refine ⟨.slice (some ⟨w.heap.size,0,none⟩) len len,w.alloc (.cells c' e),fun b=>ro b∨b=w.heap.size,?_,⟨w.heap.size,0,len,none,rfl,Nat.le_refl _,fun _=>⟨.inr rfl,rfl⟩,?_⟩,?_,?_⟩
 ·simp only [Instr.buildSlice,Sem.run_bind,run_underlying hu,Result.andThen_ok,sizeOf_run hn,Sem.run_ite,hl]
  rw [if_neg (show ¬ (len * n > 2 ^ 24) by omega)]
  by_cases h0:len * n=0
  ·have hm:((Array.range (len * n)).map (fun x=>(#[]:Array Value)[x % (#[]:Array Value).size]!))=madeCells zv.cells (len * n):=by simp [h0,madeCells]
   rw [if_pos h0]
   simp only [Sem.run_bind,Sem.run_pure,Result.andThen_ok,hm,hc']
   simp [newRow]
  ·have hm:((Array.range (len * n)).map (fun x=>zv.cells[x % zv.cells.size]!))=madeCells zv.cells (len * n):=rfl
   rw [if_neg h0]
   simp only [Sem.run_bind,hzr,Sem.run_pure,Result.andThen_ok,hm,hc']
   simp [newRow]
 ·rw [VRat_iff]
  intro i a ha
  have hi:i < cs.length:=(List.getElem?_eq_some_iff.1 ha).1
  have hcell:∀ w1:World,w1.heap[w.heap.size]? = some (Obj.cells c' e (0,0))→w1.cell? ⟨w.heap.size,0+i,none⟩=some c'[i]:=fun w1 h1=>by simp [World.cell?,h1,show i < c'.size by omega]
  refine ⟨c'[i],hcell _ hnew,?_⟩
  exact (((VRs_iff _ _).1 hvr).2 i a _ ha (by simp [show i < c'.size by omega])).ext hx _ _
 ·exact ⟨fun id k b base h1 h2=>BR.ext hx (hsame b (hg.lt _ _ _ h2)) (hg.blk id k b base h1 h2),fun id b base h=>Nat.lt_of_lt_of_le (hg.lt _ _ _ h) hk.size,fun id k b base h1 h2 hb=>hb.elim (hg.nro id k b base h1 h2) fun hb=>by have:=hg.lt _ _ _ h2; omega,hg.inj,hg.new,
   fun b hb=>by
    have:(w.alloc (.cells c' e)).heap.size=w.heap.size+1:=by rw [hh]; simp
    rcases hb with hb | hb
    ·have:=hg.rolt b hb; omega
    ·omega,hg.glob.ext hx⟩
 ·exact ⟨Nat.le_refl _,fun _ _=>rfl,fun _ h=>.inl h,fun b hb=>hb.elim .inl fun hb=>.inr (.inr (by omega)),fun b h=>.inl h,hk⟩
theorem do_bslice {P:Program} {w:World} {ro:Nat→Prop} {μ:Mu} {H:AHeap} {T:Env} {a:Act} (hg:Good P w ro μ H) (hT:TR P w ro μ T a.tmps) {t e:TypeId} {z:AVal} {len n:Nat} {ps:Array (Nat × Operand)} {as:List (Nat × Nat × AOpnd)} {vs:List (Nat × Nat × AVal)} {cs:List AVal}
  (hu:P.underlying t=some (.slice e)) (hn:szOf P e=some n) (hz:zeroOf P e=some z) (hp:cparts (fun i=>some (i * n,n)) ps.toList=some as) (h24:len * n≤2 ^ 24) (hzn:z.cells.length=n) (hn0:n≠0)
  (hv:T.parts as=some vs) (hf:afill (List.replicate len z.cells).flatten vs=some cs) :
  ∃ v' w' μ',(Instr.buildSlice t len (ps.map fun (i,x)=>(i,a.eval x))).run P w = .ok v' w'∧VR P w' ro μ' (.sl H.next 0 len (some len)) v'∧Good P w' ro μ' (H.push (.cells e cs))∧Out w ro μ H w' ro μ' (H.push (.cells e cs)):=by
 obtain ⟨zv,hzr,hzv,_⟩:=zeroOf_sound hz w (ro:=ro) (μ:=μ)
 have hzc:=hzv.cells
 have hzl:zv.cells.size=n:=by have:=hzc.len; simp at this; omega
 have hinit:VRs P w ro μ (List.replicate len z.cells).flatten (madeCells zv.cells (len * n)).toList:=by
  rw [madeCells_toList _ n len hzl hn0]; exact hzc.flat_rep len
 obtain ⟨c',hc',hvr⟩:=afill_sound _ hT ps.toList as vs _ cs (madeCells zv.cells (len * n)) hp hv hf hinit
 have hl:(ps.map fun (i,x)=>(i,a.eval x)).toList=ps.toList.map fun p=>(p.1,a.eval p.2):=by simp
 have hcl:=hvr.len
 simp only [Array.length_toList] at hcl
 have hpost:=new_cells (w':=w.alloc (.cells c' e)) (e:=e) (fr:=(0,0)) hg rfl rfl rfl rfl (fun i _=>by simp) (by omega) (VRs.refl_toList hvr)
 refine ⟨.slice (some ⟨w.heap.size,0,none⟩) len len,w.alloc (.cells c' e),μ.put H.next w.heap.size 0,?_,?_,hpost⟩
 ·simp only [Instr.buildSlice,Sem.run_bind,run_underlying hu,Result.andThen_ok,sizeOf_run hn,Sem.run_ite,hl]
  rw [if_neg (show ¬ (len * n > 2 ^ 24) by omega)]
  by_cases h0:len * n=0
  ·have hm:((Array.range (len * n)).map (fun x=>(#[]:Array Value)[x % (#[]:Array Value).size]!))=madeCells zv.cells (len * n):=by simp [h0,madeCells]
   rw [if_pos h0]
   simp only [Sem.run_bind,Sem.run_pure,Result.andThen_ok,hm,hc']
   simp [newRow]
  ·have hm:((Array.range (len * n)).map (fun x=>zv.cells[x % zv.cells.size]!))=madeCells zv.cells (len * n):=rfl
   rw [if_neg h0]
   simp only [Sem.run_bind,hzr,Sem.run_pure,Result.andThen_ok,hm,hc']
   simp [newRow]
 ·have hnew:(w.alloc (.cells c' e)).heap[w.heap.size]? = some (Obj.cells c' e (0,0)):=by
   show (w.heap.push _)[w.heap.size]? = _; simp
  exact ⟨w.heap.size,0,c',e,(0,0),len,by simp [Mu.put],hnew,rfl,Nat.le_refl _,rfl⟩
end Go.Am
