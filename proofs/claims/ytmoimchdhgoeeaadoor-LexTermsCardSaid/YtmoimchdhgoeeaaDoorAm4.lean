/- One operation: what it does to a world that realizes a state. The memory's part. -/
import Derived.Test.YtmoimchdhgoeeaaDoorAm3
import Derived.Laws.IdiomCopy
import Derived.Laws.IdiomStrings
import Derived.Laws.MakeOwn
import Derived.Laws.BytesString
set_option linter.unusedVariables false
set_option linter.unusedSimpArgs false
namespace Go.Am
open Go.RowKit
def Does (P:Program) (s:Sem Next) (w:World) (ro:Nat→Prop) (μ:Mu) (H:AHeap) (v:AVal) (H':AHeap):Prop:=
  ∃ v' w' ro' μ',(s.run P w = .ok (.value v') w'∨(s.run P w = .ok .skip w'∧v'=undef))∧VR P w' ro' μ' v v'∧Good P w' ro' μ' H'∧Out w ro μ H w' ro' μ' H'
theorem Does.same {P:Program} {s:Sem Next} {w:World} {ro:Nat→Prop} {μ:Mu} {H:AHeap} {v:AVal} {v':Value} (hg:Good P w ro μ H) (h:s.run P w = .ok (.value v') w) (hv:VR P w ro μ v v') :
    Does P s w ro μ H v H:=⟨v',w,ro,μ,.inl h,hv,hg,Out.refl _ _ _ _⟩
theorem cell?_of_heap {w w':World} (h:w'.heap=w.heap) (a:Addr):w'.cell? a=w.cell? a:=by unfold World.cell?; rw [h]
theorem Good.step {P:Program} {w w':World} {ro:Nat→Prop} {μ μ':Mu} {H H':AHeap} (hg:Good P w ro μ H) (hk:Keep w w' (Lv μ H)) (hn:H.next≤H'.next) (hs:∀ id,id < H.next→μ' id=μ id)
    (hnew:∀ id,H'.next≤id→μ' id=none) (hlt:∀ (id b base:Nat),μ' id=some (b,base)→b < w'.heap.size)
    (hblk:∀ (id:Nat) (k:ABlk) (b base:Nat),H'.get id=some k→μ' id=some (b,base)→
      (H.get id=some k∧μ id=some (b,base)∧w'.heap[b]? = w.heap[b]?)∨(BR P w' ro μ' b base k∧¬ ro b∧(Lv μ H b∨w.heap.size≤b)))
    (hinj:∀ (i j:Nat) (ki kj:ABlk) (b oi oj:Nat),H'.get i=some ki→H'.get j=some kj→μ' i=some (b,oi)→μ' j=some (b,oj)→i=j) :
    Good P w' ro μ' H'∧Out w ro μ H w' ro μ' H':=by
  have ho:Out w ro μ H w' ro μ' H':=⟨hn,hs,fun _ h=>h,fun _ h=>.inl h,fun b ⟨id,k,base,hk',hm⟩=>by
    rcases hblk id k b base hk' hm with ⟨h1,h2,_⟩ | ⟨_,_,h⟩
    · exact .inl ⟨id,k,base,h1,h2⟩
    · exact h,hk⟩
  have he:=Out.ext hg ho
  refine ⟨⟨fun id k b base hk' hm=> ?_,hlt,fun id k b base hk' hm=> ?_,hinj,hnew,fun b hb=>Nat.lt_of_lt_of_le (hg.rolt b hb) hk.size,hg.glob.ext he⟩,ho⟩
  · rcases hblk id k b base hk' hm with ⟨h1,h2,h3⟩ | ⟨h,_,_⟩
    · exact (hg.blk id k b base h1 h2).ext he h3
    · exact h
  · rcases hblk id k b base hk' hm with ⟨h1,h2,_⟩ | ⟨_,h,_⟩
    · exact hg.nro id k b base h1 h2
    · exact h
def Mu.put (μ:Mu) (id b base:Nat):Mu:=fun j=>if j=id then some (b,base) else μ j
theorem Keep.push {w w':World} {L:Nat→Prop} {o:Obj} (h:w'.heap=w.heap.push o) (h1:w'.os=w.os) (h2:w'.tape=w.tape) (h3:w'.output=w.output):Keep w w' L:=
  ⟨by rw [h]; simp,fun b hb _=>by rw [h,Array.getElem?_push,if_neg (by omega)],
   fun b c e fr hc=>⟨c,fr,by
    have:b < w.heap.size:=(Array.getElem?_eq_some_iff.1 hc).1
    rw [h,Array.getElem?_push,if_neg (by omega)]; exact hc,rfl⟩,h1,h2,h3⟩
theorem Good.push {P:Program} {w w':World} {ro:Nat→Prop} {μ:Mu} {H:AHeap} {o:Obj} {k:ABlk} (hg:Good P w ro μ H) (h:w'.heap=w.heap.push o) (h1:w'.os=w.os) (h2:w'.tape=w.tape) (h3:w'.output=w.output)
    (hb:BR P w' ro (μ.put H.next w.heap.size 0) w.heap.size 0 k):Good P w' ro (μ.put H.next w.heap.size 0) (H.push k)∧Out w ro μ H w' ro (μ.put H.next w.heap.size 0) (H.push k):=by
  have hsz:w'.heap.size=w.heap.size+1:=by rw [h]; simp
  refine hg.step (Keep.push h h1 h2 h3) (by simp) (fun id hi=>by unfold Mu.put; rw [if_neg (by omega)]) (fun id hi=>by
    simp at hi; unfold Mu.put; rw [if_neg (by omega)]; exact hg.new id (by omega)) (fun id b base hm=> ?_) (fun id k' b base hk hm=> ?_) (fun i j ki kj b oi oj hi hj mi mj=> ?_)
  · unfold Mu.put at hm
    split at hm
    · injection hm with hm; injection hm with hm _; omega
    · have:=hg.lt id b base hm; omega
  · rw [AHeap.get_push] at hk
    unfold Mu.put at hm
    split at hk
    · rename_i hid
      rw [if_pos hid] at hm
      injection hm with hm; injection hm with hm1 hm2
      injection hk with hk
      subst hk; subst hm1; subst hm2
      exact .inr ⟨hb,fun hr=>absurd (hg.rolt _ hr) (by omega),.inr (Nat.le_refl _)⟩
    · rename_i hid
      rw [if_neg hid] at hm
      have:=hg.lt id b base hm
      exact .inl ⟨hk,hm,by rw [h,Array.getElem?_push,if_neg (by omega)]⟩
  · rw [AHeap.get_push] at hi hj
    unfold Mu.put at mi mj
    by_cases ei:i=H.next
    · by_cases ej:j=H.next
      · omega
      · rw [if_pos ei] at mi; rw [if_neg ej] at mj
        injection mi with mi; injection mi with mi _
        have:=hg.lt j b oj mj; omega
    · by_cases ej:j=H.next
      · rw [if_neg ei] at mi; rw [if_pos ej] at mj
        injection mj with mj; injection mj with mj _
        have:=hg.lt i b oi mi; omega
      · rw [if_neg ei] at hi mi; rw [if_neg ej] at hj mj
        exact hg.inj i j ki kj b oi oj hi hj mi mj
theorem Good.put {P:Program} {w w':World} {ro:Nat→Prop} {μ:Mu} {H:AHeap} {id b base:Nat} {k k':ABlk} (hg:Good P w ro μ H) (hid:H.get id=some k) (hm:μ id=some (b,base))
    (hk:Keep w w' (fun x=>x=b)) (hb:BR P w' ro μ b base k') (hsz:w'.heap.size=w.heap.size):Good P w' ro μ (H.set id k')∧Out w ro μ H w' ro μ (H.set id k'):=by
  have hnro:=hg.nro id k b base hid hm
  have hLv:Lv μ H b:=⟨id,k,base,hid,hm⟩
  refine hg.step (hk.mono fun x hx=>hx ▸ hLv) (by simp) (fun _ _=>rfl) (fun i hi=>hg.new i hi) (fun i x o hx=>by rw [hsz]; exact hg.lt i x o hx) (fun i ki x o hi hx=> ?_) (fun i j ki kj x oi oj hi hj mi mj=> ?_)
  · rw [AHeap.get_set,if_pos (AHeap.get_lt hid)] at hi
    split at hi
    · rename_i e; subst e
      injection hi with hi; subst hi
      rw [hm] at hx; injection hx with hx; injection hx with hx1 hx2; subst hx1; subst hx2
      exact .inr ⟨hb,hnro,.inl hLv⟩
    · rename_i e
      refine .inl ⟨hi,hx,hk.same x (hg.lt i x o hx) (fun e'=>e (hg.inj i id ki k x o base hi hid hx (by rw [e']; exact hm)))⟩
  · rw [AHeap.get_set,if_pos (AHeap.get_lt hid)] at hi hj
    have g:∀ n kn,(if n=id then some k' else H.get n)=some kn→∃ kn',H.get n=some kn':=by
      intro n kn h
      split at h
      · rename_i e; exact ⟨k,by rw [e]; exact hid⟩
      · exact ⟨kn,h⟩
    obtain ⟨a,ha⟩:=g i ki hi
    obtain ⟨c,hc⟩:=g j kj hj
    exact hg.inj i j a c x oi oj ha hc mi mj
theorem Good.renew {P:Program} {w w':World} {ro:Nat→Prop} {μ:Mu} {H:AHeap} {id b base base':Nat} {k k':ABlk} (hg:Good P w ro μ H) (hid:H.get id=some k) (hm:μ id=some (b,base))
    (hk:Keep w w' (fun x=>x=b)) (hb:BR P w' ro (μ.put H.next b base') b base' k') (hsz:w'.heap.size=w.heap.size) :
    Good P w' ro (μ.put H.next b base') ((H.del id).push k')∧Out w ro μ H w' ro (μ.put H.next b base') ((H.del id).push k'):=by
  have hnro:=hg.nro id k b base hid hm
  have hLv:Lv μ H b:=⟨id,k,base,hid,hm⟩
  have hblt:=hg.lt id b base hm
  have hne:id≠H.next:=by have:=AHeap.get_lt hid; omega
  have hget:∀ j kj,((H.del id).push k').get j=some kj→(j=H.next∧kj=k')∨(j≠H.next∧j≠id∧H.get j=some kj):=by
    intro j kj h
    rw [AHeap.get_push] at h
    split at h
    · rename_i e; injection h with h; exact .inl ⟨e,h.symm⟩
    · rename_i e
      rw [AHeap.get_del] at h
      split at h
      · cases h
      · rename_i e'; exact .inr ⟨e,e',h⟩
  refine hg.step (hk.mono fun x hx=>hx ▸ hLv) (by simp) (fun i hi=>by unfold Mu.put; rw [if_neg (by omega)]) (fun i hi=>by
    simp at hi; unfold Mu.put; rw [if_neg (by omega)]; exact hg.new i (by omega)) (fun i x o hx=> ?_) (fun i ki x o hi hx=> ?_) (fun i j ki kj x oi oj hi hj mi mj=> ?_)
  · rw [hsz]
    unfold Mu.put at hx
    split at hx
    · injection hx with hx; injection hx with hx _; omega
    · exact hg.lt i x o hx
  · unfold Mu.put at hx
    rcases hget i ki hi with ⟨e,rfl⟩ | ⟨e,e',h⟩
    · rw [if_pos e] at hx; injection hx with hx; injection hx with hx1 hx2; subst hx1; subst hx2
      exact .inr ⟨hb,hnro,.inl hLv⟩
    · rw [if_neg e] at hx
      exact .inl ⟨h,hx,hk.same x (hg.lt i x o hx) (fun e1=>e' (hg.inj i id ki k x o base h hid hx (by rw [e1]; exact hm)))⟩
  · unfold Mu.put at mi mj
    rcases hget i ki hi with ⟨e,rfl⟩ | ⟨e,e',h⟩
    · rcases hget j kj hj with ⟨f,rfl⟩ | ⟨f,f',h2⟩
      · omega
      · rw [if_pos e] at mi; rw [if_neg f] at mj
        injection mi with mi; injection mi with mi _
        exact absurd (hg.inj j id kj k x oj base h2 hid mj (by rw [← mi]; exact hm)) f'
    · rcases hget j kj hj with ⟨f,rfl⟩ | ⟨f,f',h2⟩
      · rw [if_neg e] at mi; rw [if_pos f] at mj
        injection mj with mj; injection mj with mj _
        exact absurd (hg.inj i id ki k x oi base h hid mi (by rw [← mj]; exact hm)) e'
      · rw [if_neg e] at mi; rw [if_neg f] at mj
        exact hg.inj i j ki kj x oi oj h h2 mi mj
theorem heap_setCells {b:Nat}:∀ (vs:List Value) (o:Nat) (w:World) (x:Nat),x≠b→(w.setCells b o vs).heap[x]? = w.heap[x]?
  | [],_,_,_,_=>rfl
  | v::r,o,w,x,h=>by
    rw [World.setCells,heap_setCells r (o+1) _ x h]
    exact Below.heap_setCell _ _ _ _ h
theorem setCells_shape {b:Nat}:∀ (vs:List Value) (o:Nat) (w:World) (c:Array Value) (e:TypeId) (fr:Nat × Nat),w.heap[b]? = some (.cells c e fr)→
    ∃ c',(w.setCells b o vs).heap[b]? = some (.cells c' e fr)∧c'.size=c.size
  | [],_,_,c,_,_,h=>⟨c,h,rfl⟩
  | v::r,o,w,c,e,fr,h=>by
    have h1:(w.setCell ⟨b,o,none⟩ v).heap[b]? = some (.cells (c.setIfInBounds o v) e fr):=by
      simp [World.setCell,Array.getElem?_modify,h]
    obtain ⟨c',h2,h3⟩:=setCells_shape r (o+1) _ _ _ _ h1
    exact ⟨c',h2,by simpa using h3⟩
theorem setCells_rest {b:Nat}:∀ (vs:List Value) (o:Nat) (w:World),(w.setCells b o vs).os=w.os∧(w.setCells b o vs).tape=w.tape∧(w.setCells b o vs).output=w.output∧(w.setCells b o vs).heap.size=w.heap.size
  | [],_,_=>⟨rfl,rfl,rfl,rfl⟩
  | v::r,o,w=>by
    obtain ⟨h1,h2,h3,h4⟩:=setCells_rest (b:=b) r (o+1) (w.setCell ⟨b,o,none⟩ v)
    exact ⟨h1,h2,h3,h4.trans (by simp)⟩
theorem Keep.setCells {w:World} {b o:Nat} {vs:List Value} {c:Array Value} {e:TypeId} {fr:Nat × Nat} (h:w.heap[b]? = some (.cells c e fr)):Keep w (w.setCells b o vs) (fun x=>x=b):=by
  obtain ⟨h1,h2,h3,h4⟩:=setCells_rest (b:=b) vs o w
  refine ⟨by omega,fun x _ hx=>heap_setCells vs o w x hx,fun x c' e' fr' hc=> ?_,h1,h2,h3⟩
  by_cases hx:x=b
  · subst hx
    rw [h] at hc; injection hc with hc; injection hc with hc1 hc2 hc3; subst hc1; subst hc2; subst hc3
    obtain ⟨c',h5,h6⟩:=setCells_shape vs o w c e fr h
    exact ⟨c',fr,h5,h6⟩
  · exact ⟨c',fr',by rw [heap_setCells vs o w x hx]; exact hc,rfl⟩
theorem VR.one {P:Program} {w:World} {ro:Nat→Prop} {μ:Mu} {a:AVal} {v:Value} (h:VR P w ro μ a v) (h1:a.one=true):v.oneCell'=true∧v.cells = #[v]:=by
  cases a <;> (try simp only [VR] at h) <;> (try (subst h; exact ⟨rfl,rfl⟩))
  · obtain ⟨b,base,_,rfl⟩:=h; exact ⟨rfl,rfl⟩
  · obtain ⟨b,o,sp,rfl,_⟩:=h; exact ⟨rfl,rfl⟩
  · obtain ⟨b,base,c,e,fr,k,_,_,rfl,_⟩:=h; exact ⟨rfl,rfl⟩
  · obtain ⟨b,o,k,sp,rfl,_⟩:=h; exact ⟨rfl,rfl⟩
  · obtain ⟨b,_,rfl⟩:=h; exact ⟨rfl,rfl⟩
  · obtain ⟨fs,cs,rfl,_⟩:=h; exact ⟨rfl,rfl⟩
  · obtain ⟨u,rfl,_⟩:=h; exact ⟨rfl,rfl⟩
  · cases h1
  · cases h1
  · obtain ⟨b,rfl,_⟩:=h; exact ⟨rfl,rfl⟩
theorem VR.cells {P:Program} {w:World} {ro:Nat→Prop} {μ:Mu} {a:AVal} {v:Value} (h:VR P w ro μ a v):VRs P w ro μ a.cells v.cells.toList:=by
  by_cases h1:a.one=true
  · have hc:=(h.one h1).2
    rw [hc]
    cases a <;> first | (cases h1; done) | exact ⟨_,_,rfl,h,rfl⟩
  · cases a <;> (try (exact absurd rfl h1))
    · obtain ⟨vs,rfl,h⟩:=h; exact h
    · obtain ⟨vs,rfl,h'⟩:=h; exact ⟨_,_,rfl,⟨vs,rfl,h'⟩,rfl⟩
theorem VRs.allOne {P:Program} {w:World} {ro:Nat→Prop} {μ:Mu}:∀ {as:List AVal} {vs:List Value},VRs P w ro μ as vs→ones as=true→∀ v ∈ vs,v.oneCell'=true
  | [],vs,h,_=>by simp only [VRs] at h; subst h; simp
  | a::as,vs,h,ho=>by
    obtain ⟨u,r,rfl,hu,hr⟩:=h
    simp only [ones,List.all_cons,Bool.and_eq_true] at ho
    intro v hv
    rcases List.mem_cons.1 hv with rfl | hv
    · exact (hu.one ho.1).1
    · exact VRs.allOne hr ho.2 v hv
theorem VRs.len {P:Program} {w:World} {ro:Nat→Prop} {μ:Mu} {as:List AVal} {vs:List Value} (h:VRs P w ro μ as vs):as.length=vs.length:=((VRs_iff as vs).1 h).1
theorem VRs.append {P:Program} {w:World} {ro:Nat→Prop} {μ:Mu}:∀ {as:List AVal} {vs:List Value} {bs:List AVal} {us:List Value},VRs P w ro μ as vs→VRs P w ro μ bs us→VRs P w ro μ (as++bs) (vs++us)
  | [],vs,bs,us,h,k=>by simp only [VRs] at h; subst h; exact k
  | a::as,vs,bs,us,h,k=>by
    obtain ⟨u,r,rfl,hu,hr⟩:=h
    exact ⟨u,r++us,rfl,hu,VRs.append hr k⟩
theorem VRs.take {P:Program} {w:World} {ro:Nat→Prop} {μ:Mu} {as:List AVal} {vs:List Value} (h:VRs P w ro μ as vs) (n:Nat):VRs P w ro μ (as.take n) (vs.take n):=by
  rw [VRs_iff] at h ⊢
  refine ⟨by simp [h.1],fun i a v ha hv=> ?_⟩
  rw [List.getElem?_take] at ha hv
  split at ha
  · rw [if_pos ‹_›] at hv; exact h.2 i a v ha hv
  · cases ha
theorem VRs.drop {P:Program} {w:World} {ro:Nat→Prop} {μ:Mu} {as:List AVal} {vs:List Value} (h:VRs P w ro μ as vs) (n:Nat):VRs P w ro μ (as.drop n) (vs.drop n):=by
  rw [VRs_iff] at h ⊢
  refine ⟨by simp [h.1],fun i a v ha hv=> ?_⟩
  rw [List.getElem?_drop] at ha hv
  exact h.2 _ a v ha hv
theorem VRat.put {P:Program} {w w':World} {ro ro':Nat→Prop} {μ μ':Mu} (he:Ext w ro μ w' ro' μ') {cs new:List AVal} {vs:List Value} {b o off:Nat} (h:VRat P w ro μ cs b o) (hn:VRs P w ro μ new vs) (hl:off+new.length≤cs.length)
    (hw:w'=w.setCells b (o+off) vs):VRat P w' ro' μ' (aput cs off new) b o:=by
  rw [VRat_iff] at h ⊢
  have hlen:=hn.len
  intro i a ha
  unfold aput at ha
  by_cases h1:i < off
  · rw [List.append_assoc,List.getElem?_append_left (by simp; omega),List.getElem?_take,if_pos h1] at ha
    obtain ⟨u,hu,hv⟩:=h i a ha
    refine ⟨u,?_,hv.ext he _ _⟩
    rw [hw,World.cell?_setCells_out b vs _ _ _ (fun _ _=>by simp; omega)]
    exact hu
  · by_cases h2:i < off+new.length
    · rw [List.append_assoc,List.getElem?_append_right (by simp; omega),List.getElem?_append_left (by simp; omega)] at ha
      simp only [List.length_take,Nat.min_eq_left (show off≤cs.length by omega)] at ha
      have hi:i - off < vs.length:=by omega
      refine ⟨vs[i - off],?_,?_⟩
      · have hin:=World.cell?_setCells_in b vs (o+off) w (fun j hj=>by
          obtain ⟨a',ha'⟩:∃ a',cs[off+j]? = some a':=⟨cs[off+j]'(by omega),List.getElem?_eq_getElem _⟩
          obtain ⟨u,hu,_⟩:=h (off+j) a' ha'
          rw [show o+off+j=o+(off+j) by omega,hu]; rfl) (i - off) hi
        rw [hw,show o+i=o+off+(i - off) by omega]
        simpa [List.getElem?_eq_getElem hi] using hin
      · exact (((VRs_iff _ _).1 hn).2 (i - off) a _ ha (List.getElem?_eq_getElem hi)).ext he _ _
    · rw [List.getElem?_append_right (by simp; omega),List.getElem?_drop] at ha
      simp only [List.length_append,List.length_take,Nat.min_eq_left (show off≤cs.length by omega)] at ha
      rw [show off+new.length+(i - (off+new.length))=i by omega] at ha
      obtain ⟨u,hu,hv⟩:=h i a ha
      refine ⟨u,?_,hv.ext he _ _⟩
      rw [hw,World.cell?_setCells_out b vs _ _ _ (fun _ _=>by simp; omega)]
      exact hu
theorem frozen_of {w:World} {b:Nat} {c:Array Value} {e:TypeId} {fr:Nat × Nat} (h:w.heap[b]? = some (.cells c e fr)) {i:Nat} (hi:¬ (fr.1≤i∧i < fr.2)):w.frozen? ⟨b,i,none⟩=false:=by
  obtain ⟨lo,hi'⟩:=fr
  simp only [World.frozen?,h]
  simp only [Bool.and_eq_false_iff,decide_eq_false_iff_not] at *
  omega
end Go.Am
