/- Ways through maps. -/
import Derived.Test.YtmoimchdhgoeeaaDoorAm14
set_option linter.unusedVariables false
set_option linter.unusedSimpArgs false
namespace Go.Am
theorem ERs.all {P:Program} {w:World} {ro:Nat→Prop} {μ:Mu} (f:Nat→Bool):∀ {es:List AEntry} {ms:List MapEntry},ERs P w ro μ es ms→es.all (fun e=>f e.born)=ms.all (fun e=>f e.born)
 | [],ms,h=>by cases h; rfl
 | e::es,ms,⟨m,r,hm,he,hr⟩=>by
  subst hm
  simp only [List.all_cons,he.2.2.1,ERs.all f hr]
theorem ERs.filter {P:Program} {w:World} {ro:Nat→Prop} {μ:Mu} (f:Nat→Bool):∀ {es:List AEntry} {ms:List MapEntry},ERs P w ro μ es ms→ERs P w ro μ (es.filter fun e=>f e.born) (ms.filter fun e=>f e.born)
 | [],ms,h=>by cases h; rfl
 | e::es,ms,⟨m,r,hm,he,hr⟩=>by
  subst hm
  have ih:=ERs.filter f hr
  simp only [List.filter_cons,he.2.2.1]
  cases f e.born with
  | false=>exact ih
  | true=>exact ⟨m,_,rfl,he,ih⟩
theorem ERs.at' {P:Program} {w:World} {ro:Nat→Prop} {μ:Mu}:∀ {es:List AEntry} {ms:List MapEntry},ERs P w ro μ es ms→∀ (i:Nat) m,ms[i]? = some m→∃ e,es[i]? = some e∧ER P w ro μ e m
 | [],ms,h,i,m,hm=>by cases h; simp at hm
 | e::es,ms,⟨m0,r,hm0,he,hr⟩,i,m,hm=>by
  subst hm0
  cases i with
  | zero=>simp at hm; subst hm; exact ⟨e,by simp,he⟩
  | succ i=>simp at hm; obtain ⟨e',h1,h2⟩:=ERs.at' hr i m hm; exact ⟨e',by simpa using h1,h2⟩
theorem ERs.find {P:Program} {w:World} {ro:Nat→Prop} {μ:Mu} (k:Nat):∀ {es:List AEntry} {ms:List MapEntry},ERs P w ro μ es ms→∀ e,es.find? (fun e=>e.born==k)=some e→∃ m,ms.find? (fun e=>e.born==k)=some m∧ER P w ro μ e m
 | [],ms,h,e,he=>by cases he
 | e0::es,ms,⟨m0,r,hm0,h0,hr⟩,e,he=>by
  subst hm0
  simp only [List.find?_cons,h0.2.2.1] at he ⊢
  cases hb:e0.born==k with
  | true=>rw [hb] at he; cases he; exact ⟨m0,rfl,h0⟩
  | false=>rw [hb] at he; exact ERs.find k hr e he
theorem ERs.empty {P:Program} {w:World} {ro:Nat→Prop} {μ:Mu}:∀ {es:List AEntry} {ms:List MapEntry},ERs P w ro μ es ms→es.isEmpty=ms.isEmpty
 | [],ms,h=>by cases h; rfl
 | e::es,ms,⟨m,r,hm,_⟩=>by subst hm; rfl
theorem do_rngM {P:Program} {w:World} {ro:Nat→Prop} {μ:Mu} {H:AHeap} (hg:Good P w ro μ H) {t k e:TypeId} (hu:P.underlying t=some (.map k e)) {m:Nat} {x':Value} (hx:VR P w ro μ (.map m) x') {es:List AEntry} {clock:Nat} (hm:H.get m=some (.map es clock)) :
  ∃ v' w' μ',(Instr.range t x').run P w = .ok v' w'∧VR P w' ro μ' (.ptr H.next 0) v'∧Good P w' ro μ' (H.push (.miter m clock [] clock))∧Out w ro μ H w' ro μ' (H.push (.miter m clock [] clock)):=by
 obtain ⟨b,hmu,rfl⟩:=hx
 obtain ⟨_,ms,hb,_⟩:=hg.blk m _ b 0 hm hmu
 have hne:m≠H.next:=by have:=AHeap.get_lt hm; omega
 refine ⟨.pointer (some ⟨w.heap.size,0,none⟩),w.alloc (.mapIter (some b) clock #[] clock),μ.put H.next w.heap.size 0,by simp [Instr.range,run_underlying hu,getObj,Sem.run,hb],⟨w.heap.size,0,by simp [Mu.put],rfl⟩,?_⟩
 exact hg.push (o:=.mapIter (some b) clock #[] clock) rfl rfl rfl rfl ⟨rfl,b,by simp [Mu.put,hne,hmu],by show (w.heap.push _)[w.heap.size]? = _; simp⟩
theorem do_entM {P:Program} {w:World} {ro:Nat→Prop} {μ:Mu} {H:AHeap} (hg:Good P w ro μ H) {x:AVal} {x':Value} (hx:VR P w ro μ x x') {v:AVal} (h:aentM H x=some v) :
  ∃ v',(Instr.entry x').run P w = .ok v' w∧VR P w ro μ v v':=by
 unfold aentM at h
 split at h
 case h_2=>cases h
 rename_i r
 split at h
 case h_2=>cases h
 rename_i m since seen stepped hr
 split at h
 case h_2=>cases h
 rename_i stamp es clock hl hm
 split at h
 case isFalse=>cases h
 rename_i hcl
 obtain ⟨e,he,rfl⟩:=Option.map_eq_some_iff.mp h
 obtain ⟨b,base,hmu,rfl⟩:=hx
 obtain ⟨rfl,bm,hbm,hb⟩:=hg.blk r _ b base hr hmu
 obtain ⟨_,ms,hmb,hes⟩:=hg.blk m _ bm 0 hm hbm
 obtain ⟨me,hme,hee⟩:=hes.find stamp e he
 have hback:seen.toArray.back? = some stamp:=by
  rw [← hl]; simp [Array.back?,List.getLast?_eq_getElem?]
 have hfind:ms.find? (·.born==stamp)=some me:=by rw [← Array.find?_toList]; exact hme
 subst hcl
 refine ⟨.tuple #[me.key,me.val],?_,⟨_,rfl,_,_,rfl,hee.1,_,_,rfl,hee.2.1,rfl⟩⟩
 simp [Instr.entry,getObj,Sem.run,hb,hmb,hback,hfind]
def cands (ms:List MapEntry) (since:Nat) (seen:List Nat):List (Option MapEntry):=
 let left:=ms.filter fun e=> !seen.contains e.born
 let old:=left.filter fun e=>decide (e.born < since)
 let new:=left.filter fun e=>decide (since≤e.born)
 (if old.isEmpty then [none] else [])++(old++new).map some
def OR (P:Program) (w:World) (ro:Nat→Prop) (μ:Mu):Option AEntry→Option MapEntry→Prop
 | none,none=>True
 | some e,some m=>ER P w ro μ e m
 | _,_=>False
theorem cands_rel {P:Program} {w:World} {ro:Nat→Prop} {μ:Mu} {es:List AEntry} {ms:List MapEntry} (h:ERs P w ro μ es ms) (since:Nat) (seen:List Nat) {j:Nat} {m:Option MapEntry} (hj:(cands ms since seen)[j]? = some m) :
  ∃ e,(anext es since seen)[j]? = some e∧OR P w ro μ e m:=by
 have hleft:=h.filter fun k=> !seen.contains k
 have hold:=hleft.filter fun k=>decide (k < since)
 have hnew:=hleft.filter fun k=>decide (since≤k)
 have hall:=ERs.append hold hnew
 simp only [cands] at hj
 simp only [anext,hold.empty]
 generalize hb:((ms.filter fun e=> !seen.contains e.born).filter fun e=>decide (e.born < since)).isEmpty=b at hj ⊢
 cases b with
 | false=>
  simp only [Bool.false_eq_true,if_false,List.nil_append,List.getElem?_map] at hj ⊢
  obtain ⟨me,hme,rfl⟩:=Option.map_eq_some_iff.mp hj
  obtain ⟨e,he,her⟩:=hall.at' j me hme
  exact ⟨some e,by rw [he]; rfl,her⟩
 | true=>
  simp only [if_true,List.singleton_append] at hj ⊢
  cases j with
  | zero=>simp only [List.getElem?_cons_zero,Option.some.injEq] at hj; subst hj; exact ⟨none,rfl,trivial⟩
  | succ j=>
   simp only [List.getElem?_cons_succ,List.getElem?_map] at hj ⊢
   obtain ⟨me,hme,rfl⟩:=Option.map_eq_some_iff.mp hj
   obtain ⟨e,he,her⟩:=hall.at' j me hme
   exact ⟨some e,by rw [he]; rfl,her⟩
theorem cands_pos (ms:List MapEntry) (since:Nat) (seen:List Nat):0 < (cands ms since seen).length:=by
 simp only [cands]
 generalize (ms.filter fun e=> !seen.contains e.born).filter (fun e=>decide (e.born < since))=o
 cases o with
 | nil=>simp
 | cons a r=>simp
theorem Good.drew {P:Program} {w:World} {ro:Nat→Prop} {μ:Mu} {H:AHeap} (h:Good P w ro μ H):Good P w.drew ro μ H:=by
 have he:Ext w ro μ w.drew ro μ:=⟨fun _ h=>h,fun _ _ _ h=>h,fun _ _=>rfl,fun _ c _ fr h=>⟨c,fr,h,rfl⟩⟩
 exact ⟨fun id k b base h1 h2=>BR.ext he rfl (h.blk id k b base h1 h2),h.lt,h.nro,h.inj,h.new,h.rolt,h.glob.ext he⟩
theorem Out.drew (w:World) (ro:Nat→Prop) (μ:Mu) (H:AHeap):Out w ro μ H w.drew ro μ H:=
 ⟨Nat.le_refl _,fun _ _=>rfl,fun _ h=>h,fun _ h=>.inl h,fun _ h=>.inl h,⟨Nat.le_refl _,fun _ _ _=>rfl,fun _ c _ fr h=>⟨c,fr,h,rfl⟩,rfl,rfl,rfl⟩⟩
theorem do_nxtM {P:Program} {w:World} {ro:Nat→Prop} {μ:Mu} {H:AHeap} (hg:Good P w ro μ H) {x:AVal} {x':Value} (hx:VR P w ro μ x x') {l:List (AVal × AHeap)} (h:anextM H x=some (.anyOf l)) (t:TypeId) :
  ∃ p ∈ l,∃ v' w',(Instr.next x' false t).run P w = .ok v' w'∧VR P w' ro μ p.1 v'∧Good P w' ro μ p.2∧Out w ro μ H w' ro μ p.2:=by
 unfold anextM at h
 split at h
 case h_2=>cases h
 rename_i r
 split at h
 case h_2=>cases h
 rename_i m since seen last hr
 split at h
 case h_2=>cases h
 rename_i es clock hm
 split at h
 case isTrue=>cases h
 rename_i hno
 injection h with h
 injection h with h
 subst h
 obtain ⟨b,base,hmu,rfl⟩:=hx
 obtain ⟨rfl,bm,hbm,hb⟩:=hg.blk r _ b base hr hmu
 obtain ⟨_,ms,hmb,hes⟩:=hg.blk m _ bm 0 hm hbm
 obtain ⟨L,hL⟩:∃ L,L=cands ms.toList since seen:=⟨_,rfl⟩
 have hpos:0 < L.length:=hL ▸ cands_pos _ _ _
 have htest:(!seen.toArray.isEmpty&& !ms.isEmpty&&ms.all (fun e=>decide (e.born ≥ last)))=false:=by
  have h1:seen.toArray.isEmpty=seen.isEmpty:=by cases seen <;> rfl
  have h2:ms.isEmpty=es.isEmpty:=by rw [hes.empty]; cases ms; simp
  have h3:ms.all (fun e=>decide (e.born ≥ last))=es.all (fun e=>decide (last≤e.born)):=by
   rw [hes.all fun k=>decide (last≤k)]; cases ms; simp
  rw [h1,h2,h3]
  cases hh:(!seen.isEmpty&& !es.isEmpty&&es.all fun e=>decide (last≤e.born)) with
  | false=>rfl
  | true=>exact absurd hh hno
 have hcand:((if (Array.filter (fun e=>decide (e.born < since)) (Array.filter (fun e=> !seen.toArray.contains e.born) ms)).isEmpty=true then #[none] else #[])++
   Array.map some (Array.filter (fun e=>decide (e.born < since)) (Array.filter (fun e=> !seen.toArray.contains e.born) ms)++Array.filter (fun e=>decide (e.born ≥ since)) (Array.filter (fun e=> !seen.toArray.contains e.born) ms)))=L.toArray:=by
  rw [hL]
  obtain ⟨ms⟩:=ms
  apply Array.ext'
  simp only [cands]
  simp
  split <;> rfl
 have hch:∃ (j:Nat) (w1:World),j < L.length∧(w1=w∨w1=w.drew)∧(choose (Question.mapNext L.length)).run P w = .ok j w1:=by
  by_cases hf:L.length≤1
  ·exact ⟨0,w,hpos,Or.inl rfl,by simp [choose,Sem.run,Question.forced,hf]⟩
  ·exact ⟨_,w.drew,Nat.mod_lt _ hpos,Or.inr rfl,by
    simp only [choose,Sem.run,Question.forced,decide_eq_true_eq,hf,if_false,Question.cut]
    rfl⟩
 obtain ⟨j,w1,hj,hw1,hrun⟩:=hch
 have hw:Good P w1 ro μ H∧Out w ro μ H w1 ro μ H:=by
  rcases hw1 with rfl | rfl
  ·exact ⟨hg,Out.refl _ _ _ _⟩
  ·exact ⟨hg.drew,Out.drew _ _ _ _⟩
 obtain ⟨hg1,ho1⟩:=hw
 have hb1:w1.heap[b]? = some (.mapIter (some bm) since seen.toArray last):=by rcases hw1 with rfl | rfl <;> exact hb
 obtain ⟨e,he,her⟩:=cands_rel (hes.ext (Out.ext hg ho1) _ _) since seen (j:=j) (m:=L[j]) (by rw [← hL,List.getElem?_eq_getElem hj])
 have hmem:anextTo H r m since seen clock e ∈ (anext es since seen).map (anextTo H r m since seen clock):=List.mem_map.mpr ⟨e,List.mem_of_getElem? he,rfl⟩
 refine ⟨_,hmem,?_⟩
 have hLs:L.toArray.size=L.length:=by simp
 have hLj:L.toArray[j]? = some L[j]:=by simp [List.getElem?_eq_getElem hj]
 have hgetr:(getObj b).run P w = .ok (.mapIter (some bm) since seen.toArray last) w:=by simp [getObj,Sem.run,hb]
 have hgetm:(getObj bm).run P w = .ok (.map ms clock) w:=by simp [getObj,Sem.run,hmb]
 generalize hLe:L[j]=me at hLj her
 cases me with
 | none=>
  cases e with
  | some _=>exact her.elim
  | none=>
   refine ⟨.tuple #[.bool false],w1,?_,⟨_,rfl,_,_,rfl,rfl,rfl⟩,hg1,ho1⟩
   simp only [Instr.next,Sem.run_bind,hgetr,hgetm,Result.andThen_ok,htest,Bool.false_eq_true,if_false,hcand,hLs,hrun,hLj,Sem.run]
   rfl
 | some me=>
  cases e with
  | none=>exact her.elim
  | some e=>
   have hset:∀ o,(setObj b o).run P w1 = .ok () { w1 with heap:=w1.heap.setIfInBounds b o }:=fun o=>by simp [setObj,Sem.run,hb1]
   have hltb:=hg1.lt r b 0 hmu
   have hk:Keep w1 { w1 with heap:=w1.heap.setIfInBounds b (.mapIter (some bm) since (seen++[e.born]).toArray clock) } (fun x=>x=b):=by
    refine ⟨by simp,fun x _ hx=>by simp [Array.getElem?_setIfInBounds_ne (Ne.symm hx)],fun x c e fr hc=>⟨c,fr,?_,rfl⟩,rfl,rfl,rfl⟩
    by_cases hx:x=b
    ·subst hx; rw [hb1] at hc; cases hc
    ·simp [Array.getElem?_setIfInBounds_ne (Ne.symm hx),hc]
   obtain ⟨g1,g2⟩:=hg1.put (k':=.miter m since (seen++[e.born]) clock) hr hmu hk ⟨rfl,bm,hbm,by simp [hltb]⟩ (by simp)
   have hx:=Out.ext hg1 g2
   refine ⟨.tuple #[.bool true,me.key,me.val],_,?_,⟨_,rfl,_,_,rfl,rfl,_,_,rfl,her.1.ext hx _ _,_,_,rfl,her.2.1.ext hx _ _,rfl⟩,g1,ho1.trans g2⟩
   have hpush:seen.toArray.push me.born=(seen++[e.born]).toArray:=by rw [her.2.2.1]; simp
   simp only [Instr.next,Sem.run_bind,hgetr,hgetm,Result.andThen_ok,htest,Bool.false_eq_true,if_false,hcand,hLs,hrun,hLj,hpush,hset,Sem.run]
   rfl
theorem anextM_form {H:AHeap} {x:AVal} {n:ANext} (h:anextM H x=some n):∃ l,n = .anyOf l:=by
 unfold anextM at h
 split at h
 case h_2=>cases h
 split at h
 case h_2=>cases h
 split at h
 case h_2=>cases h
 split at h
 case isTrue=>cases h
 injection h with h
 exact ⟨_,h.symm⟩
end Go.Am
