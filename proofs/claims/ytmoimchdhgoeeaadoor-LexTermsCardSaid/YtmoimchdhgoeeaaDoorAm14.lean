/- One operation: whichever. -/
import Derived.Test.YtmoimchdhgoeeaaDoorAm13
set_option linter.unusedVariables false
set_option linter.unusedSimpArgs false
namespace Go.Am
open Go.RowKit
theorem do_copy {P:Program} {w:World} {ro:Nat→Prop} {μ:Mu} {H H':AHeap} (hg:Good P w ro μ H) {x y v:AVal} {x' y':Value} (hx:VR P w ro μ x x') (hy:VR P w ro μ y y') {t1 ty e:TypeId} {n:Nat} (ts:Array TypeId) (hts:ts[0]? = some t1) (h1:P.underlying t1=some (.slice e)) (hn:szOf P e=some n)
  (h:acopy n H x y=some (v,H')) :
  ∃ v' w',(Builtin.copy_ ts ty #[x',y']).run P w = .ok v' w'∧VR P w' ro μ v v'∧Good P w' ro μ H'∧Out w ro μ H w' ro μ H':=by
 unfold acopy at h
 split at h
 ·cases h
 rename_i hstr
 have hs':∀ s,y≠.str s:=fun s e=>hstr (by rw [e]; rfl)
 split at h
 ·rename_i m new id off len cap hal hsc
  split at h
  case h_2=>cases h
  rename_i e2 cs hid
  split at h
  case isFalse=>cases h
  rename_i hcc
  obtain ⟨ho,hnl,hfit⟩:=hcc
  simp only [Option.some.injEq,Prod.mk.injEq] at h
  obtain ⟨rfl,rfl⟩:=h
  obtain ⟨vs,hvs,hfc⟩:=firstCells_run hg hy hal hsc hnl
  obtain ⟨b,base,c,e',fr,k,hmu,hb,rfl,hk,hcap⟩:=hx
  obtain ⟨c0,fr0,hb0,hfit0,hfr,hat⟩:=hg.blk id _ b base hid hmu
  rw [hb] at hb0; injection hb0 with hb0; injection hb0 with hc1 hc2 hc3; subst hc1; subst hc2; subst hc3
  have hvl:=hvs.len
  have hmn:Nat.min m len * n≤new.length:=by rw [hnl]; exact Nat.mul_le_mul_right _ (Nat.min_le_left _ _)
  have hml:Nat.min m len * n≤len * n:=Nat.mul_le_mul_right _ (Nat.min_le_right _ _)
  have hfc2:(Builtin.firstCells n (Nat.min m len) y').run P w = .ok (vs.take (Nat.min m len * n)).toArray w:=by
   rcases sliceCells_sound hg hy hal hsc hs' with ⟨rfl,rfl,rfl⟩ | ⟨b2,o2,k2,sp2,rfl,hat2,hln,hsp2⟩
   ·have:vs=[]:=List.eq_nil_of_length_eq_zero (by simpa using hvl.symm)
    subst this
    simp [Builtin.firstCells]
   ·obtain ⟨us,hus,hcell⟩:=hat2.vals
    have hun:us.length=m * n:=by rw [← hus.len]; exact hln
    have hadd:∀ j v,us[j]? = some v→w.cell? ((⟨b2,o2,sp2⟩:Addr).add j)=some v:=by
     intro j v hj
     have hne:new≠[]:=by
      intro e; subst e
      have h0:=(List.getElem?_eq_some_iff.1 hj).1
      have h1:=hus.len; simp only [List.length_nil] at h1; omega
     have hsp0:=hsp2 hne; subst hsp0
     rw [Addr.add_lit]; exact hcell j v hj
    have hvu:vs=us:=by
     have e1:=hfc w rfl
     have e2:=run_firstCells_some (P:=P) w n m ⟨b2,o2,sp2⟩ m k2 us hun (fun j v hj=>hadd j v hj)
     rw [e1] at e2
     injection e2 with e2 _
     simpa using congrArg Array.toList e2
    subst hvu
    refine run_firstCells_some (P:=P) w n (Nat.min m len) ⟨b2,o2,sp2⟩ m k2 (vs.take (Nat.min m len * n)) (by simp; omega) (fun j v hj=> ?_)
    rw [List.getElem?_take] at hj
    split at hj
    ·exact hadd j v hj
    ·cases hj
  have hone:∀ v ∈ vs.take (Nat.min m len * n),v.oneCell'=true:=fun v hv=>hvs.allOne ho v (List.mem_of_mem_take hv)
  have htl:(vs.take (Nat.min m len * n)).length=Nat.min m len * n:=by simp; omega
  have hst:=run_storeCells_cells (P:=P) b (base+off) (vs.take (Nat.min m len * n)) 0 w
   (fun j hj=>by
    have:base+off+0+j < c.size:=by omega
    simp only [Nat.add_zero] at this
    simp [World.cell?,hb,this])
   (fun j hj=>frozen_of hb (hfr _ (by omega) (by omega))) hone
  simp only [Nat.add_zero] at hst
  obtain ⟨c',hc',hcs⟩:=setCells_shape (b:=b) (vs.take (Nat.min m len * n)) (base+off) w c e' fr hb
  have hkeep:Keep w (w.setCells b (base+off) (vs.take (Nat.min m len * n))) (fun x=>x=b):=Keep.setCells hb
  have hext:Ext w ro μ (w.setCells b (base+off) (vs.take (Nat.min m len * n))) ro μ:=⟨fun _ h=>h,fun _ _ _ h=>h,fun x hx=>hkeep.same x (hg.rolt x hx) (fun e=>hg.nro id _ b base hid hmu (e ▸ hx)),hkeep.shape⟩
  refine ⟨goInt (Nat.min m len),w.setCells b (base+off) (vs.take (Nat.min m len * n)),?_,rfl,hg.put hid hmu hkeep ⟨c',fr,hc',?_,?_,?_⟩ (setCells_rest _ _ _).2.2.2⟩
  ·have hlen:=lenOf_run hy hal w
   simp [Builtin.copy_,hts,run_underlying h1,hlen,sizeOf_run hn,hfc2,hst]
  ·have:(aput cs off (new.take (Nat.min m len * n))).length=cs.length:=by unfold aput; simp; omega
   rw [this,hcs]; exact hfit0
  ·rw [hcs]; exact hfr
  ·exact VRat.put hext hat (hvs.take _) (by simp; omega) rfl
 ·rename_i m new hal hsc
  simp only [Option.some.injEq,Prod.mk.injEq] at h
  obtain ⟨rfl,rfl⟩:=h
  simp only [VR] at hx; subst hx
  have hlen:=lenOf_run hy hal w
  refine ⟨goInt 0,w,?_,rfl,hg,Out.refl _ _ _ _⟩
  have hz:Nat.min m 0=0:=Nat.min_zero m
  have hf:(Builtin.firstCells n 0 y').run P w = .ok #[] w:=by
   cases y <;> simp only [alen] at hal <;> (try (cases hal; done))
   ·exact absurd rfl (hs' _)
   ·simp only [VR] at hy; subst hy; simp [Builtin.firstCells]
   ·obtain ⟨b,base,c,e,fr,k,_,_,rfl,_⟩:=hy; simp [Builtin.firstCells,loadCells,loadCellsFrom]
   ·obtain ⟨b,o,k,sp,rfl,_⟩:=hy; simp [Builtin.firstCells,loadCells,loadCellsFrom]
  have hm0:Nat.min m 0=0:=Nat.min_zero m
  simp [Builtin.copy_,hts,run_underlying h1,hlen,sizeOf_run hn,hm0,hf]
 ·cases h
theorem do_rngS {P:Program} {w:World} {ro:Nat→Prop} {μ:Mu} {H:AHeap} (hg:Good P w ro μ H) {t:TypeId} (hu:P.underlying t=some .string) (s:ByteArray) :
  ∃ v' w' μ',(Instr.range t (.string s)).run P w = .ok v' w'∧VR P w' ro μ' (.ptr H.next 0) v'∧Good P w' ro μ' (H.push (.siter s 0))∧Out w ro μ H w' ro μ' (H.push (.siter s 0)):=by
 refine ⟨.pointer (some ⟨w.heap.size,0,none⟩),w.alloc (.stringIter s 0),μ.put H.next w.heap.size 0,by simp [Instr.range,run_underlying hu],⟨w.heap.size,0,by simp [Mu.put],rfl⟩,?_⟩
 exact hg.push (o:=.stringIter s 0) rfl rfl rfl rfl ⟨rfl,by show (w.heap.push _)[w.heap.size]? = _; simp⟩
theorem do_nxtS {P:Program} {w:World} {ro:Nat→Prop} {μ:Mu} {H:AHeap} (hg:Good P w ro μ H) {id:Nat} {x':Value} (hx:VR P w ro μ (.ptr id 0) x') {s:ByteArray} {pos:Nat} (hid:H.get id=some (.siter s pos)) (t:TypeId) :
  (pos < s.size→∃ v' w',(Instr.next x' true t).run P w = .ok v' w'∧VR P w' ro μ (.tup [.bool true,.int .i64 pos,.int .i32 (Utf8.decode s pos).1]) v'∧Good P w' ro μ (H.set id (.siter s (pos+(Utf8.decode s pos).2)))∧Out w ro μ H w' ro μ (H.set id (.siter s (pos+(Utf8.decode s pos).2))))∧
  (¬ pos < s.size→∃ v',(Instr.next x' true t).run P w = .ok v' w∧VR P w ro μ (.tup [.bool false]) v'):=by
 obtain ⟨b,base,hmu,rfl⟩:=hx
 obtain ⟨rfl,hb⟩:=hg.blk id _ b base hid hmu
 have hget:(getObj b).run P w = .ok (.stringIter s pos) w:=by simp [getObj,Sem.run,hb]
 constructor
 ·intro hlt
  have hset:∀ o,(setObj b o).run P w = .ok () { w with heap:=w.heap.setIfInBounds b o }:=fun o=>by simp [setObj,Sem.run,hb]
  have hltb:=hg.lt id b 0 hmu
  have hk:Keep w { w with heap:=w.heap.setIfInBounds b (.stringIter s (pos+(Utf8.decode s pos).2)) } (fun x=>x=b):=by
   refine ⟨by simp,fun x _ hx=>by simp [Array.getElem?_setIfInBounds_ne (Ne.symm hx)],fun x c e fr hc=>⟨c,fr,?_,rfl⟩,rfl,rfl,rfl⟩
   by_cases hx:x=b
   ·subst hx; rw [hb] at hc; cases hc
   ·simp [Array.getElem?_setIfInBounds_ne (Ne.symm hx),hc]
  refine ⟨.tuple #[.bool true,goInt pos,.int .i32 (Utf8.decode s pos).1],_,?_,⟨_,rfl,_,_,rfl,rfl,_,_,rfl,rfl,_,_,rfl,rfl,rfl⟩,hg.put hid hmu hk ⟨rfl,by simp [hltb]⟩ (by simp)⟩
  simp [Instr.next,hget,hlt,hset]
 ·intro hlt
  exact ⟨.tuple #[.bool false],by simp [Instr.next,hget,hlt],⟨_,rfl,_,_,rfl,rfl,rfl⟩⟩
theorem do_tassert {P:Program} {w:World} {ro:Nat→Prop} {μ:Mu} {t xt:TypeId} {d:TypeDesc} (hd:P.underlying t=some d) (hni:∀ ms,d≠.interface ms) {z:AVal} (hz:zeroOf P t=some z) (ok:Bool) {x v:AVal} {x':Value} (hx:VR P w ro μ x x')
  (h:atassert t z ok x=some v) :
  ∃ v',(Instr.typeAssert x' xt t ok).run P w = .ok v' w∧VR P w ro μ v v':=by
 obtain ⟨zv,hzr,hzv,_⟩:=zeroOf_sound hz w (ro:=ro) (μ:=μ)
 unfold atassert at h
 split at h
 ·rename_i u y
  obtain ⟨yv,rfl,hy⟩:=hx
  split at h
  ·rename_i he
   injection h with h; subst h
   cases ok
   ·refine ⟨yv,?_,hy⟩
    cases d <;> first | (exact absurd rfl (hni _)) | simp [Instr.typeAssert,run_underlying hd,he]
   ·refine ⟨.tuple #[yv,.bool true],?_,⟨_,rfl,_,_,rfl,hy,_,_,rfl,rfl,rfl⟩⟩
    cases d <;> first | (exact absurd rfl (hni _)) | simp [Instr.typeAssert,run_underlying hd,he]
  ·rename_i he
   cases ok
   ·simp at h
   ·simp only [if_true,Option.some.injEq] at h; subst h
    refine ⟨.tuple #[zv,.bool false],?_,⟨_,rfl,_,_,rfl,hzv,_,_,rfl,rfl,rfl⟩⟩
    cases d <;> first | (exact absurd rfl (hni _)) | simp [Instr.typeAssert,run_underlying hd,he,hzr]
 ·simp only [VR] at hx; subst hx
  cases ok
  ·simp at h
  ·simp only [if_true,Option.some.injEq] at h; subst h
   refine ⟨.tuple #[zv,.bool false],?_,⟨_,rfl,_,_,rfl,hzv,_,_,rfl,rfl,rfl⟩⟩
   cases d <;> first | (exact absurd rfl (hni _)) | simp [Instr.typeAssert,run_underlying hd,hzr]
 ·cases h
end Go.Am
