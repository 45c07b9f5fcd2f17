/- One operation: append, copy. -/
import Derived.Test.YtmoimchdhgoeeaaDoorAm12
import Derived.Lib.AppendStr
set_option linter.unusedVariables false
set_option linter.unusedSimpArgs false
namespace Go.Am
open Go.RowKit
theorem lenOf_run {P:Program} {w:World} {ro:Nat→Prop} {μ:Mu} {x:AVal} {x':Value} (hx:VR P w ro μ x x') {n:Nat} (h:alen x=some n) (w2:World):(Builtin.lenOf x').run P w2 = .ok n w2:=by
 cases x <;> simp only [alen] at h <;> (try (cases h; done)) <;> injection h with h <;> subst h
 ·simp only [VR] at hx; subst hx; rfl
 ·simp only [VR] at hx; subst hx; rfl
 ·obtain ⟨b,base,c,e,fr,k,_,_,rfl,_⟩:=hx; rfl
 ·obtain ⟨b,o,k,sp,rfl,_⟩:=hx; rfl
theorem firstCells_run {P:Program} {w:World} {ro:Nat→Prop} {μ:Mu} {H:AHeap} (hg:Good P w ro μ H) {x:AVal} {x':Value} (hx:VR P w ro μ x x') {size n:Nat} {cs:List AVal} (hl:alen x=some n) (h:sliceCells H size x=some cs) (hlen:cs.length=n * size) :
  ∃ vs,VRs P w ro μ cs vs∧∀ w2:World,w2.heap=w.heap→(Builtin.firstCells size n x').run P w2 = .ok vs.toArray w2:=by
 by_cases hs:∃ s,x = .str s
 ·obtain ⟨s,rfl⟩:=hs
  simp only [VR] at hx; subst hx
  simp only [sliceCells] at h; injection h with h; subst h
  simp only [alen] at hl; injection hl with hl; subst hl
  refine ⟨s.data.toList.map fun b=>Value.int .u8 b.toNat,?_,fun w2 _=> ?_⟩
  ·rw [VRs_iff]
   refine ⟨by simp,fun i a v ha hv=> ?_⟩
   simp only [List.getElem?_map,Option.map_eq_some_iff] at ha hv
   obtain ⟨b,hb,rfl⟩:=ha
   obtain ⟨c,hc,rfl⟩:=hv
   rw [hb] at hc; injection hc with hc; subst hc; rfl
  ·exact Lib.run_firstCells_string w2 size s
 ·have hs':∀ s,x≠.str s:=fun s e=>hs ⟨s,e⟩
  rcases sliceCells_sound hg hx hl h hs' with ⟨rfl,rfl,rfl⟩ | ⟨b,o,k,sp,rfl,hat,hln,hsp⟩
  ·exact ⟨[],rfl,fun w2 _=>rfl⟩
  ·obtain ⟨vs,hvs,hcell⟩:=hat.vals
   refine ⟨vs,hvs,fun w2 hw2=> ?_⟩
   refine run_firstCells_some w2 size n ⟨b,o,sp⟩ n k vs (by rw [← hvs.len]; exact hlen) (fun j v hj=> ?_)
   have hne:cs≠[]:=by
    intro e; subst e
    have h0:=(List.getElem?_eq_some_iff.1 hj).1
    have h1:=hvs.len; simp only [List.length_nil] at h1; omega
   have hsp0:=hsp hne; subst hsp0
   rw [Addr.add_lit,cell?_of_heap hw2]; exact hcell j v hj
theorem append_grow {P:Program} {w:World} {t1 t2 ty e:TypeId} {d2:TypeDesc} {i:TypeInfo} {z:Value} {base:Option Addr} {sLen sCap n:Nat} {y:Value} {vs olds:List Value} (h1:P.underlying t1=some (.slice e)) (h2:P.underlying t2=some d2) (hd2:(∃ e2,d2 = .slice e2)∨d2 = .string) (hi:P.info? e=some i) (hz:i.zero=some z)
  (hlen:∀ w2,(Builtin.lenOf y).run P w2 = .ok n w2) (hnew:∀ w2:World,w2.heap=w.heap→(Builtin.firstCells i.size n y).run P w2 = .ok vs.toArray w2) (hold:∀ w2:World,w2.heap=w.heap→(Builtin.firstCells i.size sLen (.slice base sLen sCap)).run P w2 = .ok olds.toArray w2)
  (hg:sCap < sLen+n) (h63:sLen+n < 9223372036854775808) (hfit:(sLen+n) * i.bytes≤140737488355328) :
  (Builtin.append_ #[t1,t2] ty #[.slice base sLen sCap,y]).run P w =
   .ok (.slice (some ⟨w.heap.size,0,none⟩) (sLen+n) (grownCap w (sLen+n) sCap e)) (w.drew.alloc (.cells (olds.toArray++vs.toArray++Builtin.zeroCells z.cells (grownCap w (sLen+n) sCap e - (sLen+n))) e)):=by
 have hn:¬ (sLen+n≤sCap):=by omega
 have h63':¬ (9223372036854775807 < ((sLen:Int)+(n:Int))):=by omega
 have h48:=growslice_fits hg hfit
 have h48':¬ (281474976710656 < Builtin.nextslicecap (sLen+n) sCap * i.bytes):=by omega
 have ho:=hold w.drew rfl
 have hv:=hnew w.drew rfl
 rcases hd2 with ⟨e2,rfl⟩ | rfl
 ·simp [Builtin.append_,run_underlying h1,run_underlying h2,sizeOf,typeInfo,zeroValue,hi,hz,hlen,hn,h63',h48',Question.forced,ho,hv,newRow,grownCap]
  congr 2
  apply Array.ext'
  simp [List.append_assoc]
 ·simp [Builtin.append_,run_underlying h1,run_underlying h2,sizeOf,typeInfo,zeroValue,hi,hz,hlen,hn,h63',h48',Question.forced,ho,hv,newRow,grownCap]
  congr 2
  apply Array.ext'
  simp [List.append_assoc]
theorem append_room {P:Program} {w:World} {t1 t2 ty e:TypeId} {d2:TypeDesc} {i:TypeInfo} {b o sLen sCap n:Nat} {y:Value} {vs:List Value} (h1:P.underlying t1=some (.slice e)) (h2:P.underlying t2=some d2) (hd2:(∃ e2,d2 = .slice e2)∨d2 = .string) (hi:P.info? e=some i)
  (hlen:∀ w2,(Builtin.lenOf y).run P w2 = .ok n w2) (hnew:∀ w2:World,w2.heap=w.heap→(Builtin.firstCells i.size n y).run P w2 = .ok vs.toArray w2) (hg:sLen+n≤sCap)
  (hc:∀ j,j < vs.length→(w.cell? ⟨b,o+sLen * i.size+j,none⟩).isSome=true) (hf:∀ j,j < vs.length→w.frozen? ⟨b,o+sLen * i.size+j,none⟩=false) (ho:∀ v ∈ vs,v.oneCell'=true) :
  (Builtin.append_ #[t1,t2] ty #[.slice (some ⟨b,o,none⟩) sLen sCap,y]).run P w = .ok (.slice (some ⟨b,o,none⟩) (sLen+n) sCap) (w.setCells b (o+sLen * i.size) vs):=by
 have hst:=run_storeCells_cells (P:=P) b (o+sLen * i.size) vs 0 w (by simpa using hc) (by simpa using hf) ho
 have hv:=hnew w rfl
 simp only [Nat.add_zero] at hst
 rcases hd2 with ⟨e2,rfl⟩ | rfl
 ·simp [Builtin.append_,run_underlying h1,run_underlying h2,sizeOf,typeInfo,hi,hlen,hg,hv,Addr.add_lit,hst]
 ·simp [Builtin.append_,run_underlying h1,run_underlying h2,sizeOf,typeInfo,hi,hlen,hg,hv,Addr.add_lit,hst]
theorem append_nothing {P:Program} {w:World} {t1 t2 ty e:TypeId} {d2:TypeDesc} {i:TypeInfo} {base:Option Addr} {sLen sCap:Nat} {y:Value} (h1:P.underlying t1=some (.slice e)) (h2:P.underlying t2=some d2) (hd2:(∃ e2,d2 = .slice e2)∨d2 = .string) (hi:P.info? e=some i)
  (hlen:∀ w2,(Builtin.lenOf y).run P w2 = .ok 0 w2) (hnew:∀ w2:World,w2.heap=w.heap→(Builtin.firstCells i.size 0 y).run P w2 = .ok #[] w2) (hg:sLen≤sCap) :
  (Builtin.append_ #[t1,t2] ty #[.slice base sLen sCap,y]).run P w = .ok (.slice base sLen sCap) w:=by
 have hv:=hnew w rfl
 rcases hd2 with ⟨e2,rfl⟩ | rfl <;> cases base <;> simp [Builtin.append_,run_underlying h1,run_underlying h2,sizeOf,typeInfo,hi,hlen,hg,hv,storeCells]
theorem grownCap_ge (w:World) (need old:Nat) (e:TypeId):need≤grownCap w need old e:=by unfold grownCap Question.cut; exact Nat.le_add_right _ _
theorem zeroCells_size (z:Array Value) (n:Nat):(Builtin.zeroCells z n).size=n * z.size:=by simp [Builtin.zeroCells]
theorem grown_state {P:Program} {w:World} {ro:Nat→Prop} {μ:Mu} {H:AHeap} (hg:Good P w ro μ H) {e:TypeId} {i:TypeInfo} {z:Value} (hi:P.info? e=some i) (hzs:z.cells.size=i.size) {olds news:List AVal} {vo vn:List Value} (ho:VRs P w ro μ olds vo) (hn:VRs P w ro μ news vn) {need cap:Nat} (hl:vo.length+vn.length=need * i.size) (hcap:need≤cap) :
  VR P (w.drew.alloc (.cells (vo.toArray++vn.toArray++Builtin.zeroCells z.cells (cap - need)) e)) ro (μ.put H.next w.heap.size 0) (.sl H.next 0 need none) (.slice (some ⟨w.heap.size,0,none⟩) need cap)∧
  Good P (w.drew.alloc (.cells (vo.toArray++vn.toArray++Builtin.zeroCells z.cells (cap - need)) e)) ro (μ.put H.next w.heap.size 0) (H.push (.cells e (olds++news)))∧
  Out w ro μ H (w.drew.alloc (.cells (vo.toArray++vn.toArray++Builtin.zeroCells z.cells (cap - need)) e)) ro (μ.put H.next w.heap.size 0) (H.push (.cells e (olds++news))):=by
 have hall:=ho.append hn
 have hlen:=hall.len
 have hsz:(vo.toArray++vn.toArray++Builtin.zeroCells z.cells (cap - need)).size=cap * i.size:=by
  simp only [Array.size_append,List.size_toArray,zeroCells_size,hzs]
  have:(cap - need) * i.size+need * i.size=cap * i.size:=by rw [← Nat.add_mul]; congr 1; omega
  omega
 have hp:=new_cells (w':=w.drew.alloc (.cells (vo.toArray++vn.toArray++Builtin.zeroCells z.cells (cap - need)) e)) (e:=e) (fr:=(0,0)) (cs:=olds++news) hg rfl rfl rfl rfl (fun i _=>by simp) (by simp at hlen ⊢; omega) (by
  rw [hlen]
  have e1:(vo.toArray++vn.toArray++Builtin.zeroCells z.cells (cap - need)).toList=(vo++vn)++(Builtin.zeroCells z.cells (cap - need)).toList:=by simp
  rw [e1,List.take_left]
  exact hall)
 refine ⟨?_,hp⟩
 have hnew:(w.drew.alloc (.cells (vo.toArray++vn.toArray++Builtin.zeroCells z.cells (cap - need)) e)).heap[w.heap.size]? = some (Obj.cells (vo.toArray++vn.toArray++Builtin.zeroCells z.cells (cap - need)) e (0,0)):=by
  show (w.heap.push _)[w.heap.size]? = _; simp
 refine ⟨w.heap.size,0,_,e,(0,0),cap,by simp [Mu.put],hnew,rfl,hcap,?_⟩
 have:P.cellsOf e=i.size:=by simp [Program.cellsOf,hi]
 simp only [this,hsz]; omega
theorem append_zeros {P:Program} {w:World} {t1 t2 ty e:TypeId} {k:IntKind} {i:TypeInfo} {z:Value} {m:Int} (h1:P.underlying t1=some (.slice e)) (h2:P.underlying t2=some (.int k)) (hi:P.info? e=some i) (hz:i.zero=some z)
  (h0:0 < m) (h63:m < 9223372036854775808) (hfit:(i.bytes:Int) * m≤140737488355328) (hsz:i.size≠0) :
  (Builtin.append_ #[t1,t2] ty #[.slice none 0 0,.int .i64 m]).run P w =
   .ok (.slice (some ⟨w.heap.size,0,none⟩) m.toNat (grownCap w m.toNat 0 e)) (w.drew.alloc (.cells (Builtin.zeroCells z.cells m.toNat++Builtin.zeroCells z.cells (grownCap w m.toNat 0 e - m.toNat)) e)):=by
 obtain ⟨n,rfl⟩:∃ n:Nat,m=n:=⟨m.toNat,by omega⟩
 have hw:IntKind.i64.wrap (n:Int)=(n:Int):=by
  rw [IntKind.wrap_i64]
  omega
 have hn:¬ (n=0):=by omega
 have hfit:n * i.bytes≤140737488355328:=by
  have:((i.bytes * n:Nat):Int)=(i.bytes:Int) * (n:Int):=Int.natCast_mul _ _
  rw [Nat.mul_comm]; omega
 have hb:¬ (281474976710656 < (n:Int) * (i.bytes:Int)):=by
  have:((n * i.bytes:Nat):Int)=(n:Int) * (i.bytes:Int):=Int.natCast_mul _ _
  omega
 have h63':¬ (9223372036854775807 < (n:Int)):=by omega
 have hneg:¬ ((n:Int) < 0):=by omega
 have h48:=growslice_fits (bytes:=i.bytes) (need:=n) (old:=0) (by omega) hfit
 have h48':¬ (281474976710656 < Builtin.nextslicecap n 0 * i.bytes):=by omega
 have hns:¬ (n=0∨i.size=0):=by omega
 simp [Builtin.append_,run_underlying h1,run_underlying h2,sizeOf,typeInfo,zeroValue,hi,hz,hw,hneg,hb,hn,h63',h48',hns,asInt,asIntOf,Builtin.firstCells,Question.forced,newRow,grownCap]
 exact fun h=>absurd h (Nat.mul_ne_zero hn hsz)
theorem do_appN {P:Program} {w:World} {ro:Nat→Prop} {μ:Mu} {H H':AHeap} (hg:Good P w ro μ H) {x y v:AVal} {x' y':Value} (hx:VR P w ro μ x x') (hy:VR P w ro μ y y') {t1 t2 ty e:TypeId} {k:IntKind} {i:TypeInfo} {z:AVal} (h1:P.underlying t1=some (.slice e)) (h2:P.underlying t2=some (.int k)) (hi:P.info? e=some i) (hz:zeroOf P e=some z) (hzn:z.cells.length=i.size)
  (h:aappN e z.cells i.bytes H x y=some (v,H')) :
  ∃ v' w' μ',(Builtin.append_ #[t1,t2] ty #[x',y']).run P w = .ok v' w'∧VR P w' ro μ' v v'∧Good P w' ro μ' H'∧Out w ro μ H w' ro μ' H':=by
 unfold aappN at h
 split at h
 case h_2=>cases h
 rename_i m
 split at h
 case isFalse=>cases h
 rename_i hh
 obtain ⟨h0,hb,h63,hz0⟩:=hh
 simp only [Option.some.injEq,Prod.mk.injEq] at h
 obtain ⟨rfl,rfl⟩:=h
 simp only [VR] at hx hy; subst hx; subst hy
 obtain ⟨zv,_,hzv,hzz⟩:=zeroOf_sound hz w (ro:=ro) (μ:=μ)
 have hzz':i.zero=some zv:=by simpa [hi] using hzz
 have hzc:=hzv.cells
 have hzl:zv.cells.size=i.size:=by have:=hzc.len; simp at this; omega
 have hmc:∀ n:Nat,Builtin.zeroCells zv.cells n=madeCells zv.cells (n * i.size):=fun n=>by simp only [Builtin.zeroCells,madeCells,hzl]
 have hvr:VRs P w ro μ (List.replicate m.toNat z.cells).flatten (madeCells zv.cells (m.toNat * i.size)).toList:=by
  rw [madeCells_toList _ i.size m.toNat hzl (by omega)]; exact hzc.flat_rep _
 have hcl:=hvr.len
 simp only [Array.length_toList] at hcl
 have hml:(madeCells zv.cells (m.toNat * i.size)).size=m.toNat * i.size:=by rw [← hmc,zeroCells_size,hzl]
 have hgs:=grown_state (e:=e) (need:=m.toNat) (cap:=grownCap w m.toNat 0 e) hg hi hzl (olds:=[]) (vo:=[]) rfl hvr (by simp only [List.length_nil,Array.length_toList,hml,Nat.zero_add]) (grownCap_ge _ _ _ _)
 refine ⟨_,_,μ.put H.next w.heap.size 0,append_zeros h1 h2 hi hzz' h0 h63 hb (by omega),?_⟩
 rw [hmc m.toNat]
 simpa using hgs
theorem AHeap.get_del_push (H:AHeap) (id:Nat) (b:ABlk) (j:Nat):((H.del id).push b).get j=if j=H.next then some b else if j=id then none else H.get j:=
 (AHeap.get_push (H.del id) b j).trans (by rw [AHeap.get_del]; rfl)
theorem ones_false {l:List AVal} (h:¬ ones l=false):ones l=true:=by cases hh:ones l <;> simp_all
theorem do_app {P:Program} {w:World} {ro:Nat→Prop} {μ:Mu} {H H':AHeap} (hg:Good P w ro μ H) {x y v:AVal} {x' y':Value} (hx:VR P w ro μ x x') (hy:VR P w ro μ y y') {t1 t2 ty e:TypeId} {d2:TypeDesc} {i:TypeInfo} {z:Value} (h1:P.underlying t1=some (.slice e)) (h2:P.underlying t2=some d2) (hd2:(∃ e2,d2 = .slice e2)∨d2 = .string) (hi:P.info? e=some i) (hz:i.zero=some z) (hzs:z.cells.size=i.size)
  (h:aapp e i.size i.bytes H x y=some (v,H')) :
  ∃ v' w' μ',(Builtin.append_ #[t1,t2] ty #[x',y']).run P w = .ok v' w'∧VR P w' ro μ' v v'∧Good P w' ro μ' H'∧Out w ro μ H w' ro μ' H':=by
 unfold aapp at h
 split at h
 case h_2=>cases h
 rename_i n new hal hsc
 split at h
 ·cases h
 ·rename_i hcond
  simp only [not_or] at hcond
  obtain ⟨ho,hs0,hnl⟩:=hcond
  have ho:=ones_false ho
  have hnl:new.length=n * i.size:=by omega
  obtain ⟨vs,hvs,hfc⟩:=firstCells_run hg hy hal hsc hnl
  have hlen:=lenOf_run hy hal
  have hone:=hvs.allOne ho
  have hvl:=hvs.len
  split at h
  ·
   simp only [VR] at hx; subst hx
   split at h
   ·rename_i hn0
    simp only [Option.some.injEq,Prod.mk.injEq] at h
    obtain ⟨rfl,rfl⟩:=h
    subst hn0
    have hv0:vs=[]:=List.eq_nil_of_length_eq_zero (by omega)
    subst hv0
    exact ⟨_,w,μ,append_nothing h1 h2 hd2 hi hlen hfc (Nat.le_refl _),rfl,hg,Out.refl _ _ _ _⟩
   ·rename_i hn0
    split at h
    case isFalse=>cases h
    rename_i hb
    simp only [Option.some.injEq,Prod.mk.injEq] at h
    obtain ⟨rfl,rfl⟩:=h
    have hgr:=append_grow (ty:=ty) (base:=none) (sLen:=0) (sCap:=0) (olds:=[]) h1 h2 hd2 hi hz hlen hfc (fun w2 _=>rfl) (by omega) (by omega) (by simpa using hb.1)
    simp only [Nat.zero_add] at hgr
    have hst:=grown_state (z:=z) hg hi hzs (olds:=[]) (vo:=[]) (news:=new) (vn:=vs) (need:=n) (cap:=grownCap w n 0 e) rfl hvs (by simp; omega) (grownCap_ge _ _ _ _)
    exact ⟨_,_,_,hgr,by simpa using hst⟩
  ·
   rename_i id off len cap
   obtain ⟨b,base,c,e',fr,k,hmu,hb,rfl,hk,hcap⟩:=hx
   split at h
   ·rename_i hn0
    simp only [Option.some.injEq,Prod.mk.injEq] at h
    obtain ⟨rfl,rfl⟩:=h
    subst hn0
    have hv0:vs=[]:=List.eq_nil_of_length_eq_zero (by omega)
    subst hv0
    exact ⟨_,w,μ,append_nothing h1 h2 hd2 hi hlen hfc hk,⟨b,base,c,e',fr,k,hmu,hb,rfl,hk,hcap⟩,hg,Out.refl _ _ _ _⟩
   ·rename_i hn0
    split at h
    case h_2=>cases h
    rename_i e2 cs hid
    obtain ⟨c0,fr0,hb0,hfit,hfr,hat⟩:=hg.blk id _ b base hid hmu
    rw [hb] at hb0; injection hb0 with hb0; injection hb0 with hc1 hc2 hc3; subst hc1; subst hc2; subst hc3
    split at h
    case isFalse=>cases h
    rename_i hcc
    obtain ⟨hle,hbytes,h63,rfl⟩:=hcc
    have hce:P.cellsOf e'=i.size:=by simp [Program.cellsOf,hi]
    have hatOld:=(hat.drop off).take (len * i.size)
    obtain ⟨olds,hvo,hco⟩:=hatOld.vals
    have hol:olds.length=len * i.size:=by have:=hvo.len; simp at this; omega
    have hold:∀ w2:World,w2.heap=w.heap→(Builtin.firstCells i.size len (.slice (some ⟨b,base+off,none⟩) len k)).run P w2 = .ok olds.toArray w2:=fun w2 hw2=>
     run_firstCells_some w2 i.size len ⟨b,base+off,none⟩ len k olds hol (fun j v hj=>by rw [Addr.add_lit,cell?_of_heap hw2]; exact hco j v hj)
    have inPlace:len+n≤k→off+(len+n) * i.size≤cs.length→∀ cap2,(match cap2 with | some j=>k=j | none=>base+off+k * P.cellsOf e'=c.size)→
      ∃ v' w' μ',(Builtin.append_ #[t1,t2] ty #[.slice (some ⟨b,base+off,none⟩) len k,y']).run P w = .ok v' w'∧VR P w' ro μ' (.sl id off (len+n) cap2) v'∧Good P w' ro μ' (H.set id (.cells e' (aput cs (off+len * i.size) new)))∧Out w ro μ H w' ro μ' (H.set id (.cells e' (aput cs (off+len * i.size) new))):=by
     intro hroom hin cap2 hcap2
     rw [Nat.add_mul] at hin
     have hrun:=append_room (ty:=ty) (b:=b) (o:=base+off) (sLen:=len) (sCap:=k) h1 h2 hd2 hi hlen hfc hroom
      (fun j hj=>by
       have:base+off+len * i.size+j < c.size:=by omega
       simp [World.cell?,hb,this])
      (fun j hj=>frozen_of hb (hfr _ (by omega) (by omega))) hone
     obtain ⟨c',hc',hcs⟩:=setCells_shape (b:=b) vs (base+off+len * i.size) w c e' fr hb
     have hkeep:Keep w (w.setCells b (base+off+len * i.size) vs) (fun x=>x=b):=Keep.setCells hb
     have hext:Ext w ro μ (w.setCells b (base+off+len * i.size) vs) ro μ:=⟨fun _ h=>h,fun _ _ _ h=>h,fun x hx=>hkeep.same x (hg.rolt x hx) (fun e=>hg.nro id _ b base hid hmu (e ▸ hx)),hkeep.shape⟩
     refine ⟨_,_,μ,hrun,⟨b,base,c',e',fr,k,hmu,hc',rfl,hroom,?_⟩,hg.put hid hmu hkeep ⟨c',fr,hc',?_,?_,?_⟩ (setCells_rest _ _ _).2.2.2⟩
     ·cases cap2 with
      | none=>simp only at hcap2 ⊢; rw [hcs]; exact hcap2
      | some j=>exact hcap2
     ·have:(aput cs (off+len * i.size) new).length=cs.length:=by unfold aput; simp; omega
      rw [this,hcs]; exact hfit
     ·rw [hcs]; exact hfr
     ·exact VRat.put hext hat hvs (by omega) (by rw [Nat.add_assoc base])
    have grow:k < len+n→∃ v' w' μ',(Builtin.append_ #[t1,t2] ty #[.slice (some ⟨b,base+off,none⟩) len k,y']).run P w = .ok v' w'∧VR P w' ro μ' (.sl H.next 0 (len+n) none) v'∧
      Good P w' ro μ' (H.push (.cells e' ((cs.drop off).take (len * i.size)++new)))∧Out w ro μ H w' ro μ' (H.push (.cells e' ((cs.drop off).take (len * i.size)++new))):=by
     intro hk2
     have hgr:=append_grow (ty:=ty) h1 h2 hd2 hi hz hlen hfc hold hk2 h63 hbytes
     have hst:=grown_state (z:=z) hg hi hzs hvo hvs (need:=len+n) (cap:=grownCap w (len+n) k e') (by rw [hol,Nat.add_mul]; omega) (grownCap_ge _ _ _ _)
     exact ⟨_,_,_,hgr,hst⟩
    split at h
    ·rename_i cj
     subst hcap
     split at h
     ·rename_i hroom
      split at h
      case isFalse=>cases h
      rename_i hin
      simp only [Option.some.injEq,Prod.mk.injEq] at h
      obtain ⟨rfl,rfl⟩:=h
      exact inPlace hroom hin (some k) rfl
     ·rename_i hroom
      simp only [Option.some.injEq,Prod.mk.injEq] at h
      obtain ⟨rfl,rfl⟩:=h
      exact grow (by omega)
    ·simp only at hcap
     rw [hce] at hcap
     split at h
     ·rename_i hin
      simp only [Option.some.injEq,Prod.mk.injEq] at h
      obtain ⟨rfl,rfl⟩:=h
      have hroom:len+n≤k:=by
       have:(len+n) * i.size≤k * i.size:=by omega
       exact Nat.le_of_mul_le_mul_right this (by omega)
      exact inPlace hroom hin none (by simp only; rw [hce]; exact hcap)
     ·rename_i hin
      split at h
      case isFalse=>cases h
      rename_i hend
      simp only [Option.some.injEq,Prod.mk.injEq] at h
      obtain ⟨rfl,rfl⟩:=h
      by_cases hk2:k < len+n
      ·
       obtain ⟨v',w',μ',g1,g2,g3,g4⟩:=grow hk2
       have hidlt:=AHeap.get_lt hid
       have hgd:∀ j kk,((H.del id).push (.cells e' ((cs.drop off).take (len * i.size)++new))).get j=some kk→(H.push (.cells e' ((cs.drop off).take (len * i.size)++new))).get j=some kk:=by
        intro j kk hj
        rw [AHeap.get_del_push] at hj
        rw [AHeap.get_push]
        by_cases hj2:j=H.next
        ·rw [if_pos hj2] at hj ⊢; exact hj
        ·rw [if_neg hj2] at hj ⊢
         by_cases hj3:j=id
         ·rw [if_pos hj3] at hj; cases hj
         ·rw [if_neg hj3] at hj; exact hj
       refine ⟨v',w',μ',g1,g2,⟨fun j kk bb oo hj=>g3.blk j kk bb oo (hgd j kk hj),g3.lt,fun j kk bb oo hj=>g3.nro j kk bb oo (hgd j kk hj),fun j1 j2 k1 k2 bb o1 o2 hj1 hj2=>g3.inj j1 j2 k1 k2 bb o1 o2 (hgd j1 k1 hj1) (hgd j2 k2 hj2),fun j hj=>g3.new j (by simpa using hj),g3.rolt,g3.glob⟩,⟨by simp,g4.same,g4.roLe,g4.roNew,fun bb ⟨j,kk,oo,hj,hm⟩=>g4.lv bb ⟨j,kk,oo,hgd j kk hj,hm⟩,g4.keep⟩⟩
      ·
       have hroom:len+n≤k:=by omega
       have hkn:(len+n) * i.size≤k * i.size:=Nat.mul_le_mul_right _ hroom
       rw [Nat.add_mul] at hkn
       have hrun:=append_room (ty:=ty) (b:=b) (o:=base+off) (sLen:=len) (sCap:=k) h1 h2 hd2 hi hlen hfc hroom
        (fun j hj=>by
         have:base+off+len * i.size+j < c.size:=by omega
         simp [World.cell?,hb,this])
        (fun j hj=>frozen_of hb (hfr _ (by omega) (by omega))) hone
       obtain ⟨c',hc',hcs⟩:=setCells_shape (b:=b) vs (base+off+len * i.size) w c e' fr hb
       have hkeep:Keep w (w.setCells b (base+off+len * i.size) vs) (fun x=>x=b):=Keep.setCells hb
       have hext:Ext w ro μ (w.setCells b (base+off+len * i.size) vs) ro (μ.put H.next b (base+off)):=⟨fun _ h=>h,fun id' b' o' hm=>by
         unfold Mu.put; rw [if_neg (fun e=>by subst e; rw [hg.new _ (Nat.le_refl _)] at hm; cases hm)]; exact hm,
        fun x hx=>hkeep.same x (hg.rolt x hx) (fun e=>hg.nro id _ b base hid hmu (e ▸ hx)),hkeep.shape⟩
       refine ⟨_,_,μ.put H.next b (base+off),hrun,⟨b,base+off,c',e',fr,k,by simp [Mu.put],hc',by simp,hroom,by simp only; rw [hcs,hce]; omega⟩,hg.renew hid hmu hkeep ⟨c',fr,hc',?_,?_,?_⟩ (setCells_rest _ _ _).2.2.2⟩
       ·rw [hcs]; simp; omega
       ·rw [hcs]; exact fun j hj1 hj2=>hfr j (by omega) hj2
       ·rw [VRat_iff]
        intro j a ha
        by_cases hj:j < len * i.size
        ·rw [List.getElem?_append_left (by simp; omega)] at ha
         obtain ⟨u,hu,hv⟩:=(VRat_iff _ _ _).1 hatOld j a ha
         refine ⟨u,?_,hv.ext hext _ _⟩
         rw [World.cell?_setCells_out b vs _ _ _ (fun _ _=>by simp; omega)]
         exact hu
        ·rw [List.getElem?_append_right (by simp; omega)] at ha
         simp only [List.length_take,List.length_drop,Nat.min_eq_left (show len * i.size≤cs.length - off by omega)] at ha
         have hjl:j - len * i.size < vs.length:=by have:=(List.getElem?_eq_some_iff.1 ha).1; omega
         refine ⟨vs[j - len * i.size],?_,?_⟩
         ·have hin2:=World.cell?_setCells_in b vs (base+off+len * i.size) w (fun q hq=>by
           have:base+off+len * i.size+q < c.size:=by omega
           simp [World.cell?,hb,this]) (j - len * i.size) hjl
          rw [show base+off+j=base+off+len * i.size+(j - len * i.size) by omega]
          simpa [List.getElem?_eq_getElem hjl] using hin2
         ·exact (((VRs_iff _ _).1 hvs).2 (j - len * i.size) a _ ha (List.getElem?_eq_getElem hjl)).ext hext _ _
  ·
   split at h
   case isFalse=>cases h
   rename_i hn0
   simp only [Option.some.injEq,Prod.mk.injEq] at h
   obtain ⟨rfl,rfl⟩:=h
   subst hn0
   have hv0:vs=[]:=List.eq_nil_of_length_eq_zero (by omega)
   subst hv0
   have hx0:=hx
   obtain ⟨b,o,k,sp,rfl,hk,hr,hc⟩:=hx0
   exact ⟨_,w,μ,append_nothing h1 h2 hd2 hi hlen hfc hk,hx,hg,Out.refl _ _ _ _⟩
  ·cases h
end Go.Am
