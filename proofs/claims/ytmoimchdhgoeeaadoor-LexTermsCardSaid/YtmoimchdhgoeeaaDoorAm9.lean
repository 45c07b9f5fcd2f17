/- One operation: addresses, indexes, slice expressions, conversions, lengths. -/
import Derived.Test.YtmoimchdhgoeeaaDoorAm8
set_option linter.unusedVariables false
set_option linter.unusedSimpArgs false
namespace Go.Am
open Go.RowKit
theorem add_ex (b o:Nat) (sp:Option Nat) (n:Nat):∃ sp',(⟨b,o,sp⟩:Addr).add n=⟨b,o+n,sp'⟩∧(sp=none→sp'=none):=by
 unfold Addr.add
 by_cases h:n=0
 ·subst h; exact ⟨sp,by simp,id⟩
 ·exact ⟨none,by simp [h],fun _=>rfl⟩
theorem do_faddr {P:Program} {w:World} {ro:Nat→Prop} {μ:Mu} {x v:AVal} {x':Value} (hx:VR P w ro μ x x') {s:TypeId} {fs:Array Field} {f:Nat} {fd:Field} {n:Nat} (hu:P.underlying s=some (.struct fs)) (hf:fs[f]? = some fd) (hn:szOf P fd.type=some n) (hn0:n≠0) (h:afaddr fd.offset x=some v) :
  ∃ v',(Instr.fieldAt s x' f).run P w = .ok v' w∧VR P w ro μ v v':=by
 have hfp:∀ b o,(fieldPlace ⟨b,o,none⟩ fd).run P w = .ok ⟨b,o+fd.offset,none⟩ w:=by
  intro b o
  simp [fieldPlace,sizeOf_run hn,hn0,Addr.add_lit]
 cases x <;> simp only [afaddr] at h <;> (try (cases h; done))
 ·injection h with h; subst h
  obtain ⟨b,base,hm,rfl⟩:=hx
  refine ⟨_,by simp [Instr.fieldAt,run_underlying hu,hf,Instr.sureAddr,hfp]; rfl,⟨b,base,hm,by rw [Nat.add_assoc]⟩⟩
 ·injection h with h; subst h
  obtain ⟨b,o,sp,rfl,hr,hc⟩:=hx
  obtain ⟨sp',hsp,hsp'⟩:=add_ex b o sp fd.offset
  refine ⟨.pointer (some ⟨b,o+fd.offset,sp'⟩),by simp [Instr.fieldAt,run_underlying hu,hf,Instr.sureAddr,fieldPlace,sizeOf_run hn,hn0,hsp],⟨b,o+fd.offset,sp',rfl,fun hne=>⟨(hr (fun e=>hne (by rw [e]; simp))).1,hsp' (hr (fun e=>hne (by rw [e]; simp))).2⟩,hc.drop _⟩⟩
theorem do_fld {P:Program} {w:World} {ro:Nat→Prop} {μ:Mu} {x v:AVal} {x':Value} (hx:VR P w ro μ x x') {s:TypeId} {fs:Array Field} {f:Nat} {fd:Field} {n:Option Nat} (hu:P.underlying s=some (.struct fs)) (hf:fs[f]? = some fd) (hn:loadKind P fd.type=some n) (h:afld fd.offset n x=some v) :
  ∃ v',(Instr.field s x' f).run P w = .ok v' w∧VR P w ro μ v v':=by
 cases x <;> simp only [afld] at h <;> (try (cases h; done))
 rename_i cs
 obtain ⟨vs,rfl,hvs⟩:=hx
 cases n with
 | none=>
  have ha:=loadKind_none hn w
  have hl:=hvs.len
  have hi:fd.offset < cs.length:=(List.getElem?_eq_some_iff.1 h).1
  have hi':fd.offset < vs.size:=by simpa using (by omega:fd.offset < vs.toList.length)
  exact ⟨vs[fd.offset],by simp [Instr.field,run_underlying hu,hf,part,ha,asAgg,hi'],((VRs_iff _ _).1 hvs).2 _ _ _ h (by simp [hi'])⟩
 | some n=>
  simp only at h
  split at h
  case isFalse=>cases h
  injection h with h; subst h
  obtain ⟨ha,hs⟩:=loadKind_some hn w
  refine ⟨.agg (vs.extract fd.offset (fd.offset+n)),by simp [Instr.field,run_underlying hu,hf,part,ha,hs,asAgg],⟨_,rfl,?_⟩⟩
  have:(vs.extract fd.offset (fd.offset+n)).toList=(vs.toList.drop fd.offset).take n:=by
   rw [Array.toList_extract]; simp [List.extract]
  rw [this]
  exact (hvs.drop _).take _
theorem do_iaddr {P:Program} {w:World} {ro:Nat→Prop} {μ:Mu} {H:AHeap} {x i v:AVal} {x' i':Value} (hx:VR P w ro μ x x') (hi:VR P w ro μ i i') {t e:TypeId} {n:Nat} (hu:P.underlying t=some (.slice e)) (hn:szOf P e=some n) (h:aiaddr H n x i=some v) :
  ∃ v',(Instr.indexAt t x' i').run P w = .ok v' w∧VR P w ro μ v v':=by
 unfold aiaddr at h
 split at h
 ·rename_i id off len cap k q
  split at h
  case isFalse=>cases h
  rename_i hq
  injection h with h; subst h
  obtain ⟨b,base,c,e',fr,kc,hm,hb,rfl,hk,hcap⟩:=hx
  simp only [VR] at hi; subst hi
  refine ⟨_,?_,⟨b,base,hm,rfl⟩⟩
  simp [Instr.indexAt,run_underlying hu,asIntOf,sizeOf_run hn,hq.1,hq.2,Addr.add_lit,Nat.add_assoc]
 ·rename_i cs len k q
  split at h
  case isFalse=>cases h
  rename_i hq
  injection h with h; subst h
  obtain ⟨b,o,kc,sp,rfl,hk,hr,hc⟩:=hx
  simp only [VR] at hi; subst hi
  obtain ⟨sp',hsp,hsp'⟩:=add_ex b o sp (q.toNat * n)
  refine ⟨.pointer (some ⟨b,o+q.toNat * n,sp'⟩),?_,⟨b,o+q.toNat * n,sp',rfl,fun hne=>⟨(hr (fun e=>hne (by rw [e]; simp))).1,hsp' (hr (fun e=>hne (by rw [e]; simp))).2⟩,hc.drop _⟩⟩
  simp [Instr.indexAt,run_underlying hu,asIntOf,sizeOf_run hn,hq.1,hq.2.1,hsp]
 ·cases h
theorem do_iaddrA {P:Program} {w:World} {ro:Nat→Prop} {μ:Mu} {x i v:AVal} {x' i':Value} (hx:VR P w ro μ x x') (hi:VR P w ro μ i i') {t e:TypeId} {len n:Nat} (hu:P.underlying t=some (.array len e)) (hn:szOf P e=some n) (h:aiaddrA len n x i=some v) :
  ∃ v',(Instr.indexAt t x' i').run P w = .ok v' w∧VR P w ro μ v v':=by
 unfold aiaddrA at h
 split at h
 ·rename_i id off k q
  split at h
  case isFalse=>cases h
  rename_i hq
  injection h with h; subst h
  obtain ⟨b,base,hm,rfl⟩:=hx
  simp only [VR] at hi; subst hi
  refine ⟨_,?_,⟨b,base,hm,rfl⟩⟩
  simp [Instr.indexAt,run_underlying hu,asIntOf,Instr.sureAddr,sizeOf_run hn,hq.1,hq.2,Addr.add_lit,Nat.add_assoc]
 ·rename_i cs k q
  split at h
  case isFalse=>cases h
  rename_i hq
  injection h with h; subst h
  obtain ⟨b,o,sp,rfl,hr,hc⟩:=hx
  simp only [VR] at hi; subst hi
  obtain ⟨sp',hsp,hsp'⟩:=add_ex b o sp (q.toNat * n)
  refine ⟨.pointer (some ⟨b,o+q.toNat * n,sp'⟩),?_,⟨b,o+q.toNat * n,sp',rfl,fun hne=>⟨(hr (fun e=>hne (by rw [e]; simp))).1,hsp' (hr (fun e=>hne (by rw [e]; simp))).2⟩,hc.drop _⟩⟩
  simp [Instr.indexAt,run_underlying hu,asIntOf,Instr.sureAddr,sizeOf_run hn,hq.1,hq.2,hsp]
 ·cases h
theorem do_idxS {P:Program} {w:World} {ro:Nat→Prop} {μ:Mu} {x i v:AVal} {x' i':Value} (hx:VR P w ro μ x x') (hi:VR P w ro μ i i') {t:TypeId} (hu:P.underlying t=some .string) (h:aidxS x i=some v) :
  ∃ v',(Instr.index t x' i').run P w = .ok v' w∧VR P w ro μ v v':=by
 unfold aidxS at h
 split at h
 ·rename_i s k q
  split at h
  case isFalse=>cases h
  rename_i hq
  simp only [Option.map_eq_some_iff] at h
  obtain ⟨b,hb,rfl⟩:=h
  simp only [VR] at hx hi; subst hx; subst hi
  exact ⟨_,by simp [Instr.index,asIntOf,run_underlying hu,hq,hb],rfl⟩
 ·cases h
theorem abound_sound {P:Program} {w:World} {ro:Nat→Prop} {μ:Mu} {T:Env} {a:Act} (hT:TR P w ro μ T a.tmps) {x:Option Operand} {ax:Option AOpnd} (hx:copdo x=some ax) {d top n:Nat} (h:abound T d top ax=some n) (code:BoundsCode) :
  (match x.map a.eval with | some v=>Instr.sliceBound v top code | none=>pure d).run P w = .ok n w∧(ax=none→n=d)∧(x=none↔ax=none)∧(ax≠none→n≤top):=by
 cases x with
 | none=>
  simp only [copdo] at hx; injection hx with hx; subst hx
  simp only [abound] at h; injection h with h; subst h
  simp
 | some y=>
  simp only [copdo,Option.map_eq_some_iff] at hx
  obtain ⟨ay,hy,rfl⟩:=hx
  simp only [abound] at h
  split at h
  ·rename_i k i hi
   split at h
   case isFalse=>cases h
   rename_i hb
   injection h with h; subst h
   have hv:=copd_sound hT hy hi
   simp only [VR] at hv
   refine ⟨?_,by simp,by simp,fun _=>by omega⟩
   simp only [Option.map_some,hv,Instr.sliceBound,asIntOf,Sem.run_bind,Sem.run_pure,Result.andThen_ok]
   rw [if_pos hb]; simp
  ·cases h
theorem do_slcS {P:Program} {w:World} {ro:Nat→Prop} {μ:Mu} {T:Env} {a:Act} (hT:TR P w ro μ T a.tmps) {x v:AVal} {x':Value} (hx:VR P w ro μ x x') {t:TypeId} (hu:P.underlying t=some .string) {lo hi:Option Operand} {alo ahi:Option AOpnd} (hlo:copdo lo=some alo) (hhi:copdo hi=some ahi) (h:aslcS T x alo ahi=some v) :
  ∃ v',(Instr.sliceAt t x' (lo.map a.eval) (hi.map a.eval) none).run P w = .ok v' w∧VR P w ro μ v v':=by
 unfold aslcS at h
 split at h
 ·rename_i s
  simp only [VR] at hx; subst hx
  simp only [Option.bind_eq_bind,Option.bind_eq_some_iff] at h
  obtain ⟨hn,hh,l,hl,h⟩:=h
  injection h with h; subst h
  obtain ⟨h1,_,_,_⟩:=abound_sound hT hhi hh .sliceAlen
  obtain ⟨h2,_,_,_⟩:=abound_sound hT hlo hl .sliceB
  refine ⟨_,?_,rfl⟩
  cases hc:hi.map a.eval <;> cases hd:lo.map a.eval <;> simp only [hc,hd] at h1 h2 <;> (try simp at h1) <;> (try simp at h2) <;>
   simp [Instr.sliceAt,run_underlying hu,Instr.slice,Instr.sliceBounds,h1,h2]
 ·cases h
end Go.Am
