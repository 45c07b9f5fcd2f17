/- One operation: maps. -/
import Derived.Test.YtmoimchdhgoeeaaDoorAm11
set_option linter.unusedVariables false
set_option linter.unusedSimpArgs false
namespace Go.Am
open Go.RowKit
theorem keyTag_sound {P:Program} {t:TypeId} {g:Nat} (h:keyTag P t=some g):(g=0∧P.underlying t=some .string)∨(g=1∧∃ i,P.underlying t=some (.int i))∨(g=2∧P.underlying t=some .bool):=by
  unfold keyTag at h
  split at h
  · injection h with h; exact .inl ⟨h.symm, ‹_›⟩
  · injection h with h; exact .inr (.inl ⟨h.symm,_, ‹_›⟩)
  · injection h with h; exact .inr (.inr ⟨h.symm, ‹_›⟩)
  · cases h
theorem now_sound {P:Program} {w:World} {ro:Nat→Prop} {μ:Mu} {g:Nat} {t:TypeId} {d:TypeDesc} (hg:keyTag P t=some g) (hd:P.underlying t=some d) {k e:AVal} {k' e':Value} (hk:VR P w ro μ k k') (he:VR P w ro μ e e') (ho:keyOk g k=true) {b:Bool} (h:keyEq k e=some b):Instr.sameNow d k' e'=some b:=by
  rcases keyTag_sound hg with ⟨rfl,hu⟩ | ⟨rfl,i,hu⟩ | ⟨rfl,hu⟩ <;> (rw [hd] at hu; injection hu with hu; subst hu) <;> cases k <;> simp only [keyOk] at ho <;> (try (cases ho; done))
  · exact keyEq_sound hk he (.inl rfl) h (.inl ⟨rfl,_,rfl⟩)
  · exact keyEq_sound hk he (.inr (.inl ⟨_,rfl⟩)) h (.inr (.inl ⟨⟨_,rfl⟩,_,_,rfl⟩))
  · exact keyEq_sound hk he (.inr (.inr rfl)) h (.inr (.inr ⟨rfl,_,rfl⟩))
theorem findE_sound {P:Program} {w:World} {ro:Nat→Prop} {μ:Mu} {g:Nat} {t:TypeId} {d:TypeDesc} (hg:keyTag P t=some g) (hd:P.underlying t=some d) {k:AVal} {k':Value} (hk:VR P w ro μ k k') (ho:keyOk g k=true) :
    ∀ {es:List AEntry} {ms:List MapEntry} {i:Nat},ERs P w ro μ es ms→
      (findE k es i=some none→Instr.findNow d k' ms i=some none)∧
      (∀ j e,findE k es i=some (some (j,e))→i≤j∧es[j - i]? = some e∧keyEq k e.key=some true∧∃ m,ms[j - i]? = some m∧ER P w ro μ e m∧Instr.findNow d k' ms i=some (some (j,m.val)))
  | [],ms,i,h=>by
    simp only [ERs] at h; subst h
    exact ⟨fun _=>rfl,fun j e h=>by simp [findE] at h⟩
  | e::es,ms,i,h=>by
    obtain ⟨m,r,rfl,hm,hr⟩:=h
    obtain ⟨ih1,ih2⟩:=findE_sound hg hd hk ho (es:=es) (ms:=r) (i:=i+1) hr
    simp only [findE,Instr.findNow]
    cases hq:keyEq k e.key with
    | none=>exact ⟨fun h=>(by cases h),fun j e h=>(by cases h)⟩
    | some b=>
      rw [now_sound hg hd hk hm.1 ho hq]
      cases b with
      | true=>
        refine ⟨fun h=>(by cases h),fun j e' h=> ?_⟩
        simp only [Option.some.injEq,Prod.mk.injEq] at h
        obtain ⟨rfl,rfl⟩:=h
        exact ⟨Nat.le_refl _,by simp,hq,m,by simp,hm,rfl⟩
      | false=>
        refine ⟨ih1,fun j e' h=> ?_⟩
        obtain ⟨h1,h2,h3,m',h4,h5,h6⟩:=ih2 j e' h
        exact ⟨by omega,by rw [show j - i=(j - (i+1))+1 by omega]; simpa using h2,h3,m',by rw [show j - i=(j - (i+1))+1 by omega]; simpa using h4,h5,h6⟩
theorem findKey_run {P:Program} {w:World} {t:TypeId} {d:TypeDesc} (hd:P.underlying t=some d) {k:Value} {es:List MapEntry} {r:Option (Nat × Value)} (h:Instr.findNow d k es 0=some r):(Instr.findKey t k es).run P w = .ok r w:=by
  simp [Instr.findKey,run_underlying hd,h]
theorem checkKey_run {P:Program} {w:World} {t:TypeId} {g:Nat} (hg:keyTag P t=some g) (b:Bool) (k:Value):∀ n,(Instr.checkKey b (n+1) t k).run P w = .ok () w:=by
  intro n
  rcases keyTag_sound hg with ⟨_,hu⟩ | ⟨_,i,hu⟩ | ⟨_,hu⟩ <;> simp [Instr.checkKey,run_underlying hu]
theorem getObj_map {P:Program} {w:World} {b:Nat} {ms:Array MapEntry} {clock:Nat} (h:w.heap[b]? = some (Obj.map ms clock)):(getObj b).run P w = .ok (.map ms clock) w:=by
  simp [getObj,Sem.run,h]
theorem setObj_map {P:Program} {w:World} {b:Nat} {ms:Array MapEntry} {clock:Nat} (h:w.heap[b]? = some (Obj.map ms clock)) (o:Obj):(setObj b o).run P w = .ok () { w with heap:=w.heap.setIfInBounds b o }:=by
  simp [setObj,Sem.run,h]
theorem Good.putMap {P:Program} {w:World} {ro:Nat→Prop} {μ:Mu} {H:AHeap} {id b:Nat} {es es':List AEntry} {clock clock':Nat} {ms ms':Array MapEntry} (hg:Good P w ro μ H) (hid:H.get id=some (.map es clock)) (hm:μ id=some (b,0)) (hb:w.heap[b]? = some (Obj.map ms clock)) (he:ERs P w ro μ es' ms'.toList) :
    Good P { w with heap:=w.heap.setIfInBounds b (.map ms' clock') } ro μ (H.set id (.map es' clock'))∧Out w ro μ H { w with heap:=w.heap.setIfInBounds b (.map ms' clock') } ro μ (H.set id (.map es' clock')):=by
  have hlt:=hg.lt id b 0 hm
  have hk:Keep w { w with heap:=w.heap.setIfInBounds b (.map ms' clock') } (fun x=>x=b):=by
    refine ⟨by simp,fun x _ hx=>by simp [Array.getElem?_setIfInBounds_ne (Ne.symm hx)],fun x c e fr hc=>⟨c,fr,?_,rfl⟩,rfl,rfl,rfl⟩
    by_cases hx:x=b
    · subst hx; rw [hb] at hc; cases hc
    · simp [Array.getElem?_setIfInBounds_ne (Ne.symm hx),hc]
  have hext:Ext w ro μ { w with heap:=w.heap.setIfInBounds b (.map ms' clock') } ro μ:=⟨fun _ h=>h,fun _ _ _ h=>h,fun x hx=>hk.same x (hg.rolt x hx) (fun e=>hg.nro id _ b 0 hid hm (e ▸ hx)),hk.shape⟩
  exact hg.put hid hm hk ⟨rfl,ms',by simp [hlt],he.ext hext _ _⟩ (by simp)
theorem ERs.len {P:Program} {w:World} {ro:Nat→Prop} {μ:Mu}:∀ {es:List AEntry} {ms:List MapEntry},ERs P w ro μ es ms→es.length=ms.length
  | [],ms,h=>by simp only [ERs] at h; subst h; rfl
  | e::es,ms,h=>by obtain ⟨m,r,rfl,_,hr⟩:=h; simp [ERs.len hr]
theorem ERs.append {P:Program} {w:World} {ro:Nat→Prop} {μ:Mu}:∀ {es:List AEntry} {ms:List MapEntry} {es':List AEntry} {ms':List MapEntry},ERs P w ro μ es ms→ERs P w ro μ es' ms'→ERs P w ro μ (es++es') (ms++ms')
  | [],ms,es',ms',h,k=>by simp only [ERs] at h; subst h; exact k
  | e::es,ms,es',ms',h,k=>by obtain ⟨m,r,rfl,hm,hr⟩:=h; exact ⟨m,r++ms',rfl,hm,ERs.append hr k⟩
theorem ERs.same {P:Program} {w:World} {ro:Nat→Prop} {μ:Mu} {f:MapEntry→MapEntry}:∀ {es:List AEntry} {ms:List MapEntry} (i:Nat),ERs P w ro μ es ms→(∀ e m,es[i]? = some e→ms[i]? = some m→ER P w ro μ e m→ER P w ro μ e (f m))→ERs P w ro μ es (ms.modify i f)
  | [],ms,i,h,_=>by simp only [ERs] at h; subst h; cases i <;> rfl
  | e::es,ms,0,h,k=>by obtain ⟨m,r,rfl,hm,hr⟩:=h; exact ⟨f m,r,rfl,k e m rfl rfl hm,hr⟩
  | e::es,ms,i+1,h,k=>by obtain ⟨m,r,rfl,hm,hr⟩:=h; exact ⟨m,_,rfl,hm,ERs.same i hr (fun a b ha hb=>k a b (by simpa using ha) (by simpa using hb))⟩
theorem ERs.erase {P:Program} {w:World} {ro:Nat→Prop} {μ:Mu}:∀ {es:List AEntry} {ms:List MapEntry} (i:Nat),ERs P w ro μ es ms→ERs P w ro μ (es.eraseIdx i) (ms.eraseIdx i)
  | [],ms,i,h=>by simp only [ERs] at h; subst h; rfl
  | e::es,ms,0,h=>by obtain ⟨m,r,rfl,hm,hr⟩:=h; exact hr
  | e::es,ms,i+1,h=>by obtain ⟨m,r,rfl,hm,hr⟩:=h; exact ⟨m,_,rfl,hm,ERs.erase i hr⟩
theorem do_lookup {P:Program} {w:World} {ro:Nat→Prop} {μ:Mu} {H:AHeap} (hg:Good P w ro μ H) {m k v:AVal} {m' k':Value} (hm:VR P w ro μ m m') (hk:VR P w ro μ k k') {t kt e:TypeId} {g:Nat} {z:AVal} (hu:P.underlying t=some (.map kt e)) (hgt:keyTag P kt=some g) (hz:zeroOf P e=some z) (ok:Bool) (h:alookup H g z ok m k=some v) :
    ∃ v',(Instr.lookup t m' k' ok).run P w = .ok v' w∧VR P w ro μ v v':=by
  obtain ⟨zv,hzr,hzv,_⟩:=zeroOf_sound hz w (ro:=ro) (μ:=μ)
  have hout:∀ (a:AVal) (u:Value) (b:Bool),VR P w ro μ a u→VR P w ro μ (aok ok a b) (if ok then .tuple #[u,.bool b] else u):=by
    intro a u b ha
    unfold aok
    cases ok
    · exact ha
    · exact ⟨_,rfl,u,[.bool b],rfl,ha,.bool b,[],rfl,rfl,rfl⟩
  obtain ⟨d,hd⟩:∃ d,P.underlying kt=some d:=by rcases keyTag_sound hgt with ⟨_,hu⟩ | ⟨_,i,hu⟩ | ⟨_,hu⟩ <;> exact ⟨_,hu⟩
  unfold alookup at h
  split at h
  · cases h
  · rename_i hko
    have hko':keyOk g k=true:=by simpa using hko
    split at h
    · injection h with h; subst h
      simp only [VR] at hm; subst hm
      refine ⟨_,?_,hout z zv false hzv⟩
      have hf:(Instr.findKey kt k' []).run P w = .ok none w:=findKey_run hd rfl
      simp [Instr.lookup,run_underlying hu,checkKey_run hgt true k' 9999,hf,hzr]
    · rename_i id
      obtain ⟨b,hmu,rfl⟩:=hm
      split at h
      case h_2=>cases h
      rename_i es clock hid
      obtain ⟨_,ms,hb,hes⟩:=hg.blk id _ b 0 hid hmu
      obtain ⟨f1,f2⟩:=findE_sound hgt hd hk hko' (i:=0) hes
      split at h
      · rename_i j en hfe
        injection h with h; subst h
        obtain ⟨_,_,_,mm,_,hER,hfn⟩:=f2 j en hfe
        refine ⟨_,?_,hout en.val mm.val true hER.2.1⟩
        have hf:=findKey_run (w:=w) hd hfn
        simp [Instr.lookup,run_underlying hu,getObj_map hb,checkKey_run hgt ms.isEmpty k' 9999,hf]
      · rename_i hfe
        injection h with h; subst h
        refine ⟨_,?_,hout z zv false hzv⟩
        have hf:=findKey_run (w:=w) hd (f1 hfe)
        simp [Instr.lookup,run_underlying hu,getObj_map hb,checkKey_run hgt ms.isEmpty k' 9999,hf,hzr]
      · cases h
    · cases h
theorem bytes_eq {a b:ByteArray} (h:(a==b)=true):a=b:=by
  rw [beq_toListBytes,ByteArray.toList_eq,ByteArray.toList_eq] at h
  obtain ⟨⟨x⟩⟩:=a
  obtain ⟨⟨y⟩⟩:=b
  simp at h; rw [h]
theorem bytes_self (a:ByteArray):(a==a)=true:=by rw [beq_toListBytes]; simp
theorem keyEq_true {P:Program} {w:World} {ro:Nat→Prop} {μ:Mu} {k e:AVal} {k' e':Value} (hk:VR P w ro μ k k') (he:VR P w ro μ e e') (h:keyEq k e=some true):k'=e'∧Instr.sameBits 10000 e' k'=true∧VR P w ro μ e k':=by
  unfold keyEq at h
  split at h
  · split at h
    · rename_i hij
      subst hij
      simp only [Option.some.injEq,beq_iff_eq] at h
      subst h
      simp only [VR] at hk he; subst hk; subst he
      exact ⟨rfl,by simp [Instr.sameBits],rfl⟩
    · cases h
  · simp only [Option.some.injEq] at h
    have h:=bytes_eq h
    subst h
    simp only [VR] at hk he; subst hk; subst he
    exact ⟨rfl,bytes_self _,rfl⟩
  · simp only [Option.some.injEq,beq_iff_eq] at h
    subst h
    simp only [VR] at hk he; subst hk; subst he
    exact ⟨rfl,by simp [Instr.sameBits],rfl⟩
  · cases h
theorem keyOk_simple {g:Nat} {k:AVal} (h:keyOk g k=true):simpleKey k=true:=by
  unfold keyOk at h
  split at h <;> first | rfl | cases h
theorem AHeap.set_self {H:AHeap} {id:Nat} {b:ABlk} (h:H.get id=some b) (j:Nat):(H.set id b).get j=H.get j:=by
  rw [AHeap.get_set]
  split
  · rename_i e; subst e; rw [if_pos (AHeap.get_lt h),h]
  · rfl
theorem Good.congr {P:Program} {w:World} {ro:Nat→Prop} {μ:Mu} {H H':AHeap} (hg:Good P w ro μ H) (hn:H'.next=H.next) (h:∀ j,H'.get j=H.get j):Good P w ro μ H':=
  ⟨fun id k b base hk=>hg.blk id k b base (by rw [← h]; exact hk),hg.lt,fun id k b base hk=>hg.nro id k b base (by rw [← h]; exact hk),
   fun i j ki kj b oi oj hi hj=>hg.inj i j ki kj b oi oj (by rw [← h]; exact hi) (by rw [← h]; exact hj),fun id hi=>hg.new id (by omega),hg.rolt,hg.glob⟩
theorem Lv.congr {μ:Mu} {H H':AHeap} (h:∀ j,H'.get j=H.get j) (b:Nat):Lv μ H' b↔Lv μ H b:=by simp only [Lv,h]
theorem Out.congr {w w':World} {ro ro':Nat→Prop} {μ μ':Mu} {H H1 H2:AHeap} (ho:Out w ro μ H w' ro' μ' H1) (hn:H2.next=H1.next) (h:∀ j,H2.get j=H1.get j):Out w ro μ H w' ro' μ' H2:=
  ⟨by rw [hn]; exact ho.next,ho.same,ho.roLe,ho.roNew,fun b hb=>ho.lv b ((Lv.congr h b).1 hb),ho.keep⟩
theorem do_mapent {P:Program} {w:World} {ro:Nat→Prop} {μ:Mu} {H H':AHeap} (hg:Good P w ro μ H) {m k v:AVal} {m' k':Value} (hm:VR P w ro μ m m') (hk:VR P w ro μ k k') {t kt e:TypeId} {g:Nat} {z:AVal} (hu:P.underlying t=some (.map kt e)) (hgt:keyTag P kt=some g) (hz:zeroOf P e=some z) (h:amapent H g z m k=some (v,H')) :
    ∃ v' w',(Instr.mapEntry t m' k').run P w = .ok v' w'∧VR P w' ro μ v v'∧Good P w' ro μ H'∧Out w ro μ H w' ro μ H':=by
  obtain ⟨zv,hzr,hzv,_⟩:=zeroOf_sound hz w (ro:=ro) (μ:=μ)
  obtain ⟨d,hd⟩:∃ d,P.underlying kt=some d:=by rcases keyTag_sound hgt with ⟨_,hu⟩ | ⟨_,i,hu⟩ | ⟨_,hu⟩ <;> exact ⟨_,hu⟩
  unfold amapent at h
  split at h
  · cases h
  · rename_i hko
    have hko':keyOk g k=true:=by simpa using hko
    split at h
    case h_2=>cases h
    rename_i id
    obtain ⟨b,hmu,rfl⟩:=hm
    split at h
    case h_2=>cases h
    rename_i es clock hid
    obtain ⟨_,ms,hb,hes⟩:=hg.blk id _ b 0 hid hmu
    obtain ⟨f1,f2⟩:=findE_sound hgt hd hk hko' (i:=0) hes
    split at h
    · rename_i j en hfe
      simp only [Option.some.injEq,Prod.mk.injEq] at h
      obtain ⟨rfl,rfl⟩:=h
      obtain ⟨_,hej,hkt,mm,hmj,hER,hfn⟩:=f2 j en hfe
      simp only [Nat.sub_zero] at hej hmj
      have hf:=findKey_run (w:=w) hd hfn
      obtain ⟨hke,hsb,_⟩:=keyEq_true hk hER.1 hkt
      have hmj':ms[j]? = some mm:=by rw [← Array.getElem?_toList]; exact hmj
      have hp:=hg.putMap (ms':=ms.modify j fun e=>{ e with key:=k' }) (clock':=clock) hid hmu hb (es':=es) (by
        rw [Array.toList_modify]
        exact hes.same j (fun a c ha hc hac=>by
          have:a=en:=by rw [hej] at ha; injection ha with ha; exact ha.symm
          subst this
          exact ⟨(keyEq_true hk hER.1 hkt).2.2,hac.2.1,hac.2.2.1,hac.2.2.2⟩))
      obtain ⟨hp1,hp2⟩:=hp
      have hext:=Out.ext hg hp2
      have hsame:=AHeap.set_self hid
      refine ⟨.tuple #[mm.val,goInt mm.born],_,?_,?_,hp1.congr (by simp) (fun j=>(hsame j).symm),hp2.congr (by simp) (fun j=>(hsame j).symm)⟩
      · have hks:(Instr.keyThatStays mm.key k').run P w = .ok k' w:=by simp [Instr.keyThatStays,hsb]
        simp [Instr.mapEntry,run_underlying hu,getObj_map hb,checkKey_run hgt false k' 9999,hf,hmj',hks,setObj_map hb]
      · exact ⟨_,rfl,mm.val,[goInt mm.born],rfl,hER.2.1.ext hext _ _,goInt mm.born,[],rfl,by simp [VR,goInt,hER.2.2.1],rfl⟩
    · rename_i hfe
      simp only [Option.some.injEq,Prod.mk.injEq] at h
      obtain ⟨rfl,rfl⟩:=h
      have hf:=findKey_run (w:=w) hd (f1 hfe)
      have hp:=hg.putMap (ms':=ms.push { key:=k',val:=zv,born:=clock }) (clock':=clock+1) hid hmu hb (es':=es++[⟨k,z,clock⟩]) (by
        rw [Array.toList_push]
        exact hes.append ⟨_,[],rfl,⟨hk,hzv,rfl,keyOk_simple hko'⟩,rfl⟩)
      obtain ⟨hp1,hp2⟩:=hp
      have hext:=Out.ext hg hp2
      refine ⟨.tuple #[zv,goInt clock],_,?_,?_,hp1,hp2⟩
      · simp [Instr.mapEntry,run_underlying hu,getObj_map hb,checkKey_run hgt false k' 9999,hf,hzr,setObj_map hb]
      · exact ⟨_,rfl,zv,[goInt clock],rfl,hzv.ext hext _ _,goInt clock,[],rfl,rfl,rfl⟩
    · cases h
theorem setBorn_sound {P:Program} {w:World} {ro:Nat→Prop} {μ:Mu} {x:AVal} {x':Value} (hx:VR P w ro μ x x') {q:Int}:∀ {es es':List AEntry} {ms:List MapEntry},ERs P w ro μ es ms→setBorn q x es=some es'→
    ∃ i,ms.findIdx? (fun e=>(e.born:Int)==q)=some i∧ERs P w ro μ es' (ms.modify i fun e=>{ e with val:=x' })
  | [],es',ms,_,h=>by simp [setBorn] at h
  | e::es,es',ms,hm,h=>by
    obtain ⟨m,r,rfl,hem,hr⟩:=hm
    simp only [setBorn] at h
    have hb:((m.born:Int)==q)=((e.born:Int)==q):=by rw [hem.2.2.1]
    split at h
    · rename_i hq
      injection h with h; subst h
      exact ⟨0,by simp [List.findIdx?_cons,hb,hq],⟨_,r,rfl,⟨hem.1,hx,hem.2.2.1,hem.2.2.2⟩,hr⟩⟩
    · rename_i hq
      simp only [Option.map_eq_some_iff] at h
      obtain ⟨es2,h2,rfl⟩:=h
      obtain ⟨i,hi,hi2⟩:=setBorn_sound hx hr h2
      have hq':((e.born:Int)==q)=false:=by simpa using hq
      exact ⟨i+1,by rw [List.findIdx?_cons,hb,hq']; simp [hi],⟨m,_,rfl,hem,hi2⟩⟩
theorem do_entst {P:Program} {w:World} {ro:Nat→Prop} {μ:Mu} {H H':AHeap} (hg:Good P w ro μ H) {m s x:AVal} {m' s' x':Value} (hm:VR P w ro μ m m') (hs:VR P w ro μ s s') (hx:VR P w ro μ x x') (t:TypeId) (h:aentst H m s x=some H') :
    ∃ w',(Instr.entryStore t m' s' x').run P w = .ok () w'∧Good P w' ro μ H'∧Out w ro μ H w' ro μ H':=by
  unfold aentst at h
  split at h
  case h_2=>cases h
  rename_i id kk q
  obtain ⟨b,hmu,rfl⟩:=hm
  simp only [VR] at hs; subst hs
  split at h
  case h_2=>cases h
  rename_i es clock hid
  obtain ⟨_,ms,hb,hes⟩:=hg.blk id _ b 0 hid hmu
  simp only [Option.map_eq_some_iff] at h
  obtain ⟨es',he,rfl⟩:=h
  obtain ⟨i,hi,hi2⟩:=setBorn_sound hx hes he
  have hp:=hg.putMap (ms':=ms.modify i fun e=>{ e with val:=x' }) (clock':=clock) hid hmu hb (es':=es') (by rw [Array.toList_modify]; exact hi2)
  refine ⟨_,?_,hp⟩
  have hi':ms.findIdx? (fun e=>(e.born:Int)==q)=some i:=by rw [← Array.toArray_toList (xs:=ms),List.findIdx?_toArray]; exact hi
  simp [Instr.entryStore,getObj_map hb,asInt,asIntOf,hi',setObj_map hb]
theorem do_del {P:Program} {w:World} {ro:Nat→Prop} {μ:Mu} {H H':AHeap} (hg:Good P w ro μ H) {m k:AVal} {m' k':Value} (hm:VR P w ro μ m m') (hk:VR P w ro μ k k') {t kt e:TypeId} {g:Nat} (hu:P.underlying t=some (.map kt e)) (hgt:keyTag P kt=some g) (h:adel H g m k=some H') (ts:Array TypeId) (hts:ts[0]? = some t) (ty:TypeId) :
    ∃ w',(Builtin.delete_ ts ty #[m',k']).run P w = .ok (.tuple #[]) w'∧Good P w' ro μ H'∧Out w ro μ H w' ro μ H':=by
  obtain ⟨d,hd⟩:∃ d,P.underlying kt=some d:=by rcases keyTag_sound hgt with ⟨_,hu⟩ | ⟨_,i,hu⟩ | ⟨_,hu⟩ <;> exact ⟨_,hu⟩
  unfold adel at h
  split at h
  · cases h
  · rename_i hko
    have hko':keyOk g k=true:=by simpa using hko
    split at h
    · injection h with h; subst h
      simp only [VR] at hm; subst hm
      exact ⟨w,by simp [Builtin.delete_,hts,run_underlying hu,checkKey_run hgt true k' 9999],hg,Out.refl _ _ _ _⟩
    · rename_i id
      obtain ⟨b,hmu,rfl⟩:=hm
      split at h
      case h_2=>cases h
      rename_i es clock hid
      obtain ⟨_,ms,hb,hes⟩:=hg.blk id _ b 0 hid hmu
      obtain ⟨f1,f2⟩:=findE_sound hgt hd hk hko' (i:=0) hes
      split at h
      · rename_i j en hfe
        injection h with h; subst h
        obtain ⟨_,_,_,mm,_,hER,hfn⟩:=f2 j en hfe
        have hf:=findKey_run (w:=w) hd hfn
        have hp:=hg.putMap (ms':=ms.eraseIdxIfInBounds j) (clock':=clock) hid hmu hb (es':=es.eraseIdx j) (by
          rw [Array.toList_eraseIdxIfInBounds]; exact hes.erase j)
        exact ⟨_,by simp [Builtin.delete_,hts,run_underlying hu,getObj_map hb,checkKey_run hgt ms.isEmpty k' 9999,hf,setObj_map hb],hp⟩
      · rename_i hfe
        injection h with h; subst h
        have hf:=findKey_run (w:=w) hd (f1 hfe)
        have hp:=hg.putMap (ms':=ms) (clock':=clock) hid hmu hb (es':=es) hes
        have hsame:=AHeap.set_self hid
        exact ⟨_,by simp [Builtin.delete_,hts,run_underlying hu,getObj_map hb,checkKey_run hgt ms.isEmpty k' 9999,hf,setObj_map hb],hp.1.congr (by simp) (fun j=>(hsame j).symm),hp.2.congr (by simp) (fun j=>(hsame j).symm)⟩
      · cases h
    · cases h
end Go.Am
