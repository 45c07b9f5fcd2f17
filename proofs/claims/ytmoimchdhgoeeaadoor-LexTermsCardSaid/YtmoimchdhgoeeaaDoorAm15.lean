/- One operation: the abstract machine's step is the model's. -/
import Derived.Test.YtmoimchdhgoeeaaDoorAm14B
set_option linter.unusedVariables false
set_option linter.unusedSimpArgs false
namespace Go.Am
open Go.RowKit
theorem does_of {P:Program} {o:Oper} {ρ:Operand→Value} {s:Sem Value} {w:World} {ro ro':Nat→Prop} {μ:Mu} {H H':AHeap} {v:AVal} (he:execOp ρ o=(do pure (.value (← s)))) {v':Value} {w':World} {μ':Mu} (h:s.run P w = .ok v' w') (hv:VR P w' ro' μ' v v') (hg:Good P w' ro' μ' H') (ho:Out w ro μ H w' ro' μ' H'):Does P (execOp ρ o) w ro μ H v H':=
 ⟨v',w',ro',μ',.inl (by rw [he]; simp [h]),hv,hg,ho⟩
theorem does_same {P:Program} {o:Oper} {ρ:Operand→Value} {s:Sem Value} {w:World} {ro:Nat→Prop} {μ:Mu} {H:AHeap} {v:AVal} (hg:Good P w ro μ H) (he:execOp ρ o=(do pure (.value (← s)))) {v':Value} (h:s.run P w = .ok v' w) (hv:VR P w ro μ v v'):Does P (execOp ρ o) w ro μ H v H:=
 does_of he h hv hg (Out.refl _ _ _ _)
theorem does_unit {P:Program} {o:Oper} {ρ:Operand→Value} {s:Sem Unit} {w:World} {ro:Nat→Prop} {μ:Mu} {H H':AHeap} (he:execOp ρ o=(do s; pure .skip)) {w':World} (h:s.run P w = .ok () w') (hg:Good P w' ro μ H') (ho:Out w ro μ H w' ro μ H'):Does P (execOp ρ o) w ro μ H aundef H':=
 ⟨undef,w',ro,μ,.inr ⟨by rw [he]; simp [h],rfl⟩,⟨#[],rfl,rfl⟩,hg,ho⟩
theorem value_inj {v v':AVal} {H H':AHeap} (h:ANext.value v H=ANext.value v' H'):v=v'∧H=H':=by injection h with h1 h2; exact ⟨h1,h2⟩
theorem bind_some {α β:Type} {x:Option α} {f:α→Option β} {b:β} (h:(x >>= f)=some b):∃ a,x=some a∧f a=some b:=by
 cases x with
 | none=>cases h
 | some a=>exact ⟨a,rfl,h⟩
theorem map_some {α β:Type} {x:Option α} {f:α→β} {b:β} (h:x.map f=some b):∃ a,x=some a∧f a=b:=by
 cases x with
 | none=>cases h
 | some a=>exact ⟨a,rfl,by simpa using h⟩
variable {P:Program} {w:World} {ro:Nat→Prop} {μ:Mu} {H H':AHeap} {T:Env} {a:Act} {o:Oper} {ao:AOp} {v:AVal}
theorem step_move (hg:Good P w ro μ H) (hT:TR P w ro μ T a.tmps) {x:Operand} (ho:o.op = .move x∨o.op = .assign x) (hc:(copd x).map .mv=some ao) (hs:astep ao T H=some (.value v H')):Does P (execOp a.eval o) w ro μ H v H':=by
 obtain ⟨ax,hx,rfl⟩:=map_some hc
 obtain ⟨u,hu,hs⟩:=bind_some hs
 obtain ⟨rfl,rfl⟩:=value_inj (Option.some.inj hs)
 have hv:=copd_sound hT hx hu
 refine Does.same hg (v':=a.eval x) ?_ hv
 rcases ho with h | h <;> simp [execOp,h]
theorem step_pick (hg:Good P w ro μ H) (hT:TR P w ro μ T a.tmps) {c x y:Operand} (ho:o.op = .pick c x y) (hc:cop P (.pick c x y)=some ao) (hs:astep ao T H=some (.value v H')):Does P (execOp a.eval o) w ro μ H v H':=by
 simp only [cop] at hc
 obtain ⟨ac,h1,hc⟩:=bind_some hc
 obtain ⟨ax,h2,hc⟩:=bind_some hc
 obtain ⟨ay,h3,hc⟩:=bind_some hc
 injection hc with hc; subst hc
 simp only [astep] at hs
 split at hs
 ·rename_i hb
  obtain ⟨u,hu,hs⟩:=bind_some hs
  obtain ⟨rfl,rfl⟩:=value_inj (Option.some.inj hs)
  have hcv:=copd_sound hT h1 hb
  simp only [VR] at hcv
  exact Does.same hg (v':=a.eval x) (by simp [execOp,ho,hcv,asBool]) (copd_sound hT h2 hu)
 ·rename_i hb
  obtain ⟨u,hu,hs⟩:=bind_some hs
  obtain ⟨rfl,rfl⟩:=value_inj (Option.some.inj hs)
  have hcv:=copd_sound hT h1 hb
  simp only [VR] at hcv
  exact Does.same hg (v':=a.eval y) (by simp [execOp,ho,hcv,asBool]) (copd_sound hT h3 hu)
 ·cases hs
theorem step_alloc (hg:Good P w ro μ H) {e:TypeId} (ho:o.op = .alloc e) (hc:cop P (.alloc e)=some ao) (hs:astep ao T H=some (.value v H')):Does P (execOp a.eval o) w ro μ H v H':=by
 simp only [cop] at hc
 obtain ⟨z,hz,hc⟩:=bind_some hc
 injection hc with hc; subst hc
 simp only [astep] at hs
 obtain ⟨rfl,rfl⟩:=value_inj (Option.some.inj hs)
 obtain ⟨zv,hzr,hzv,_⟩:=zeroOf_sound hz w (ro:=ro) (μ:=μ)
 obtain ⟨h1,h2,h3,h4⟩:=do_box hg hzv e
 have hrun:(Instr.alloc e true (.tuple #[])).run P w = .ok (.pointer (some ⟨w.heap.size,0,none⟩)) (w.alloc (.cells zv.cells e)):=by
  simp [Instr.alloc,hzr,newVar,newRow]
 exact does_of (by simp [execOp,ho]) hrun h2 h3 h4
theorem step_box (hg:Good P w ro μ H) (hT:TR P w ro μ T a.tmps) {e:TypeId} {x:Operand} (ho:o.op = .box e x) (hc:cop P (.box e x)=some ao) (hs:astep ao T H=some (.value v H')):Does P (execOp a.eval o) w ro μ H v H':=by
 simp only [cop] at hc
 obtain ⟨ax,hx,rfl⟩:=map_some hc
 simp only [astep] at hs
 obtain ⟨u,hu,hs⟩:=bind_some hs
 obtain ⟨rfl,rfl⟩:=value_inj (Option.some.inj hs)
 obtain ⟨h1,h2,h3,h4⟩:=do_box hg (copd_sound hT hx hu) e
 exact does_of (by simp [execOp,ho]) h1 h2 h3 h4
theorem step_build (hg:Good P w ro μ H) (hT:TR P w ro μ T a.tmps) {t:TypeId} {ps:Array (Nat × Operand)} (ho:o.op = .build t ps) (hc:cop P (.build t ps)=some ao) (hs:astep ao T H=some (.value v H')):Does P (execOp a.eval o) w ro μ H v H':=by
 simp only [cop] at hc
 obtain ⟨z,hz,hc⟩:=bind_some hc
 split at hc
 ·rename_i fs hu
  obtain ⟨as,hp,hc⟩:=bind_some hc
  split at hc
  case isFalse=>cases hc
  rename_i hall
  injection hc with hc; subst hc
  simp only [astep] at hs
  obtain ⟨vs,hv,hs⟩:=bind_some hs
  obtain ⟨cs,hf,hs⟩:=bind_some hs
  obtain ⟨rfl,rfl⟩:=value_inj (Option.some.inj hs)
  obtain ⟨v',h1,h2⟩:=do_buildS (w:=w) hT hz hu hp hall hv hf
  exact does_same hg (by simp [execOp,ho]) h1 h2
 ·rename_i l e hu
  obtain ⟨n,hn,hc⟩:=bind_some hc
  obtain ⟨as,hp,hc⟩:=bind_some hc
  injection hc with hc; subst hc
  simp only [astep] at hs
  obtain ⟨vs,hv,hs⟩:=bind_some hs
  obtain ⟨cs,hf,hs⟩:=bind_some hs
  obtain ⟨rfl,rfl⟩:=value_inj (Option.some.inj hs)
  obtain ⟨v',h1,h2⟩:=do_buildA (w:=w) hT hz hu hn hp hv hf
  exact does_same hg (by simp [execOp,ho]) h1 h2
 ·cases hc
theorem step_bslice (hg:Good P w ro μ H) (hT:TR P w ro μ T a.tmps) {t:TypeId} {len:Nat} {ps:Array (Nat × Operand)} (ho:o.op = .buildSlice t len ps) (hc:cop P (.buildSlice t len ps)=some ao) (hs:astep ao T H=some (.value v H')):Does P (execOp a.eval o) w ro μ H v H':=by
 simp only [cop] at hc
 split at hc
 ·rename_i e hu
  obtain ⟨n,hn,hc⟩:=bind_some hc
  obtain ⟨z,hz,hc⟩:=bind_some hc
  obtain ⟨as,hp,hc⟩:=bind_some hc
  split at hc
  case isFalse=>cases hc
  rename_i hh
  injection hc with hc; subst hc
  simp only [astep] at hs
  obtain ⟨vs,hv,hs⟩:=bind_some hs
  obtain ⟨cs,hf,hs⟩:=bind_some hs
  split at hs
  ·obtain ⟨rfl,rfl⟩:=value_inj (Option.some.inj hs)
   obtain ⟨v',w',ro',h1,h2,h3,h4⟩:=do_brow hg hT hu hn hz hp hh.1 hh.2.1 hh.2.2 hv hf
   exact does_of (by simp [execOp,ho]) h1 h2 h3 h4
  ·obtain ⟨rfl,rfl⟩:=value_inj (Option.some.inj hs)
   obtain ⟨v',w',μ',h1,h2,h3,h4⟩:=do_bslice hg hT hu hn hz hp hh.1 hh.2.1 hh.2.2 hv hf
   exact does_of (by simp [execOp,ho]) h1 h2 h3 h4
 ·cases hc
theorem step_load (hg:Good P w ro μ H) (hT:TR P w ro μ T a.tmps) {t:TypeId} {x:Operand} (ho:o.op = .load t x) (hc:cop P (.load t x)=some ao) (hs:astep ao T H=some (.value v H')):Does P (execOp a.eval o) w ro μ H v H':=by
 simp only [cop] at hc
 obtain ⟨n,hn,hc⟩:=bind_some hc
 obtain ⟨ax,hx,hc⟩:=bind_some hc
 injection hc with hc; subst hc
 simp only [astep] at hs
 obtain ⟨u,hu,hs⟩:=bind_some hs
 obtain ⟨r,hr,hs⟩:=bind_some hs
 obtain ⟨rfl,rfl⟩:=value_inj (Option.some.inj hs)
 obtain ⟨v',h1,h2⟩:=do_load hg (copd_sound hT hx hu) hn hr
 exact does_same hg (by simp [execOp,ho]) h1 h2
theorem step_store (hg:Good P w ro μ H) (hT:TR P w ro μ T a.tmps) {t:TypeId} {x y:Operand} (ho:o.op = .store t x y) (hc:cop P (.store t x y)=some ao) (hs:astep ao T H=some (.value v H')):Does P (execOp a.eval o) w ro μ H v H':=by
 simp only [cop] at hc
 obtain ⟨n,hn,hc⟩:=bind_some hc
 obtain ⟨ax,hx,hc⟩:=bind_some hc
 obtain ⟨ay,hy,hc⟩:=bind_some hc
 injection hc with hc; subst hc
 simp only [astep] at hs
 obtain ⟨u,hu,hs⟩:=bind_some hs
 obtain ⟨r,hr,hs⟩:=bind_some hs
 obtain ⟨H2,hH,hs⟩:=bind_some hs
 obtain ⟨rfl,rfl⟩:=value_inj (Option.some.inj hs)
 obtain ⟨w',h1,h2,h3⟩:=do_store hg (copd_sound hT hx hu) (copd_sound hT hy hr) hn hH
 exact does_unit (by simp [execOp,ho]) h1 h2 h3
theorem step_nilchk (hg:Good P w ro μ H) (hT:TR P w ro μ T a.tmps) {x:Operand} (ho:o.op = .nilCheck x) (hc:cop P (.nilCheck x)=some ao) (hs:astep ao T H=some (.value v H')):Does P (execOp a.eval o) w ro μ H v H':=by
 simp only [cop] at hc
 obtain ⟨ax,hx,rfl⟩:=map_some hc
 simp only [astep] at hs
 split at hs
 ·rename_i hu
  obtain ⟨rfl,rfl⟩:=value_inj (Option.some.inj hs)
  have hv:=copd_sound hT hx hu
  refine Does.same hg (v':=a.eval x) ?_ hv
  obtain ⟨b,base,_,he⟩:=hv
  simp [execOp,ho,he]
 ·rename_i hu
  obtain ⟨rfl,rfl⟩:=value_inj (Option.some.inj hs)
  have hv:=copd_sound hT hx hu
  refine Does.same hg (v':=a.eval x) ?_ hv
  obtain ⟨b,base,sp,he,_⟩:=hv
  simp [execOp,ho,he]
 ·rename_i hu
  obtain ⟨rfl,rfl⟩:=value_inj (Option.some.inj hs)
  have hv:=copd_sound hT hx hu
  refine Does.same hg (v':=a.eval x) ?_ hv
  obtain ⟨fs,cs,he,_⟩:=hv
  simp [execOp,ho,he]
 ·rename_i hu
  obtain ⟨rfl,rfl⟩:=value_inj (Option.some.inj hs)
  have hv:=copd_sound hT hx hu
  refine Does.same hg (v':=a.eval x) ?_ hv
  obtain ⟨y,he,_⟩:=hv
  simp [execOp,ho,he]
 ·cases hs
theorem step_bin (hg:Good P w ro μ H) (hT:TR P w ro μ T a.tmps) {op:BinOp} {t t2:TypeId} {x y:Operand} (ho:o.op = .binOp op t x y t2) (hc:cop P (.binOp op t x y t2)=some ao) (hs:astep ao T H=some (.value v H')):Does P (execOp a.eval o) w ro μ H v H':=by
 simp only [cop] at hc
 obtain ⟨ax,hx,hc⟩:=bind_some hc
 obtain ⟨ay,hy,hc⟩:=bind_some hc
 generalize hneq:isNeqOp op=neq at hc
 have hex:execOp a.eval o=(do pure (.value (← (do eqGuard op t x y (a.eval x) (a.eval y); binOp op t (a.eval x) (a.eval y))))):=by simp [execOp,ho]
 have hop:isEqOp op=true→op=(if neq then .neq else .eql):=by
  intro h
  subst hneq
  cases op <;> first | rfl | (simp [isEqOp] at h)
 have nilcase:∀ (tag:Nat) (d:TypeDesc),P.underlying t=some d→((tag=0∧∃ e,d = .pointer e)∨(tag=1∧∃ e,d = .slice e)∨(tag=2∧∃ k e,d = .map k e)∨(tag=3∧∃ p r v,d = .func p r v)∨(tag=4∧(∃ ms,d = .interface ms)∧(isConstO x || isConstO y)=true))→
   op=(if neq then .neq else .eql)→astep (.eqN tag neq ax ay) T H=some (.value v H')→Does P (execOp a.eval o) w ro μ H v H':=by
  intro tag d hd ht hop hs
  simp only [astep] at hs
  obtain ⟨u,hu,hs⟩:=bind_some hs
  obtain ⟨r,hr,hs⟩:=bind_some hs
  obtain ⟨b,hb,hs⟩:=bind_some hs
  obtain ⟨rfl,rfl⟩:=value_inj (Option.some.inj hs)
  have hrun:=do_eqN w neq t x y (copd_sound hT hx hu) (copd_sound hT hy hr) hb hd ht
  rw [← hop] at hrun
  exact does_same hg hex hrun rfl
 split at hc
 ·rename_i fs hu
  obtain ⟨ts,hts,hc⟩:=bind_some hc
  split at hc
  case isFalse=>cases hc
  rename_i hh
  injection hc with hc; subst hc
  simp only [Bool.and_eq_true,Bool.not_eq_true'] at hh
  simp only [astep] at hs
  split at hs
  ·rename_i xs ys hxs hys
   obtain ⟨b,hb,hs⟩:=bind_some hs
   obtain ⟨rfl,rfl⟩:=value_inj (Option.some.inj hs)
   have hrun:=do_eqAgg w neq t x y (copd_sound hT hx hxs) (copd_sound hT hy hys) hb hu hts hh.1.2 hh.2
   rw [← hop hh.1.1] at hrun
   exact does_same hg hex hrun rfl
  ·cases hs
 ·injection hc with hc; subst hc
  simp only [astep] at hs
  obtain ⟨u,hu,hs⟩:=bind_some hs
  obtain ⟨r,hr,hs⟩:=bind_some hs
  obtain ⟨q,hq,hs⟩:=bind_some hs
  obtain ⟨rfl,rfl⟩:=value_inj (Option.some.inj hs)
  obtain ⟨v',w',h1,hww,h2⟩:=do_bin w op t x y (copd_sound hT hx hu) (copd_sound hT hy hr) hq
  rcases hww with rfl | rfl
  ·exact does_same hg hex h1 h2
  ·exact does_of hex h1 h2 hg.drew (Out.drew _ _ _ _)
 ·injection hc with hc; subst hc
  simp only [astep] at hs
  obtain ⟨u,hu,hs⟩:=bind_some hs
  obtain ⟨r,hr,hs⟩:=bind_some hs
  obtain ⟨q,hq,hs⟩:=bind_some hs
  obtain ⟨rfl,rfl⟩:=value_inj (Option.some.inj hs)
  obtain ⟨v',w',h1,hww,h2⟩:=do_bin w op t x y (copd_sound hT hx hu) (copd_sound hT hy hr) hq
  rcases hww with rfl | rfl
  ·exact does_same hg hex h1 h2
  ·exact does_of hex h1 h2 hg.drew (Out.drew _ _ _ _)
 ·injection hc with hc; subst hc
  simp only [astep] at hs
  obtain ⟨u,hu,hs⟩:=bind_some hs
  obtain ⟨r,hr,hs⟩:=bind_some hs
  obtain ⟨q,hq,hs⟩:=bind_some hs
  obtain ⟨rfl,rfl⟩:=value_inj (Option.some.inj hs)
  obtain ⟨v',w',h1,hww,h2⟩:=do_bin w op t x y (copd_sound hT hx hu) (copd_sound hT hy hr) hq
  rcases hww with rfl | rfl
  ·exact does_same hg hex h1 h2
  ·exact does_of hex h1 h2 hg.drew (Out.drew _ _ _ _)
 ·rename_i hu
  split at hc
  case isFalse=>cases hc
  rename_i hh
  injection hc with hc; subst hc
  simp only [astep] at hs
  split at hs
  ·rename_i p q hp hq
   obtain ⟨rfl,rfl⟩:=value_inj (Option.some.inj hs)
   have h1:=copd_sound hT hx hp
   have h2:=copd_sound hT hy hq
   simp only [VR] at h1 h2
   have hrun:=do_eqB (P:=P) w (ro:=ro) (μ:=μ) neq t x y p q hu
   rw [← hop hh] at hrun
   exact does_same hg hex (by rw [h1,h2]; exact hrun) rfl
  ·cases hs
 ·rename_i e hu
  split at hc
  case isFalse=>cases hc
  rename_i hh
  injection hc with hc; subst hc
  exact nilcase 0 _ hu (.inl ⟨rfl,_,rfl⟩) (hop hh) hs
 ·rename_i e hu
  split at hc
  case isFalse=>cases hc
  rename_i hh
  injection hc with hc; subst hc
  exact nilcase 1 _ hu (.inr (.inl ⟨rfl,_,rfl⟩)) (hop hh) hs
 ·rename_i e hu
  split at hc
  case isFalse=>cases hc
  rename_i hh
  injection hc with hc; subst hc
  exact nilcase 2 _ hu (.inr (.inr (.inl ⟨rfl,_,_,rfl⟩))) (hop hh) hs
 ·rename_i e hu
  split at hc
  case isFalse=>cases hc
  rename_i hh
  injection hc with hc; subst hc
  exact nilcase 3 _ hu (.inr (.inr (.inr (.inl ⟨rfl,_,_,_,rfl⟩)))) (hop hh) hs
 ·rename_i e hu
  split at hc
  case isFalse=>cases hc
  rename_i hh
  injection hc with hc; subst hc
  simp only [Bool.and_eq_true] at hh
  exact nilcase 4 _ hu (.inr (.inr (.inr (.inr ⟨rfl,⟨_,rfl⟩,hh.2⟩)))) (hop hh.1) hs
 ·cases hc
end Go.Am
