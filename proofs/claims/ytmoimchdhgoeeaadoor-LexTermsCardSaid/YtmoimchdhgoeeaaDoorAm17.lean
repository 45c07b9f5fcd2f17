/- One operation: the abstract machine's step is the model's: all together, and calls. -/
import Derived.Test.YtmoimchdhgoeeaaDoorAm16
import Derived.Laws.Externs
set_option linter.unusedVariables false
set_option linter.unusedSimpArgs false
namespace Go.Am
open Go.RowKit
variable {P:Program} {w:World} {ro:Nat→Prop} {μ:Mu} {H H':AHeap} {T:Env} {a:Act} {o:Oper} {ao:AOp} {v:AVal}
theorem step_faddr (hg:Good P w ro μ H) (hT:TR P w ro μ T a.tmps) {s:TypeId} {x:Operand} {f:Nat} (ho:o.op = .fieldAddr s x f) (hc:cop P (.fieldAddr s x f)=some ao) (hs:astep ao T H=some (.value v H')):Does P (execOp a.eval o) w ro μ H v H':=by
 simp only [cop] at hc
 obtain ⟨ax,hx,hc⟩:=bind_some hc
 split at hc
 case h_2=>cases hc
 rename_i fs hu
 obtain ⟨fd,hf,hc⟩:=bind_some hc
 obtain ⟨n,hn,hc⟩:=bind_some hc
 split at hc
 case isFalse=>cases hc
 rename_i hn0
 injection hc with hc; subst hc
 simp only [astep] at hs
 obtain ⟨u,huu,hs⟩:=bind_some hs
 obtain ⟨q,hq,hs⟩:=bind_some hs
 obtain ⟨rfl,rfl⟩:=value_inj (Option.some.inj hs)
 obtain ⟨v',h1,h2⟩:=do_faddr (w:=w) (copd_sound hT hx huu) hu hf hn hn0 hq
 exact does_same hg (by simp [execOp,ho]) h1 h2
theorem step_fld (hg:Good P w ro μ H) (hT:TR P w ro μ T a.tmps) {s:TypeId} {x:Operand} {f:Nat} (ho:o.op = .field s x f) (hc:cop P (.field s x f)=some ao) (hs:astep ao T H=some (.value v H')):Does P (execOp a.eval o) w ro μ H v H':=by
 simp only [cop] at hc
 obtain ⟨ax,hx,hc⟩:=bind_some hc
 split at hc
 case h_2=>cases hc
 rename_i fs hu
 obtain ⟨fd,hf,hc⟩:=bind_some hc
 obtain ⟨n,hn,hc⟩:=bind_some hc
 injection hc with hc; subst hc
 simp only [astep] at hs
 obtain ⟨u,huu,hs⟩:=bind_some hs
 obtain ⟨q,hq,hs⟩:=bind_some hs
 obtain ⟨rfl,rfl⟩:=value_inj (Option.some.inj hs)
 obtain ⟨v',h1,h2⟩:=do_fld (w:=w) (copd_sound hT hx huu) hu hf hn hq
 exact does_same hg (by simp [execOp,ho]) h1 h2
theorem step_iaddr (hg:Good P w ro μ H) (hT:TR P w ro μ T a.tmps) {s:TypeId} {x i:Operand} (ho:o.op = .indexAddr s x i) (hc:cop P (.indexAddr s x i)=some ao) (hs:astep ao T H=some (.value v H')):Does P (execOp a.eval o) w ro μ H v H':=by
 simp only [cop] at hc
 obtain ⟨ax,hx,hc⟩:=bind_some hc
 obtain ⟨ai,hi,hc⟩:=bind_some hc
 split at hc
 ·rename_i e hu
  obtain ⟨n,hn,hc⟩:=bind_some hc
  injection hc with hc; subst hc
  simp only [astep] at hs
  obtain ⟨u,huu,hs⟩:=bind_some hs
  obtain ⟨r,hr,hs⟩:=bind_some hs
  obtain ⟨q,hq,hs⟩:=bind_some hs
  obtain ⟨rfl,rfl⟩:=value_inj (Option.some.inj hs)
  obtain ⟨v',h1,h2⟩:=do_iaddr (w:=w) (copd_sound hT hx huu) (copd_sound hT hi hr) hu hn hq
  exact does_same hg (by simp [execOp,ho]) h1 h2
 ·rename_i len e hu
  obtain ⟨n,hn,hc⟩:=bind_some hc
  injection hc with hc; subst hc
  simp only [astep] at hs
  obtain ⟨u,huu,hs⟩:=bind_some hs
  obtain ⟨r,hr,hs⟩:=bind_some hs
  obtain ⟨q,hq,hs⟩:=bind_some hs
  obtain ⟨rfl,rfl⟩:=value_inj (Option.some.inj hs)
  obtain ⟨v',h1,h2⟩:=do_iaddrA (w:=w) (copd_sound hT hx huu) (copd_sound hT hi hr) hu hn hq
  exact does_same hg (by simp [execOp,ho]) h1 h2
 ·cases hc
theorem step_idx (hg:Good P w ro μ H) (hT:TR P w ro μ T a.tmps) {s:TypeId} {x i:Operand} (ho:o.op = .index s x i) (hc:cop P (.index s x i)=some ao) (hs:astep ao T H=some (.value v H')):Does P (execOp a.eval o) w ro μ H v H':=by
 simp only [cop] at hc
 obtain ⟨ax,hx,hc⟩:=bind_some hc
 obtain ⟨ai,hi,hc⟩:=bind_some hc
 split at hc
 case h_2=>cases hc
 rename_i hu
 injection hc with hc; subst hc
 simp only [astep] at hs
 obtain ⟨u,huu,hs⟩:=bind_some hs
 obtain ⟨r,hr,hs⟩:=bind_some hs
 obtain ⟨q,hq,hs⟩:=bind_some hs
 obtain ⟨rfl,rfl⟩:=value_inj (Option.some.inj hs)
 obtain ⟨v',h1,h2⟩:=do_idxS (w:=w) (copd_sound hT hx huu) (copd_sound hT hi hr) hu hq
 exact does_same hg (by simp [execOp,ho]) h1 h2
theorem step_lookup (hg:Good P w ro μ H) (hT:TR P w ro μ T a.tmps) {t:TypeId} {m k:Operand} {ok:Bool} (ho:o.op = .lookup t m k ok) (hc:cop P (.lookup t m k ok)=some ao) (hs:astep ao T H=some (.value v H')):Does P (execOp a.eval o) w ro μ H v H':=by
 simp only [cop] at hc
 split at hc
 case h_2=>cases hc
 rename_i kt e hu
 obtain ⟨g,hgt,hc⟩:=bind_some hc
 obtain ⟨z,hz,hc⟩:=bind_some hc
 obtain ⟨am,hm,hc⟩:=bind_some hc
 obtain ⟨ak,hk,hc⟩:=bind_some hc
 injection hc with hc; subst hc
 simp only [astep] at hs
 obtain ⟨u,huu,hs⟩:=bind_some hs
 obtain ⟨r,hr,hs⟩:=bind_some hs
 obtain ⟨q,hq,hs⟩:=bind_some hs
 obtain ⟨rfl,rfl⟩:=value_inj (Option.some.inj hs)
 obtain ⟨v',h1,h2⟩:=do_lookup hg (copd_sound hT hm huu) (copd_sound hT hk hr) hu hgt hz ok hq
 exact does_same hg (by simp [execOp,ho]) h1 h2
theorem step_mapent (hg:Good P w ro μ H) (hT:TR P w ro μ T a.tmps) {t:TypeId} {m k:Operand} (ho:o.op = .mapEntry t m k) (hc:cop P (.mapEntry t m k)=some ao) (hs:astep ao T H=some (.value v H')):Does P (execOp a.eval o) w ro μ H v H':=by
 simp only [cop] at hc
 split at hc
 case h_2=>cases hc
 rename_i kt e hu
 obtain ⟨g,hgt,hc⟩:=bind_some hc
 obtain ⟨z,hz,hc⟩:=bind_some hc
 obtain ⟨am,hm,hc⟩:=bind_some hc
 obtain ⟨ak,hk,hc⟩:=bind_some hc
 injection hc with hc; subst hc
 simp only [astep] at hs
 obtain ⟨u,huu,hs⟩:=bind_some hs
 obtain ⟨r,hr,hs⟩:=bind_some hs
 obtain ⟨⟨q1,q2⟩,hq,hs⟩:=bind_some hs
 obtain ⟨rfl,rfl⟩:=value_inj (Option.some.inj hs)
 obtain ⟨v',w',h1,h2,h3,h4⟩:=do_mapent hg (copd_sound hT hm huu) (copd_sound hT hk hr) hu hgt hz hq
 exact does_of (by simp [execOp,ho]) h1 h2 h3 h4
theorem step_entst (hg:Good P w ro μ H) (hT:TR P w ro μ T a.tmps) {t:TypeId} {m s x:Operand} (ho:o.op = .entryStore t m s x) (hc:cop P (.entryStore t m s x)=some ao) (hs:astep ao T H=some (.value v H')):Does P (execOp a.eval o) w ro μ H v H':=by
 simp only [cop] at hc
 obtain ⟨am,hm,hc⟩:=bind_some hc
 obtain ⟨as,hss,hc⟩:=bind_some hc
 obtain ⟨ax,hx,hc⟩:=bind_some hc
 injection hc with hc; subst hc
 simp only [astep] at hs
 obtain ⟨u,huu,hs⟩:=bind_some hs
 obtain ⟨r,hr,hs⟩:=bind_some hs
 obtain ⟨y,hy,hs⟩:=bind_some hs
 obtain ⟨q,hq,hs⟩:=bind_some hs
 obtain ⟨rfl,rfl⟩:=value_inj (Option.some.inj hs)
 obtain ⟨w',h1,h2,h3⟩:=do_entst hg (copd_sound hT hm huu) (copd_sound hT hss hr) (copd_sound hT hx hy) t hq
 exact does_unit (by simp [execOp,ho]) h1 h2 h3
theorem step_rng (hg:Good P w ro μ H) (hT:TR P w ro μ T a.tmps) {t:TypeId} {x:Operand} (ho:o.op = .range t x) (hc:cop P (.range t x)=some ao) (hs:astep ao T H=some (.value v H')):Does P (execOp a.eval o) w ro μ H v H':=by
 simp only [cop] at hc
 split at hc
 case h_3=>cases hc
 case h_2=>
  rename_i hu
  obtain ⟨ax,hx,rfl⟩:=map_some hc
  simp only [astep] at hs
  split at hs
  case h_2=>cases hs
  rename_i m hsx
  split at hs
  case h_2=>cases hs
  rename_i es clock hm
  obtain ⟨rfl,rfl⟩:=value_inj (Option.some.inj hs)
  obtain ⟨v',w',μ',h1,h2,h3,h4⟩:=do_rngM hg hu (copd_sound hT hx hsx) hm
  exact does_of (by simp [execOp,ho]) h1 h2 h3 h4
 rename_i hu
 obtain ⟨ax,hx,rfl⟩:=map_some hc
 simp only [astep] at hs
 split at hs
 ·rename_i s hsx
  obtain ⟨rfl,rfl⟩:=value_inj (Option.some.inj hs)
  have hv:=copd_sound hT hx hsx
  simp only [VR] at hv
  obtain ⟨v',w',μ',h1,h2,h3,h4⟩:=do_rngS hg hu s
  have hex:execOp a.eval o=(do pure (.value (← Instr.range t (a.eval x)))):=by simp [execOp,ho]
  exact does_of hex (by rw [hv]; exact h1) h2 h3 h4
 ·cases hs
theorem step_nxt (hg:Good P w ro μ H) (hT:TR P w ro μ T a.tmps) {x:Operand} {b:Bool} (ho:o.op = .next x b) (hc:cop P (.next x b)=some ao) (hs:astep ao T H=some (.value v H')):Does P (execOp a.eval o) w ro μ H v H':=by
 cases b with
 | false=>
  simp only [cop] at hc
  obtain ⟨ax,hx,rfl⟩:=map_some hc
  simp only [astep] at hs
  split at hs
  case h_2=>cases hs
  obtain ⟨l,hl⟩:=anextM_form hs
  cases hl
 | true=>
  simp only [cop] at hc
  obtain ⟨ax,hx,rfl⟩:=map_some hc
  simp only [astep] at hs
  split at hs
  case h_2=>cases hs
  rename_i id hsx
  split at hs
  case h_2=>cases hs
  rename_i s pos hid
  obtain ⟨h1,h2⟩:=do_nxtS hg (copd_sound hT hx hsx) hid o.type
  split at hs
  ·rename_i hlt
   obtain ⟨rfl,rfl⟩:=value_inj (Option.some.inj hs)
   obtain ⟨v',w',g1,g2,g3,g4⟩:=h1 hlt
   exact does_of (by simp [execOp,ho]) g1 g2 g3 g4
  ·rename_i hlt
   obtain ⟨rfl,rfl⟩:=value_inj (Option.some.inj hs)
   obtain ⟨v',g1,g2⟩:=h2 hlt
   exact does_same hg (by simp [execOp,ho]) g1 g2
theorem step_ent (hg:Good P w ro μ H) (hT:TR P w ro μ T a.tmps) {x:Operand} (ho:o.op = .entry x) (hc:cop P (.entry x)=some ao) (hs:astep ao T H=some (.value v H')):Does P (execOp a.eval o) w ro μ H v H':=by
 simp only [cop] at hc
 obtain ⟨ax,hx,rfl⟩:=map_some hc
 simp only [astep] at hs
 obtain ⟨u,hu,hs⟩:=bind_some hs
 obtain ⟨y,hy,hs⟩:=bind_some hs
 obtain ⟨rfl,rfl⟩:=value_inj (Option.some.inj hs)
 obtain ⟨v',g1,g2⟩:=do_entM hg (copd_sound hT hx hu) hy
 exact does_same hg (by simp [execOp,ho]) g1 g2
theorem step_extract (hg:Good P w ro μ H) (hT:TR P w ro μ T a.tmps) {x:Operand} {i:Nat} (ho:o.op = .extract x i) (hc:cop P (.extract x i)=some ao) (hs:astep ao T H=some (.value v H')):Does P (execOp a.eval o) w ro μ H v H':=by
 simp only [cop] at hc
 obtain ⟨ax,hx,rfl⟩:=map_some hc
 simp only [astep] at hs
 split at hs
 case h_2=>cases hs
 rename_i vs hvs
 obtain ⟨u,hu,hs⟩:=bind_some hs
 obtain ⟨rfl,rfl⟩:=value_inj (Option.some.inj hs)
 obtain ⟨us,he,hus⟩:=copd_sound hT hx hvs
 have hl:=hus.len
 have hi:i < vs.length:=(List.getElem?_eq_some_iff.1 hu).1
 have hi':i < us.size:=by simpa using (by omega:i < us.toList.length)
 have hex:execOp a.eval o=(do pure (.value (← Instr.extract (a.eval x) i))):=by simp [execOp,ho]
 exact does_same hg hex (v':=us[i]) (by rw [he]; simp [Instr.extract,hi']) (((VRs_iff _ _).1 hus).2 i _ _ hu (by simp [hi']))
theorem step_tassert (hg:Good P w ro μ H) (hT:TR P w ro μ T a.tmps) {x:Operand} {t xt:TypeId} {ok:Bool} (ho:o.op = .typeAssert x xt t ok) (hc:cop P (.typeAssert x xt t ok)=some ao) (hs:astep ao T H=some (.value v H')):Does P (execOp a.eval o) w ro μ H v H':=by
 simp only [cop] at hc
 split at hc
 ·cases hc
 ·cases hc
 ·rename_i d hni hd
  obtain ⟨z,hz,hc⟩:=bind_some hc
  obtain ⟨ax,hx,hc⟩:=bind_some hc
  injection hc with hc; subst hc
  simp only [astep] at hs
  obtain ⟨u,hu,hs⟩:=bind_some hs
  obtain ⟨q,hq,hs⟩:=bind_some hs
  obtain ⟨rfl,rfl⟩:=value_inj (Option.some.inj hs)
  obtain ⟨v',h1,h2⟩:=do_tassert (w:=w) (xt:=xt) hd (fun ms e=>hni ms e) hz ok (copd_sound hT hx hu) hq
  exact does_same hg (by simp [execOp,ho]) h1 h2
theorem args1 {xs:Array Operand} {x:Operand} (h:xs.toList=[x]):xs = #[x]:=by apply Array.ext'; simpa using h
theorem args2 {xs:Array Operand} {x y:Operand} (h:xs.toList=[x,y]):xs = #[x,y]:=by apply Array.ext'; simpa using h
theorem types2 {xs:Array TypeId} {x y:TypeId} (h:xs.toList=[x,y]):xs = #[x,y]:=by apply Array.ext'; simpa using h
def Callable (P : Program) (f : FuncId) : Prop := ∃ fn, P.funcs[f]? = some fn ∧ fn.body.isSome = true ∧ fn.name ≠ "runtime.NumGoroutine"
theorem callFunc_run {f:FuncId} (h:Callable P f) (args:Array Value):(callFunc f args).run P w = .ok (.enter f args) w:=by
 obtain ⟨fn,h1,h2,h3⟩:=h
 have hb:fn.body≠none:=by intro e; rw [e] at h2; cases h2
 simp [callFunc,h1,h3,hb]
theorem find_bits (fn : Func) (hn : fn.name = "math.Float64bits") (ho : fn.origin = "") : Extern.findNext fn = none ∧ Extern.find fn = some Extern.MathFloatBits.float64bits := by
 cases fn; simp only at hn ho; subst hn; subst ho
 exact ⟨by kernel_rfl,by kernel_rfl⟩
theorem find_frombits (fn : Func) (hn : fn.name = "math.Float64frombits") (ho : fn.origin = "") : Extern.findNext fn = none ∧ Extern.find fn = some Extern.MathFloatBits.float64frombits := by
 cases fn; simp only at hn ho; subst hn; subst ho
 exact ⟨by kernel_rfl,by kernel_rfl⟩
theorem find_indexByte (fn : Func) (hn : fn.name = "internal/bytealg.IndexByteString") (ho : fn.origin = "") : Extern.findNext fn = none ∧ Extern.find fn = some Extern.BytealgIndexByte.indexByte := by
 cases fn; simp only at hn ho; subst hn; subst ho
 exact ⟨by kernel_rfl,by kernel_rfl⟩
theorem find_trunc (fn : Func) (hn : fn.name = "math.archTrunc") (ho : fn.origin = "") : Extern.findNext fn = none ∧ Extern.find fn = some (Extern.MathFloor.toIntegral "math.archTrunc" .zero) := by
 cases fn; simp only at hn ho; subst hn; subst ho
 exact ⟨by kernel_rfl,by kernel_rfl⟩
theorem find_floor (fn : Func) (hn : fn.name = "math.archFloor") (ho : fn.origin = "") : Extern.findNext fn = none ∧ Extern.find fn = some (Extern.MathFloor.toIntegral "math.archFloor" .down) := by
 cases fn; simp only at hn ho; subst hn; subst ho
 exact ⟨by kernel_rfl,by kernel_rfl⟩
theorem find_ceil (fn : Func) (hn : fn.name = "math.archCeil") (ho : fn.origin = "") : Extern.findNext fn = none ∧ Extern.find fn = some (Extern.MathFloor.toIntegral "math.archCeil" .up) := by
 cases fn; simp only at hn ho; subst hn; subst ho
 exact ⟨by kernel_rfl,by kernel_rfl⟩
theorem find_cmp (fn : Func) (hn : fn.name = "internal/bytealg.abigen_runtime_cmpstring") (ho : fn.origin = "") : Extern.findNext fn = none ∧ Extern.find fn = some Extern.BytealgCompare.compare := by
 cases fn; simp only at hn ho; subst hn; subst ho
 exact ⟨by kernel_rfl,by kernel_rfl⟩
theorem toIntegral_eq {way:Ieee.Toward} {b:Nat} (name:String) (hd:∀ s t,FloatKind.f64.decode b = .nan s t→False):Extern.MathFloor.toIntegral name way #[.float .f64 b]=pure (.float .f64 (FloatKind.f64.encode ((FloatKind.f64.decode b).integral way))):=by
 conv=>lhs; whnf
 cases h:FloatKind.f64.decode b with
 | nan s t=>exact (hd s t h).elim
 | _=>rfl
theorem aext3_run {way:Ieee.Toward} {as:List AVal} {x:AVal} (hx:aext3 way as=some x) {vl:List Value} (hv:VRs P w ro μ as vl) (name:String):∃ v',(Extern.MathFloor.toIntegral name way ⟨vl⟩).run P w = .ok v' w∧VR P w ro μ x v':=by
 unfold aext3 at hx
 split at hx <;> first | (cases hx; done) | skip
 ·rename_i b
  obtain ⟨u,r,rfl,hu,hr⟩:=hv
  simp only [VRs] at hr; subst hr
  simp only [VR] at hu; subst hu
  split at hx <;> first | (cases hx; done) | skip
  rename_i hd
  injection hx with hx; subst hx
  exact ⟨_,by rw [toIntegral_eq name hd]; rfl,rfl⟩
theorem ext_run {f : FuncId} {fn : Func} (hf : P.funcs[f]? = some fn) (hb : (fn.body.isNone && fn.origin == "") = true) {k : Nat} (hk : extNo fn.name = some k) {as : List AVal} {x : AVal} (hx : aext k as = some x) {vs : Array Value} (hv : VRs P w ro μ as vs.toList) :
  ∃ v',(callFunc f vs).run P w = .ok (.value v') w∧VR P w ro μ x v':=by
 rw [Bool.and_eq_true,beq_iff_eq] at hb
 unfold extNo at hk
 obtain ⟨vl⟩:=vs
 simp only at hv
 split at hk
 ·rename_i hn; rw [beq_iff_eq] at hn
  injection hk with hk; subst hk
  simp only [aext] at hx
  unfold aext0 at hx
  split at hx <;> first | (cases hx; done) | skip
  ·rename_i b
   injection hx with hx; subst hx
   obtain ⟨u,r,rfl,hu,hr⟩:=hv
   simp only [VRs] at hr; subst hr
   simp only [VR] at hu; subst hu
   obtain ⟨h1,h2⟩:=find_bits fn hn hb.2
   exact ⟨_,by rw [run_callFunc_extern hf (by rw [hn]; rfl) hb.1 h1 h2]; rfl,rfl⟩
 ·split at hk
  ·rename_i hn; rw [beq_iff_eq] at hn
   injection hk with hk; subst hk
   simp only [aext] at hx
   unfold aext1 at hx
   split at hx <;> first | (cases hx; done) | skip
   ·rename_i b
    injection hx with hx; subst hx
    obtain ⟨u,r,rfl,hu,hr⟩:=hv
    simp only [VRs] at hr; subst hr
    simp only [VR] at hu; subst hu
    obtain ⟨h1,h2⟩:=find_frombits fn hn hb.2
    exact ⟨_,by rw [run_callFunc_extern hf (by rw [hn]; rfl) hb.1 h1 h2]; rfl,rfl⟩
  ·split at hk
   ·rename_i hn; rw [beq_iff_eq] at hn
    injection hk with hk; subst hk
    simp only [aext] at hx
    unfold aext2 at hx
    split at hx <;> first | (cases hx; done) | skip
    ·rename_i b c
     injection hx with hx; subst hx
     obtain ⟨u,r,rfl,hu,hr⟩:=hv
     obtain ⟨u2,r2,rfl,hu2,hr⟩:=hr
     simp only [VRs] at hr; subst hr
     simp only [VR] at hu hu2; subst hu; subst hu2
     obtain ⟨h1,h2⟩:=find_indexByte fn hn hb.2
     refine ⟨.int .i64 (firstIdx b c.toNat.toUInt8),?_,?_⟩
     ·have hrun:=run_indexByte_string (P:=P) b c w
      rw [run_callFunc_extern hf (by rw [hn]; rfl) hb.1 h1 h2]
      show ((Extern.BytealgIndexByte.indexByte #[.string b,.int .u8 c]).run P w).andThen _=_
      rw [hrun]; rfl
     ·unfold firstIdx
      split <;> rename_i he <;> rw [he] <;> rfl
   ·split at hk
    ·rename_i hn; rw [beq_iff_eq] at hn
     injection hk with hk; subst hk
     simp only [aext] at hx
     obtain ⟨v', hr, hv'⟩ := aext3_run hx hv "math.archTrunc"
     obtain ⟨h1,h2⟩:=find_trunc fn hn hb.2
     exact ⟨v',by rw [run_callFunc_extern hf (by rw [hn]; rfl) hb.1 h1 h2,hr]; rfl,hv'⟩
    ·split at hk
     ·rename_i hn; rw [beq_iff_eq] at hn
      injection hk with hk; subst hk
      simp only [aext] at hx
      obtain ⟨v', hr, hv'⟩ := aext3_run hx hv "math.archFloor"
      obtain ⟨h1,h2⟩:=find_floor fn hn hb.2
      exact ⟨v',by rw [run_callFunc_extern hf (by rw [hn]; rfl) hb.1 h1 h2,hr]; rfl,hv'⟩
     ·split at hk
      ·rename_i hn; rw [beq_iff_eq] at hn
       injection hk with hk; subst hk
       simp only [aext] at hx
       obtain ⟨v', hr, hv'⟩ := aext3_run hx hv "math.archCeil"
       obtain ⟨h1,h2⟩:=find_ceil fn hn hb.2
       exact ⟨v',by rw [run_callFunc_extern hf (by rw [hn]; rfl) hb.1 h1 h2,hr]; rfl,hv'⟩
      ·split at hk
       ·rename_i hn; rw [beq_iff_eq] at hn
        injection hk with hk; subst hk
        simp only [aext] at hx
        unfold aext7 at hx
        split at hx <;> first | (cases hx; done) | skip
        ·rename_i b c
         injection hx with hx; subst hx
         obtain ⟨u,r,rfl,hu,hr⟩:=hv
         obtain ⟨u2,r2,rfl,hu2,hr⟩:=hr
         simp only [VRs] at hr; subst hr
         simp only [VR] at hu hu2; subst hu; subst hu2
         obtain ⟨h1,h2⟩:=find_cmp fn hn hb.2
         refine ⟨goInt (Extern.BytealgCompare.cmp b c),?_,rfl⟩
         rw [run_callFunc_extern hf (by rw [hn]; rfl) hb.1 h1 h2]
         rfl
       ·cases hk
theorem step_call (hg:Good P w ro μ H) (hT:TR P w ro μ T a.tmps) {c:Call} (ho:o.op = .call c) (hc:cop P (.call c)=some ao) (hs:astep ao T H=some (.value v H')):Does P (execOp a.eval o) w ro μ H v H':=by
 simp only [cop] at hc
 unfold ccall at hc
 split at hc
 ·rename_i f hcal
  split at hc
  ·rename_i fn hf
   split at hc
   ·obtain ⟨as,_,rfl⟩:=map_some hc
    simp only [astep] at hs
    obtain ⟨u,hu,hs⟩:=bind_some hs
    cases hs
   ·split at hc
    ·rename_i hb
     split at hc
     ·rename_i k hk
      obtain ⟨as,has,rfl⟩:=map_some hc
      simp only [astep] at hs
      obtain ⟨u,hu,hs⟩:=bind_some hs
      obtain ⟨x,hx,hs⟩:=bind_some hs
      obtain ⟨rfl,rfl⟩:=value_inj (Option.some.inj hs)
      obtain ⟨v',hr,hv⟩:=ext_run (w:=w) (ro:=ro) (μ:=μ) hf hb hk hx (vs:=c.args.map a.eval) (by simpa using copds_sound hT has hu)
      exact ⟨v',w,ro,μ,by simp [execOp,ho,resolve,hcal,Act.eval,Deferred.ofValue,invoke,hr],hv,hg,Out.refl _ _ _ _⟩
     ·cases hc
    ·cases hc
  ·cases hc
 ·obtain ⟨f,_,hc⟩:=bind_some hc
  obtain ⟨as,_,hc⟩:=bind_some hc
  injection hc with hc; subst hc
  simp only [astep] at hs
  split at hs
  ·obtain ⟨u,hu,hs⟩:=bind_some hs
   cases hs
  ·cases hs
 ·obtain ⟨f,_,hc⟩:=bind_some hc
  obtain ⟨as,_,hc⟩:=bind_some hc
  injection hc with hc; subst hc
  cases hs
 ·
  rename_i hcal
  split at hc
  ·rename_i x t hxs ht
   have hxa:=args1 hxs
   have hex:execOp a.eval o=(do pure (.value (← Builtin.len_ c.argTypes o.type #[a.eval x]))):=by simp [execOp,ho,resolve,hcal,hxa,invoke,builtin]
   have rest:∀ tag d,P.underlying t=some d→((tag=0∧d = .string)∨(tag=1∧∃ e,d = .slice e)∨(tag=2∧∃ k e,d = .map k e))→∀ ax,copd x=some ax→astep (.len tag ax) T H=some (.value v H')→Does P (execOp a.eval o) w ro μ H v H':=by
    intro tag d hd hkind ax hx hs
    simp only [astep] at hs
    obtain ⟨u,hu,hs⟩:=bind_some hs
    obtain ⟨n,hn,hs⟩:=bind_some hs
    obtain ⟨rfl,rfl⟩:=value_inj (Option.some.inj hs)
    have hv:=copd_sound hT hx hu
    refine does_same hg hex (v':=goInt n) ?_ rfl
    unfold alenT at hn
    split at hn
    ·injection hn with hn; subst hn
     simp only [VR] at hv; rw [hv]
     rcases hkind with ⟨_,rfl⟩ | ⟨h0,_⟩ | ⟨h0,_⟩ <;> first | (cases h0; done) | simp [Builtin.len_,ht,run_underlying hd]
    ·injection hn with hn; subst hn
     simp only [VR] at hv; rw [hv]
     rcases hkind with ⟨h0,_⟩ | ⟨_,e,rfl⟩ | ⟨h0,_⟩ <;> first | (cases h0; done) | simp [Builtin.len_,ht,run_underlying hd]
    ·injection hn with hn; subst hn
     obtain ⟨b,o',k,sp,hv,_⟩:=hv; rw [hv]
     rcases hkind with ⟨h0,_⟩ | ⟨_,e,rfl⟩ | ⟨h0,_⟩ <;> first | (cases h0; done) | simp [Builtin.len_,ht,run_underlying hd]
    ·injection hn with hn; subst hn
     obtain ⟨b,base,c',e',fr,k,_,_,hv,_⟩:=hv; rw [hv]
     rcases hkind with ⟨h0,_⟩ | ⟨_,e,rfl⟩ | ⟨h0,_⟩ <;> first | (cases h0; done) | simp [Builtin.len_,ht,run_underlying hd]
    ·injection hn with hn; subst hn
     simp only [VR] at hv; rw [hv]
     rcases hkind with ⟨h0,_⟩ | ⟨h0,_⟩ | ⟨_,k,e,rfl⟩ <;> first | (cases h0; done) | simp [Builtin.len_,ht,run_underlying hd]
    ·obtain ⟨b,hmu,hv⟩:=hv; rw [hv]
     split at hn
     case h_2=>cases hn
     rename_i es clock hid
     injection hn with hn; subst hn
     obtain ⟨_,ms,hb,hes⟩:=hg.blk _ _ b 0 hid hmu
     have hl:=hes.len
     simp only [Array.length_toList] at hl
     rcases hkind with ⟨h0,_⟩ | ⟨h0,_⟩ | ⟨_,k,e,rfl⟩ <;> first | (cases h0; done) | simp [Builtin.len_,ht,run_underlying hd,getObj_map hb,hl]
    ·rcases hkind with ⟨h0,_⟩ | ⟨h0,_⟩ | ⟨h0,_⟩ <;> cases h0
    ·cases hn
   split at hc
   ·rename_i hd
    obtain ⟨ax,hx,rfl⟩:=map_some hc
    exact rest 0 _ hd (.inl ⟨rfl,rfl⟩) ax hx hs
   ·rename_i e hd
    obtain ⟨ax,hx,rfl⟩:=map_some hc
    exact rest 1 _ hd (.inr (.inl ⟨rfl,_,rfl⟩)) ax hx hs
   ·rename_i k e hd
    obtain ⟨ax,hx,rfl⟩:=map_some hc
    exact rest 2 _ hd (.inr (.inr ⟨rfl,_,_,rfl⟩)) ax hx hs
   ·cases hc
  ·cases hc
 ·
  rename_i hcal
  split at hc
  ·rename_i x t hxs ht
   have hxa:=args1 hxs
   have hex:execOp a.eval o=(do pure (.value (← Builtin.cap_ c.argTypes o.type #[a.eval x]))):=by simp [execOp,ho,resolve,hcal,hxa,invoke,builtin]
   split at hc
   ·rename_i e hd
    obtain ⟨ax,hx,rfl⟩:=map_some hc
    simp only [astep] at hs
    obtain ⟨u,hu,hs⟩:=bind_some hs
    obtain ⟨n,hn,hs⟩:=bind_some hs
    obtain ⟨rfl,rfl⟩:=value_inj (Option.some.inj hs)
    have hv:=copd_sound hT hx hu
    refine does_same hg hex (v':=goInt n) ?_ rfl
    cases u <;> simp only [alenT] at hn <;> first | (cases hn; done) | skip
    injection hn with hn; subst hn
    simp only [VR] at hv; rw [hv]
    simp [Builtin.cap_,ht,run_underlying hd]
   ·cases hc
  ·cases hc
 ·
  rename_i hcal
  split at hc
  case h_2=>cases hc
  rename_i x y s t hxs hts
  have hxa:=args2 hxs
  have hta:=types2 hts
  have hex:execOp a.eval o=(do pure (.value (← Builtin.append_ #[s,t] o.type #[a.eval x,a.eval y]))):=by simp [execOp,ho,resolve,hcal,hxa,hta,invoke,builtin]
  have rest:∀ e d2,P.underlying s=some (.slice e)→P.underlying t=some d2→((∃ e2,d2 = .slice e2)∨d2 = .string)→(do
    let i ← P.info? e
    let z ← i.zero
    if z.cells.size=i.size∧i.size≠0 then do
     let x ← copd x
     let y ← copd y
     pure (.app e i.size i.bytes x y)
    else none:Option AOp)=some ao→Does P (execOp a.eval o) w ro μ H v H':=by
   intro e d2 h1 h2 hd2 hc
   obtain ⟨i,hi,hc⟩:=bind_some hc
   obtain ⟨z,hz,hc⟩:=bind_some hc
   split at hc
   case isFalse=>cases hc
   rename_i hh
   obtain ⟨ax,hx,hc⟩:=bind_some hc
   obtain ⟨ay,hy,hc⟩:=bind_some hc
   injection hc with hc; subst hc
   simp only [astep] at hs
   obtain ⟨u,hu,hs⟩:=bind_some hs
   obtain ⟨r,hr,hs⟩:=bind_some hs
   obtain ⟨⟨q1,q2⟩,hq,hs⟩:=bind_some hs
   obtain ⟨rfl,rfl⟩:=value_inj (Option.some.inj hs)
   obtain ⟨v',w',μ',g1,g2,g3,g4⟩:=do_app (ty:=o.type) hg (copd_sound hT hx hu) (copd_sound hT hy hr) h1 h2 hd2 hi hz hh.1 hq
   exact does_of hex g1 g2 g3 g4
  split at hc
  ·rename_i e e2 h1 h2
   exact rest e _ h1 h2 (.inl ⟨_,rfl⟩) hc
  ·rename_i e h1 h2
   exact rest e _ h1 h2 (.inr rfl) hc
  ·rename_i e k h1 h2
   obtain ⟨i,hi,hc⟩:=bind_some hc
   obtain ⟨z,hz,hc⟩:=bind_some hc
   split at hc
   case isFalse=>cases hc
   rename_i hh
   obtain ⟨ax,hx,hc⟩:=bind_some hc
   obtain ⟨ay,hy,hc⟩:=bind_some hc
   injection hc with hc; subst hc
   simp only [astep] at hs
   obtain ⟨u,hu,hs⟩:=bind_some hs
   obtain ⟨r,hr,hs⟩:=bind_some hs
   obtain ⟨⟨q1,q2⟩,hq,hs⟩:=bind_some hs
   obtain ⟨rfl,rfl⟩:=value_inj (Option.some.inj hs)
   obtain ⟨v',w',μ',g1,g2,g3,g4⟩:=do_appN (ty:=o.type) hg (copd_sound hT hx hu) (copd_sound hT hy hr) h1 h2 hi hz hh hq
   exact does_of hex g1 g2 g3 g4
  ·cases hc
 ·
  rename_i hcal
  split at hc
  case h_2=>cases hc
  rename_i x y s hxs hts
  have hxa:=args2 hxs
  have hex:execOp a.eval o=(do pure (.value (← Builtin.copy_ c.argTypes o.type #[a.eval x,a.eval y]))):=by simp [execOp,ho,resolve,hcal,hxa,invoke,builtin]
  split at hc
  case h_2=>cases hc
  rename_i e h1
  obtain ⟨n,hn,hc⟩:=bind_some hc
  obtain ⟨ax,hx,hc⟩:=bind_some hc
  obtain ⟨ay,hy,hc⟩:=bind_some hc
  injection hc with hc; subst hc
  simp only [astep] at hs
  obtain ⟨u,hu,hs⟩:=bind_some hs
  obtain ⟨r,hr,hs⟩:=bind_some hs
  obtain ⟨⟨q1,q2⟩,hq,hs⟩:=bind_some hs
  obtain ⟨rfl,rfl⟩:=value_inj (Option.some.inj hs)
  obtain ⟨v',w',g1,g2,g3,g4⟩:=do_copy (ty:=o.type) hg (copd_sound hT hx hu) (copd_sound hT hy hr) c.argTypes hts h1 hn hq
  exact does_of hex g1 g2 g3 g4
 ·
  rename_i hcal
  split at hc
  case h_2=>cases hc
  rename_i x y s hxs hts
  have hxa:=args2 hxs
  have hex:execOp a.eval o=(do pure (.value (← Builtin.delete_ c.argTypes o.type #[a.eval x,a.eval y]))):=by simp [execOp,ho,resolve,hcal,hxa,invoke,builtin]
  split at hc
  case h_2=>cases hc
  rename_i k e h1
  obtain ⟨g,hgt,hc⟩:=bind_some hc
  obtain ⟨ax,hx,hc⟩:=bind_some hc
  obtain ⟨ay,hy,hc⟩:=bind_some hc
  injection hc with hc; subst hc
  simp only [astep] at hs
  obtain ⟨u,hu,hs⟩:=bind_some hs
  obtain ⟨r,hr,hs⟩:=bind_some hs
  obtain ⟨q,hq,hs⟩:=bind_some hs
  obtain ⟨rfl,rfl⟩:=value_inj (Option.some.inj hs)
  obtain ⟨w',g1,g3,g4⟩:=do_del hg (copd_sound hT hx hu) (copd_sound hT hy hr) h1 hgt hq c.argTypes hts o.type
  exact does_of hex g1 ⟨#[],rfl,rfl⟩ g3 g4
 ·split at hc
  ·injection hc with hc; subst hc; cases hs
  ·cases hc
 ·
  rename_i hcal
  split at hc
  case h_2=>cases hc
  rename_i x y hxs
  have hxa:=args2 hxs
  have hex:execOp a.eval o=(do pure (.value (← Builtin.max_ c.argTypes o.type #[a.eval x,a.eval y]))):=by simp [execOp,ho,resolve,hcal,hxa,invoke,builtin]
  obtain ⟨ax,hx,hc⟩:=bind_some hc
  obtain ⟨ay,hy,hc⟩:=bind_some hc
  injection hc with hc; subst hc
  simp only [astep] at hs
  obtain ⟨u,hu,hs⟩:=bind_some hs
  obtain ⟨q,hq,hs⟩:=bind_some hs
  obtain ⟨rfl,rfl⟩:=value_inj (Option.some.inj hs)
  simp only [Env.vals] at hu
  obtain ⟨u1,hu1,hu⟩:=bind_some hu
  obtain ⟨us,hus,hu⟩:=bind_some hu
  obtain ⟨u2,hu2,hus⟩:=bind_some hus
  obtain ⟨us2,hus2,hus⟩:=bind_some hus
  injection hus2 with hus2; subst hus2
  injection hus with hus; subst hus
  injection hu with hu; subst hu
  have hv1:=copd_sound hT hx hu1
  have hv2:=copd_sound hT hy hu2
  simp only [aext] at hq
  unfold aext6 at hq
  split at hq
  ·rename_i k z k' z' he
   injection he with e1 he; injection he with e2 _
   subst e1; subst e2
   split at hq
   case isFalse=>cases hq
   rename_i hk
   subst hk
   injection hq with hq; subst hq
   simp only [VR] at hv1 hv2
   refine does_same hg hex (v':=.int k (if z' > z then z' else z)) ?_ rfl
   rw [hv1,hv2]
   simp [Builtin.max_,Builtin.max2]
  ·cases hq
 ·cases hc
theorem cop_sound (hg:Good P w ro μ H) (hT:TR P w ro μ T a.tmps) (hc:cop P o.op=some ao) (hs:astep ao T H=some (.value v H')):Does P (execOp a.eval o) w ro μ H v H':=by
 cases ho:o.op <;> rw [ho] at hc
 case move=>exact step_move hg hT (.inl ho) hc hs
 case assign=>exact step_move hg hT (.inr ho) hc hs
 case pick=>exact step_pick hg hT ho hc hs
 case alloc=>exact step_alloc hg ho hc hs
 case box=>exact step_box hg hT ho hc hs
 case build=>exact step_build hg hT ho hc hs
 case buildSlice=>exact step_bslice hg hT ho hc hs
 case load=>exact step_load hg hT ho hc hs
 case store=>exact step_store hg hT ho hc hs
 case nilCheck=>exact step_nilchk hg hT ho hc hs
 case binOp=>exact step_bin hg hT ho hc hs
 case unOp=>exact step_un hg hT ho hc hs
 case convert=>exact step_conv hg hT ho hc hs
 case makeInterface=>exact step_mkifc hg hT ho hc hs
 case makeFunc=>exact step_mkfn hg hT ho hc hs
 case makeMap=>exact step_mkmap hg ho hc hs
 case makeSlice=>exact step_mkslice hg hT ho hc hs
 case slice=>exact step_slice hg hT ho hc hs
 case fieldAddr=>exact step_faddr hg hT ho hc hs
 case field=>exact step_fld hg hT ho hc hs
 case indexAddr=>exact step_iaddr hg hT ho hc hs
 case index=>exact step_idx hg hT ho hc hs
 case lookup=>exact step_lookup hg hT ho hc hs
 case mapEntry=>exact step_mapent hg hT ho hc hs
 case entryStore=>exact step_entst hg hT ho hc hs
 case range=>exact step_rng hg hT ho hc hs
 case next=>exact step_nxt hg hT ho hc hs
 case entry=>exact step_ent hg hT ho hc hs
 case extract=>exact step_extract hg hT ho hc hs
 case typeAssert=>exact step_tassert hg hT ho hc hs
 case call=>exact step_call hg hT ho hc hs
 case panic=>obtain ⟨y,_,rfl⟩:=map_some hc; simp only [astep] at hs; split at hs <;> cases hs
 case defer c=>
  simp only [cop] at hc
  split at hc
  ·cases hc
  ·obtain ⟨y,_,hc⟩:=bind_some hc
   obtain ⟨xs,_,hc⟩:=bind_some hc
   injection hc with hc; subst hc
   simp only [astep] at hs
   split at hs
   ·obtain ⟨_,_,hs⟩:=bind_some hs; cases hs
   ·cases hs
  ·cases hc
 all_goals (cases hc)
theorem astep_enter {f:FuncId} {as:List AVal} (h:astep ao T H=some (.enter f as)):(∃ g xs,ao = .callF g xs)∨(∃ x xs,ao = .callV x xs):=by
 cases ao <;> simp only [astep] at h
 case callF=>exact .inl ⟨_,_,rfl⟩
 case callV=>exact .inr ⟨_,_,rfl⟩
 case nxtM=>
  split at h
  ·obtain ⟨l,hl⟩:=anextM_form h
   cases hl
  ·cases h
 all_goals (repeat' (first | (cases h; done) | (obtain ⟨_,_,h⟩:=bind_some h) | split at h))
theorem cop_call {op:Op} (hc:cop P op=some ao) (h:(∃ g xs,ao = .callF g xs)∨(∃ x xs,ao = .callV x xs)):∃ c,op = .call c:=by
 have no:∀ {b:AOp},some b=some ao→(∀ g xs,b≠.callF g xs)→(∀ x xs,b≠.callV x xs)→False:=by
  intro b hb h1 h2
  injection hb with hb; subst hb
  rcases h with ⟨g,xs,e⟩ | ⟨x,xs,e⟩
  ·exact h1 _ _ e
  ·exact h2 _ _ e
 cases op <;> simp only [cop] at hc
 case call c=>exact ⟨c,rfl⟩
 case makeMap t r=>exfalso; cases r <;> simp only [cop] at hc <;> first | (cases hc; done) | exact no hc (by simp) (by simp)
 case next x b=>exfalso; cases b <;> simp only [cop] at hc <;> first | (cases hc; done) | (obtain ⟨_,_,rfl⟩:=map_some hc; exact no rfl (by simp) (by simp))
 all_goals (exfalso; repeat' (first | (cases hc; done) | (exact no hc (by simp) (by simp)) | (obtain ⟨_,_,hc⟩:=bind_some hc) | (obtain ⟨_,_,rfl⟩:=map_some hc; exact no rfl (by simp) (by simp)) | split at hc))
theorem cop_enter (hT:TR P w ro μ T a.tmps) (hc:cop P o.op=some ao) {f:FuncId} {as:List AVal} (hs:astep ao T H=some (.enter f as)) (hf:Callable P f):∃ args:Array Value,(execOp a.eval o).run P w = .ok (.enter f args) w∧VRs P w ro μ as args.toList:=by
 have key:∀ c:Call,o.op = .call c→ccall P c=some ao→∃ args:Array Value,(execOp a.eval o).run P w = .ok (.enter f args) w∧VRs P w ro μ as args.toList:=by
  intro c ho hc
  unfold ccall at hc
  split at hc
  ·rename_i g hcal
   split at hc
   ·split at hc
    ·obtain ⟨xs,hxs,rfl⟩:=map_some hc
     simp only [astep] at hs
     obtain ⟨u,hu,hs⟩:=bind_some hs
     injection hs with hs; injection hs with h1 h2; subst h1; subst h2
     refine ⟨c.args.map a.eval,?_,by simpa using copds_sound hT hxs hu⟩
     simp [execOp,ho,resolve,hcal,Act.eval,Deferred.ofValue,invoke,callFunc_run hf]
    ·split at hc
     ·split at hc
      ·obtain ⟨xs,hxs,rfl⟩:=map_some hc
       simp only [astep] at hs
       obtain ⟨u,hu,hs⟩:=bind_some hs
       obtain ⟨u2,hu2,hs⟩:=bind_some hs
       cases hs
      ·cases hc
     ·cases hc
   ·cases hc
  ·rename_i x hx hcal
   obtain ⟨af,haf,hc⟩:=bind_some hc
   obtain ⟨xs,hxs,hc⟩:=bind_some hc
   injection hc with hc; subst hc
   simp only [astep] at hs
   split at hs
   ·rename_i g first cap hfv
    obtain ⟨u,hu,hs⟩:=bind_some hs
    injection hs with hs; injection hs with h1 h2; subst h1; subst h2
    obtain ⟨fs,cs,he,h1,h2⟩:=copd_sound hT haf hfv
    refine ⟨fs++c.args.map a.eval++cs,?_,?_⟩
    ·simp [execOp,ho,resolve,hcal,he,Deferred.ofValue,invoke,callFunc_run hf]
    ·simp only [Array.toList_append]
     exact (h1.append (by simpa using copds_sound hT hxs hu)).append h2
   ·cases hs
  ·obtain ⟨g,_,hc⟩:=bind_some hc
   obtain ⟨xs,_,hc⟩:=bind_some hc
   injection hc with hc; subst hc
   cases hs
  ·
   split at hc
   ·split at hc <;> (try (cases hc; done)) <;>
     (obtain ⟨ax,_,rfl⟩:=map_some hc; simp only [astep] at hs; obtain ⟨y,_,hs⟩:=bind_some hs; obtain ⟨z,_,hs⟩:=bind_some hs; cases hs)
   ·cases hc
  ·
   split at hc
   ·split at hc <;> (try (cases hc; done)) <;>
     (obtain ⟨ax,_,rfl⟩:=map_some hc; simp only [astep] at hs; obtain ⟨y,_,hs⟩:=bind_some hs; obtain ⟨z,_,hs⟩:=bind_some hs; cases hs)
   ·cases hc
  ·split at hc
   case h_2=>cases hc
   split at hc <;> (try (cases hc; done)) <;>
    (obtain ⟨i,_,hc⟩:=bind_some hc; obtain ⟨z,_,hc⟩:=bind_some hc; split at hc <;> (try (cases hc; done)); obtain ⟨ax,_,hc⟩:=bind_some hc; obtain ⟨ay,_,hc⟩:=bind_some hc; injection hc with hc; subst hc; simp only [astep] at hs; obtain ⟨y1,_,hs⟩:=bind_some hs; obtain ⟨y2,_,hs⟩:=bind_some hs; obtain ⟨y3,_,hs⟩:=bind_some hs; cases hs)
  ·split at hc
   case h_2=>cases hc
   split at hc
   case h_2=>cases hc
   obtain ⟨n,_,hc⟩:=bind_some hc
   obtain ⟨ax,_,hc⟩:=bind_some hc
   obtain ⟨ay,_,hc⟩:=bind_some hc
   injection hc with hc; subst hc
   simp only [astep] at hs
   obtain ⟨y1,_,hs⟩:=bind_some hs
   obtain ⟨y2,_,hs⟩:=bind_some hs
   obtain ⟨y3,_,hs⟩:=bind_some hs
   cases hs
  ·split at hc
   case h_2=>cases hc
   split at hc
   case h_2=>cases hc
   obtain ⟨n,_,hc⟩:=bind_some hc
   obtain ⟨ax,_,hc⟩:=bind_some hc
   obtain ⟨ay,_,hc⟩:=bind_some hc
   injection hc with hc; subst hc
   simp only [astep] at hs
   obtain ⟨y1,_,hs⟩:=bind_some hs
   obtain ⟨y2,_,hs⟩:=bind_some hs
   obtain ⟨y3,_,hs⟩:=bind_some hs
   cases hs
  ·split at hc
   ·injection hc with hc; subst hc; cases hs
   ·cases hc
  ·split at hc
   case h_2=>cases hc
   obtain ⟨ax,_,hc⟩:=bind_some hc
   obtain ⟨ay,_,hc⟩:=bind_some hc
   injection hc with hc; subst hc
   simp only [astep] at hs
   obtain ⟨y1,_,hs⟩:=bind_some hs
   obtain ⟨y2,_,hs⟩:=bind_some hs
   cases hs
  ·cases hc
 obtain ⟨c,ho⟩:=cop_call hc (astep_enter hs)
 rw [ho] at hc
 exact key c ho hc
theorem astep_any {l:List (AVal × AHeap)} (h:astep ao T H=some (.anyOf l)):∃ x,ao = .nxtM x:=by
 cases ao <;> simp only [astep] at h
 case nxtM x=>exact ⟨x,rfl⟩
 all_goals (repeat' (first | (cases h; done) | (obtain ⟨_,_,h⟩:=bind_some h) | split at h))
theorem cop_next {op:Op} {x:AOpnd} (hc:cop P op=some (.nxtM x)):∃ y,op = .next y false∧copd y=some x:=by
 cases op <;> simp only [cop] at hc
 case next y b=>
  cases b <;> simp only [cop] at hc
  ·obtain ⟨_,hx,e⟩:=map_some hc; cases e; exact ⟨y,rfl,hx⟩
  ·obtain ⟨_,hx,e⟩:=map_some hc; cases e
 case makeMap t r=>exfalso; cases r <;> simp only [cop] at hc <;> cases hc
 case call c=>exfalso; unfold ccall at hc; repeat' (first | split at hc | (cases hc; done) | (obtain ⟨_,_,hc⟩:=bind_some hc) | (obtain ⟨_,_,hc⟩:=map_some hc))
 all_goals (exfalso; repeat' (first | split at hc | (cases hc; done) | (obtain ⟨_,_,hc⟩:=bind_some hc) | (obtain ⟨_,_,hc⟩:=map_some hc)))
theorem cop_any (hg:Good P w ro μ H) (hT:TR P w ro μ T a.tmps) (hc:cop P o.op=some ao) {l:List (AVal × AHeap)} (hs:astep ao T H=some (.anyOf l)):∃ p ∈ l,Does P (execOp a.eval o) w ro μ H p.1 p.2:=by
 obtain ⟨x,rfl⟩:=astep_any hs
 obtain ⟨y,ho,hx⟩:=cop_next hc
 simp only [astep] at hs
 split at hs
 case h_2=>cases hs
 rename_i v hv
 obtain ⟨p,hp,v',w',g1,g2,g3,g4⟩:=do_nxtM hg (copd_sound hT hx hv) hs o.type
 exact ⟨p,hp,does_of (by simp [execOp,ho]) g1 g2 g3 g4⟩
end Go.Am
