/- One operation: the abstract machine's step is the model's (the rest). -/
import Derived.Test.YtmoimchdhgoeeaaDoorAm15
set_option linter.unusedVariables false
set_option linter.unusedSimpArgs false
namespace Go.Am
open Go.RowKit
variable {P:Program} {w:World} {ro:Nat→Prop} {μ:Mu} {H H':AHeap} {T:Env} {a:Act} {o:Oper} {ao:AOp} {v:AVal}
theorem step_un (hg:Good P w ro μ H) (hT:TR P w ro μ T a.tmps) {op:UnOp} {t:TypeId} {x:Operand} (ho:o.op = .unOp op t x) (hc:cop P (.unOp op t x)=some ao) (hs:astep ao T H=some (.value v H')):Does P (execOp a.eval o) w ro μ H v H':=by
 simp only [cop] at hc
 obtain ⟨ax,hx,rfl⟩:=map_some hc
 simp only [astep] at hs
 obtain ⟨u,hu,hs⟩:=bind_some hs
 obtain ⟨q,hq,hs⟩:=bind_some hs
 obtain ⟨rfl,rfl⟩:=value_inj (Option.some.inj hs)
 obtain ⟨v',h1,h2⟩:=do_un w op (copd_sound hT hx hu) hq
 exact does_same hg (by simp [execOp,ho]) h1 h2
theorem step_conv (hg:Good P w ro μ H) (hT:TR P w ro μ T a.tmps) {s d:TypeId} {x:Operand} (ho:o.op = .convert s d x) (hc:cop P (.convert s d x)=some ao) (hs:astep ao T H=some (.value v H')):Does P (execOp a.eval o) w ro μ H v H':=by
 simp only [cop] at hc
 obtain ⟨ax,hx,hc⟩:=bind_some hc
 have hex:execOp a.eval o=(do pure (.value (← convert s d (a.eval x)))):=by simp [execOp,ho]
 split at hc
 ·rename_i k1 k2 h1 h2
  injection hc with hc; subst hc
  simp only [astep] at hs
  obtain ⟨u,hu,hs⟩:=bind_some hs
  cases u <;> simp only at hs <;> (try (cases hs; done))
  obtain ⟨rfl,rfl⟩:=value_inj (Option.some.inj hs)
  have hv:=copd_sound hT hx hu
  simp only [VR] at hv
  exact does_same hg hex (v':=.int k2 (k2.wrap _)) (by rw [hv]; simp [convert,run_underlying h1,run_underlying h2,Conv.intToInt]) rfl
 ·rename_i k1 k2 h1 h2
  injection hc with hc; subst hc
  simp only [astep] at hs
  obtain ⟨u,hu,hs⟩:=bind_some hs
  cases u <;> simp only at hs <;> (try (cases hs; done))
  obtain ⟨rfl,rfl⟩:=value_inj (Option.some.inj hs)
  have hv:=copd_sound hT hx hu
  simp only [VR] at hv
  exact does_same hg hex (v':=.float k2 (k2.nearest _)) (by rw [hv]; simp [convert,run_underlying h1,run_underlying h2,Conv.intToFloat]) rfl
 ·rename_i h1 h2
  injection hc with hc; subst hc
  simp only [astep] at hs
  obtain ⟨u,hu,hs⟩:=bind_some hs
  cases u <;> simp only at hs <;> (try (cases hs; done))
  obtain ⟨rfl,rfl⟩:=value_inj (Option.some.inj hs)
  have hv:=copd_sound hT hx hu
  simp only [VR] at hv
  exact does_same hg hex (v':=.string _) (by rw [hv]; simp [convert,run_underlying h1,run_underlying h2]) rfl
 ·rename_i e h1 h2
  split at hc
  case h_2=>cases hc
  rename_i h3
  split at hc
  case isFalse=>cases hc
  rename_i h4
  injection hc with hc; subst hc
  simp only [astep] at hs
  obtain ⟨u,hu,hs⟩:=bind_some hs
  cases u <;> simp only at hs <;> (try (cases hs; done))
  split at hs
  case isFalse=>cases hs
  rename_i hlt
  obtain ⟨rfl,rfl⟩:=value_inj (Option.some.inj hs)
  have hv:=copd_sound hT hx hu
  simp only [VR] at hv
  obtain ⟨v',w',μ',g1,g2,g3,g4⟩:=do_strBytes (src:=s) (dst:=d) hg _ h1 h2 h3 h4 hlt
  exact does_of hex (by rw [hv]; exact g1) g2 g3 g4
 ·rename_i e h1 h2
  split at hc
  case h_2=>cases hc
  rename_i h3
  injection hc with hc; subst hc
  simp only [astep] at hs
  obtain ⟨u,hu,hs⟩:=bind_some hs
  obtain ⟨q,hq,hs⟩:=bind_some hs
  obtain ⟨rfl,rfl⟩:=value_inj (Option.some.inj hs)
  have hv:=copd_sound hT hx hu
  unfold abytesStr at hq
  split at hq
  ·cases hq
  rename_i hstr
  split at hq
  ·rename_i len cs hal hsc
   obtain ⟨bs,hbs,rfl⟩:=map_some hq
   exact does_same hg hex (do_bytesStr hg hv h1 h3 h2 (fun s e=>hstr (by rw [e]; rfl)) hal hsc hbs) rfl
  ·cases hq
 ·rename_i k1 k2 h1 h2
  injection hc with hc; subst hc
  simp only [astep] at hs
  obtain ⟨u,hu,hs⟩:=bind_some hs
  cases u <;> simp only at hs <;> (try (cases hs; done))
  rename_i k3 b
  obtain ⟨m,hm,hs⟩:=bind_some hs
  obtain ⟨rfl,rfl⟩:=value_inj (Option.some.inj hs)
  unfold fltInt at hm
  split at hm
  case isFalse=>cases hm
  rename_i hk3
  subst hk3
  split at hm
  ·rename_i n hn
   split at hm
   case isFalse=>cases hm
   rename_i hr
   injection hm with hm; subst hm
   have hv:=copd_sound hT hx hu
   simp only [VR] at hv
   exact does_same hg hex (v':=.int k2 n) (by rw [hv]; simp [convert,run_underlying h1,run_underlying h2,Conv.floatToInt,hn,hr]) rfl
  ·cases hm
 ·cases hc
theorem step_mkifc (hg:Good P w ro μ H) (hT:TR P w ro μ T a.tmps) {t:TypeId} {x:Operand} (ho:o.op = .makeInterface t x) (hc:cop P (.makeInterface t x)=some ao) (hs:astep ao T H=some (.value v H')):Does P (execOp a.eval o) w ro μ H v H':=by
 simp only [cop] at hc
 split at hc
 ·cases hc
 ·cases hc
 ·rename_i d hni hd
  obtain ⟨ax,hx,rfl⟩:=map_some hc
  simp only [astep] at hs
  obtain ⟨u,hu,hs⟩:=bind_some hs
  obtain ⟨rfl,rfl⟩:=value_inj (Option.some.inj hs)
  have hex:execOp a.eval o=(do pure (.value (← Instr.makeInterface t (a.eval x)))):=by simp [execOp,ho]
  refine does_same hg hex (v':=.iface t (a.eval x)) ?_ ⟨_,rfl,copd_sound hT hx hu⟩
  cases d <;> first | (exact absurd rfl (hni _)) | simp [Instr.makeInterface,run_underlying hd]
theorem step_mkfn (hg:Good P w ro μ H) (hT:TR P w ro μ T a.tmps) {f:Fn} {x y:Array Operand} (ho:o.op = .makeFunc f x y) (hc:cop P (.makeFunc f x y)=some ao) (hs:astep ao T H=some (.value v H')):Does P (execOp a.eval o) w ro μ H v H':=by
 simp only [cop] at hc
 obtain ⟨ax,hx,hc⟩:=bind_some hc
 obtain ⟨ay,hy,hc⟩:=bind_some hc
 injection hc with hc; subst hc
 simp only [astep] at hs
 obtain ⟨u,hu,hs⟩:=bind_some hs
 obtain ⟨r,hr,hs⟩:=bind_some hs
 obtain ⟨rfl,rfl⟩:=value_inj (Option.some.inj hs)
 have hex:execOp a.eval o=(do pure (.value (← Instr.makeFunc f (x.map a.eval) (y.map a.eval)))):=by simp [execOp,ho]
 exact does_same hg hex (v':=.func f (x.map a.eval) (y.map a.eval)) (by simp [Instr.makeFunc]) ⟨_,_,rfl,by simpa using copds_sound hT hx hu,by simpa using copds_sound hT hy hr⟩
theorem step_mkmap (hg:Good P w ro μ H) {t:TypeId} {r:Option Operand} (ho:o.op = .makeMap t r) (hc:cop P (.makeMap t r)=some ao) (hs:astep ao T H=some (.value v H')):Does P (execOp a.eval o) w ro μ H v H':=by
 cases r with
 | some x=>cases hc
 | none=>
  simp only [cop] at hc
  injection hc with hc; subst hc
  simp only [astep] at hs
  obtain ⟨rfl,rfl⟩:=value_inj (Option.some.inj hs)
  obtain ⟨v',w',μ',g1,g2,g3,g4⟩:=do_mkmap hg t
  exact does_of (by simp [execOp,ho]) g1 g2 g3 g4
theorem step_mkslice (hg:Good P w ro μ H) (hT:TR P w ro μ T a.tmps) {t:TypeId} {x y:Operand} (ho:o.op = .makeSlice t x y) (hc:cop P (.makeSlice t x y)=some ao) (hs:astep ao T H=some (.value v H')):Does P (execOp a.eval o) w ro μ H v H':=by
 simp only [cop] at hc
 split at hc
 case h_2=>cases hc
 rename_i e hu
 obtain ⟨i,hi,hc⟩:=bind_some hc
 obtain ⟨z,hz,hc⟩:=bind_some hc
 obtain ⟨ax,hx,hc⟩:=bind_some hc
 obtain ⟨ay,hy,hc⟩:=bind_some hc
 split at hc
 case isFalse=>cases hc
 rename_i hzn
 injection hc with hc; subst hc
 simp only [astep] at hs
 split at hs
 ·rename_i l c hl hcc
  split at hs
  case isFalse=>cases hs
  rename_i hh
  obtain ⟨rfl,rfl⟩:=value_inj (Option.some.inj hs)
  have h1:=copd_sound hT hx hl
  have h2:=copd_sound hT hy hcc
  simp only [VR] at h1 h2
  obtain ⟨v',w',μ',g1,g2,g3,g4⟩:=do_mkslice hg hu hi hz hzn hh.1 hh.2.1 hh.2.2.1 hh.2.2.2.1 hh.2.2.2.2
  have hex:execOp a.eval o=(do pure (.value (← Instr.makeSlice t (a.eval x) (a.eval y)))):=by simp [execOp,ho]
  exact does_of hex (by rw [h1,h2]; exact g1) g2 g3 g4
 ·cases hs
theorem step_slice (hg:Good P w ro μ H) (hT:TR P w ro μ T a.tmps) {t:TypeId} {x:Operand} {lo hi mx:Option Operand} (ho:o.op = .slice t x lo hi mx) (hc:cop P (.slice t x lo hi mx)=some ao) (hs:astep ao T H=some (.value v H')):Does P (execOp a.eval o) w ro μ H v H':=by
 simp only [cop] at hc
 obtain ⟨ax,hx,hc⟩:=bind_some hc
 obtain ⟨alo,hlo,hc⟩:=bind_some hc
 obtain ⟨ahi,hhi,hc⟩:=bind_some hc
 obtain ⟨amx,hmx,hc⟩:=bind_some hc
 have hex:execOp a.eval o=(do pure (.value (← Instr.sliceAt t (a.eval x) (lo.map a.eval) (hi.map a.eval) (mx.map a.eval)))):=by simp [execOp,ho]
 split at hc
 ·rename_i hu
  split at hc
  case isFalse=>cases hc
  rename_i hmn
  injection hc with hc; subst hc
  have hmx0:mx=none:=by cases mx <;> simp_all
  subst hmx0
  simp only [astep] at hs
  obtain ⟨u,huu,hs⟩:=bind_some hs
  obtain ⟨q,hq,hs⟩:=bind_some hs
  obtain ⟨rfl,rfl⟩:=value_inj (Option.some.inj hs)
  obtain ⟨v',h1,h2⟩:=do_slcS hT (copd_sound hT hx huu) hu hlo hhi hq
  exact does_same hg hex h1 h2
 ·rename_i e hu
  obtain ⟨n,hn,hc⟩:=bind_some hc
  split at hc
  case isFalse=>cases hc
  rename_i hh
  injection hc with hc; subst hc
  simp only [astep] at hs
  obtain ⟨u,huu,hs⟩:=bind_some hs
  split at hs
  case isFalse=>cases hs
  rename_i hrow
  obtain ⟨q,hq,hs⟩:=bind_some hs
  obtain ⟨rfl,rfl⟩:=value_inj (Option.some.inj hs)
  have hcell:P.cellsOf e=n:=by unfold szOf at hn; simp [Program.cellsOf,hn]
  obtain ⟨v',h1,h2⟩:=do_slc hT (copd_sound hT hx huu) hu hn hh.1 hlo hhi hmx (fun h0=>by cases hi <;> cases mx <;> simp_all) (by
   intro id off len he b base c e' fr hmu hb
   rw [he] at hrow
   simp only [rowOf] at hrow
   split at hrow
   ·rename_i e2 cs hid
    obtain ⟨c0,fr0,hb0,_⟩:=hg.blk _ _ b base hid hmu
    rw [hb] at hb0; injection hb0 with hb0; injection hb0 with _ hc2 _
    have:e2=e:=by simpa using hrow
    rw [hc2,this]; exact hcell
   ·cases hrow) hq
  exact does_same hg hex h1 h2
 ·cases hc
end Go.Am
