/- One operation: structs, addresses, loads, stores, new blocks. -/
import Derived.Test.YtmoimchdhgoeeaaDoorAm5
import Derived.Laws.StructEq
set_option linter.unusedVariables false
set_option linter.unusedSimpArgs false
namespace Go.Am
theorem isAgg_false {P:Program} {t:TypeId} {d:TypeDesc} (h:P.underlying t=some d) (hd:(match d with | .struct _ | .array _ _=>true | _=>false)=false) (w:World):(isAgg t).run P w = .ok false w:=by
 unfold isAgg
 simp only [Sem.run_bind,run_underlying h,Result.andThen_ok]
 cases d <;> simp_all
theorem isAgg_true {P:Program} {t:TypeId} {d:TypeDesc} (h:P.underlying t=some d) (hd:(match d with | .struct _ | .array _ _=>true | _=>false)=true) (w:World):(isAgg t).run P w = .ok true w:=by
 unfold isAgg
 simp only [Sem.run_bind,run_underlying h,Result.andThen_ok]
 cases d <;> simp_all
theorem sizeOf_run {P:Program} {t:TypeId} {n:Nat} (h:szOf P t=some n) (w:World):(sizeOf t).run P w = .ok n w:=by
 unfold szOf at h
 simp only [Option.map_eq_some_iff] at h
 obtain ⟨i,hi,rfl⟩:=h
 simp [sizeOf,typeInfo,hi]
theorem eqTags_cons {P:Program} {i:Nat} {f:Field} {r:List Field} {ts:List Nat} (h:eqTags P i (f::r)=some ts) :
  ∃ t ts', ts = t :: ts' ∧ eqTags P (i + 1) r = some ts' ∧ f.name ≠ "_" ∧ f.offset = i ∧ ((t = 0 ∧ P.underlying f.type = some .bool) ∨ (t = 1 ∧ ∃ k, P.underlying f.type = some (.int k)) ∨ (t = 2 ∧ P.underlying f.type = some .string)) := by
 simp only [eqTags,Option.bind_eq_bind,Option.bind_eq_some_iff] at h
 obtain ⟨ts',h1,h2⟩:=h
 split at h2
 ·rename_i hh
  split at h2
  ·rename_i ht; injection h2 with h2; exact ⟨0,ts',h2.symm,h1,hh.1,hh.2,.inl ⟨rfl,ht⟩⟩
  ·rename_i k ht; injection h2 with h2; exact ⟨1,ts',h2.symm,h1,hh.1,hh.2,.inr (.inl ⟨rfl,k,ht⟩)⟩
  ·rename_i ht; injection h2 with h2; exact ⟨2,ts',h2.symm,h1,hh.1,hh.2,.inr (.inr ⟨rfl,ht⟩)⟩
  ·cases h2
 ·cases h2
theorem eqFields_run {P:Program} (w:World) {ro:Nat→Prop} {μ:Mu} (d:Nat) (X Y:Array Value):∀ (fs:List Field) (ts:List Nat) (i:Nat) (xs ys:List AVal) (b:Bool),eqTags P i fs=some ts→
  VRs P w ro μ xs (X.toList.drop i)→VRs P w ro μ ys (Y.toList.drop i)→aeqs ts xs ys=some b→(Op.eqFields (d+1) X Y fs).run P w = .ok b w
 | [],ts,i,xs,ys,b,ht,hx,hy,h=>by
  simp only [eqTags] at ht; injection ht with ht; subst ht
  cases xs <;> cases ys <;> simp [aeqs] at h
  subst h; simp [Op.eqFields]
 | f::fs,ts,i,xs,ys,b,ht,hx,hy,h=>by
  obtain ⟨t,ts',rfl,hts,hn,ho,hk⟩:=eqTags_cons ht
  have step:∀ (x:AVal) (xr:List AVal) (y:AVal) (yr:List AVal) (c:Bool),xs=x::xr→ys=y::yr→
    (∀ u v,VR P w ro μ x u→VR P w ro μ y v→(Op.equalIn (d+1) f.type u v).run P w = .ok c w)→(c=true→aeqs ts' xr yr=some b)→(c=false→b=false)→(Op.eqFields (d+1) X Y (f::fs)).run P w = .ok b w:=by
   rintro x xr y yr c rfl rfl he h1 h2
   obtain ⟨u,r,hu,hxu,hxr⟩:=hx
   obtain ⟨v,s,hv,hyv,hyr⟩:=hy
   have hXi:X[i]? = some u:=by rw [← Array.getElem?_toList]; have:=congrArg (fun l=>l[0]?) hu; simpa using this
   have hYi:Y[i]? = some v:=by rw [← Array.getElem?_toList]; have:=congrArg (fun l=>l[0]?) hv; simpa using this
   have hXr:X.toList.drop (i+1)=r:=by have:=congrArg (fun l=>l.drop 1) hu; simpa [List.drop_drop,Nat.add_comm] using this
   have hYr:Y.toList.drop (i+1)=s:=by have:=congrArg (fun l=>l.drop 1) hv; simpa [List.drop_drop,Nat.add_comm] using this
   have hagg:(isAgg f.type).run P w = .ok false w:=by
    rcases hk with ⟨_,h1⟩ | ⟨_,k,h1⟩ | ⟨_,h1⟩ <;> exact isAgg_false h1 rfl w
   have hpx:(part f.type X f.offset).run P w = .ok u w:=by simp [part,hagg,ho,hXi]
   have hpy:(part f.type Y f.offset).run P w = .ok v w:=by simp [part,hagg,ho,hYi]
   simp only [Op.eqFields,if_pos hn,Sem.run_bind,hpx,hpy,Result.andThen_ok,he u v hxu hyv]
   cases c with
   | true=>simp only [Bool.not_true,Bool.false_eq_true,if_false]; exact eqFields_run (ro:=ro) (μ:=μ) w d X Y fs ts' (i+1) xr yr b hts (by rw [hXr]; exact hxr) (by rw [hYr]; exact hyr) (h1 rfl)
   | false=>simp [h2 rfl]
  unfold aeqs at h
  split at h
  ·rename_i e; cases e
  ·rename_i e; injection e with e e'; subst e; subst e'
   rcases hk with ⟨_,h1⟩ | ⟨h0,_⟩ | ⟨h0,_⟩
   ·refine step _ _ _ _ _ rfl rfl (fun u v hu hv=>by simp only [VR] at hu hv; subst hu; subst hv; exact run_equalIn_bool' w d f.type _ _ h1) (fun e=>by rw [if_pos e] at h; exact h) (fun e=>by rw [if_neg (by simp [e])] at h; injection h with h; exact h.symm)
   ·cases h0
   ·cases h0
  ·rename_i e; injection e with e e'; subst e; subst e'
   rcases hk with ⟨h0,_⟩ | ⟨_,k,h1⟩ | ⟨h0,_⟩
   ·cases h0
   ·split at h
    ·rename_i hkk; subst hkk
     refine step _ _ _ _ _ rfl rfl (fun u v hu hv=>by simp only [VR] at hu hv; subst hu; subst hv; exact run_equalIn_int w d f.type _ _ _ _ h1) (fun e=>by rw [if_pos e] at h; exact h) (fun e=>by rw [if_neg (by simp [e])] at h; injection h with h; exact h.symm)
    ·cases h
   ·cases h0
  ·rename_i e; injection e with e e'; subst e; subst e'
   rcases hk with ⟨h0,_⟩ | ⟨h0,_⟩ | ⟨_,h1⟩
   ·cases h0
   ·cases h0
   ·refine step _ _ _ _ _ rfl rfl (fun u v hu hv=>by simp only [VR] at hu hv; subst hu; subst hv; exact run_equalIn_string w d f.type _ _ h1) (fun e=>by rw [if_pos e] at h; exact h) (fun e=>by rw [if_neg (by simp [e])] at h; injection h with h; exact h.symm)
  ·cases h
theorem do_eqAgg {P:Program} (w:World) {ro:Nat→Prop} {μ:Mu} {ts:List Nat} (neq:Bool) (t:TypeId) (X Y:Operand) {xs ys:List AVal} {b:Bool} {x' y':Value} (hx:VR P w ro μ (.agg xs) x') (hy:VR P w ro μ (.agg ys) y') (h:aeqs ts xs ys=some b) {fs:Array Field} (hd:P.underlying t=some (.struct fs))
  (ht:eqTags P 0 fs.toList=some ts) (h1:P.stoodInHeld t=false) (h2:P.eqGuardType P.depth t=false) :
  (do eqGuard (if neq then .neq else .eql) t X Y x' y'; binOp (if neq then .neq else .eql) t x' y').run P w = .ok (.bool (neq ^^ b)) w:=by
 obtain ⟨vs,rfl,hvs⟩:=hx
 obtain ⟨us,rfl,hus⟩:=hy
 have hfo:P.fieldsOf t=fs:=by simp [Program.fieldsOf,hd]
 have key:(Op.equalIn 10000 t (.agg vs) (.agg us)).run P w = .ok b w:=by
  have:=run_equalIn_struct (P:=P) w 9999 t vs us (by rw [hfo]; exact hd) h1
  rw [this,hfo]
  exact eqFields_run w 9998 vs us fs.toList ts 0 xs ys b ht (by simpa using hvs) (by simpa using hus) h
 simp only [Sem.run_bind,run_eqGuard_agg w _ t X Y vs us h2,Result.andThen_ok]
 cases neq
 ·simp [run_eql_struct,key]
 ·simp [run_neq_struct,key]
end Go.Am
