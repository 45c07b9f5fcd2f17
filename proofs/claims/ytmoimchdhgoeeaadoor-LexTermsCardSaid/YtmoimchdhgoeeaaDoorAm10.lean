/- One operation: slice expressions over slices, conversions, new maps and slices, lengths. -/
import Derived.Test.YtmoimchdhgoeeaaDoorAm9
set_option linter.unusedVariables false
set_option linter.unusedSimpArgs false
namespace Go.Am
open Go.RowKit
theorem copdo_none {x:Option Operand} (h:copdo x=some none):x=none:=by
 cases x with
 | none=>rfl
 | some y=>simp [copdo] at h
theorem slice_run {P:Program} {w:World} {t e:TypeId} (hu:P.underlying t=some (.slice e)) {n:Nat} (hn:szOf P e=some n) (A:Option Addr) (len cap l h m:Nat) (lo hi mx:Option Value)
  (hb:(Instr.sliceBounds true len cap lo hi mx).run P w = .ok (l,h,m) w) :
  (Instr.sliceAt t (.slice A len cap) lo hi mx).run P w = .ok (.slice (if m=l then A else A.map (·.add (l * n))) (h - l) (m - l)) w:=by
 simp [Instr.sliceAt,run_underlying hu,Instr.slice,hb,sizeOf_run hn]
theorem bounds_run {P:Program} {w:World} {len cap l h m:Nat} {lo hi mx:Option Value} (hmx:mx=none→m=cap) (hhi:hi=none→h=len) (hno:hi=none→mx=none)
  (h1:∀ v,mx=some v→(Instr.sliceBound v cap .slice3Acap).run P w = .ok m w)
  (h2:∀ v,hi=some v→(Instr.sliceBound v m (if mx.isSome then .slice3B else .sliceAcap)).run P w = .ok h w)
  (h3:∀ v,lo=some v→(Instr.sliceBound v h (if mx.isSome then .slice3C else .sliceB)).run P w = .ok l w) (h0:lo=none→l=0) :
  (Instr.sliceBounds true len cap lo hi mx).run P w = .ok (l,h,m) w:=by
 unfold Instr.sliceBounds
 cases mx with
 | none=>
  have:=hmx rfl; subst this
  cases hi with
  | none=>
   have:=hhi rfl; subst this
   cases lo with
   | none=>have:=h0 rfl; subst this; simp
   | some v=>have:=h3 v rfl; (try simp only [Option.isSome_none,Option.isSome_some,Bool.false_eq_true,if_false,if_true] at this); simp [this]
  | some u=>
   have e2:=h2 u rfl
   simp only [Option.isSome_none,Bool.false_eq_true,if_false] at e2
   cases lo with
   | none=>have:=h0 rfl; subst this; simp [e2]
   | some v=>have:=h3 v rfl; (try simp only [Option.isSome_none,Option.isSome_some,Bool.false_eq_true,if_false,if_true] at this); simp [this,e2]
 | some x=>
  have e1:=h1 x rfl
  cases hi with
  | none=>exact absurd (hno rfl) (by simp)
  | some u=>
   have e2:=h2 u rfl
   simp only [Option.isSome_some,if_true] at e2
   cases lo with
   | none=>have:=h0 rfl; subst this; simp [e1,e2]
   | some v=>have:=h3 v rfl; (try simp only [Option.isSome_none,Option.isSome_some,Bool.false_eq_true,if_false,if_true] at this); simp [this,e1,e2]
theorem ros_empty {P:Program} {w:World} {ro:Nat→Prop} {μ:Mu} (b o k:Nat) (sp:Option Nat):VR P w ro μ (.ros [] 0) (.slice (some ⟨b,o,sp⟩) 0 k):=⟨b,o,k,sp,rfl,Nat.zero_le _,fun h=>absurd rfl h,True.intro⟩
theorem abound_hi {T:Env} {d top n:Nat} {ax:Option AOpnd} (h:abound T d top ax=some n) (hd:d≤top):n≤top:=by
 unfold abound at h
 split at h
 ·injection h with h; omega
 ·split at h
  ·split at h
   ·injection h with h; subst h; omega
   ·cases h
  ·cases h
theorem bound_run {P:Program} {w:World} {ro:Nat→Prop} {μ:Mu} {T:Env} {a:Act} (hT:TR P w ro μ T a.tmps) {x:Option Operand} {ax:Option AOpnd} (hx:copdo x=some ax) {d top top' n:Nat} (h:abound T d top ax=some n) (ht:top≤top') (v:Value) (hv:x.map a.eval=some v) (code:BoundsCode) :
  (Instr.sliceBound v top' code).run P w = .ok n w:=by
 cases x with
 | none=>cases hv
 | some y=>
  simp only [copdo,Option.map_eq_some_iff] at hx
  obtain ⟨ay,hy,rfl⟩:=hx
  simp only [abound] at h
  split at h
  ·rename_i k i hi
   split at h
   case isFalse=>cases h
   rename_i hb
   injection h with h; subst h
   have hv':=copd_sound hT hy hi
   simp only [VR] at hv'
   simp only [Option.map_some,Option.some.injEq] at hv
   rw [← hv,hv']
   simp only [Instr.sliceBound,asIntOf,Sem.run_bind,Sem.run_pure,Result.andThen_ok]
   rw [if_pos (by omega)]; simp
  ·cases h
theorem bound_none {T:Env} {d top n:Nat} {x:Option Operand} {ax:Option AOpnd} {f:Operand→Value} (hx:copdo x=some ax) (h:abound T d top ax=some n) (hv:x.map f=none):n=d:=by
 cases x with
 | none=>simp only [copdo] at hx; injection hx with hx; subst hx; simp only [abound] at h; injection h with h; exact h.symm
 | some y=>cases hv
theorem do_slc {P:Program} {w:World} {ro:Nat→Prop} {μ:Mu} {T:Env} {a:Act} (hT:TR P w ro μ T a.tmps) {x v:AVal} {x':Value} (hx:VR P w ro μ x x') {t e:TypeId} {n:Nat} (hu:P.underlying t=some (.slice e)) (hn:szOf P e=some n) (hn0:n≠0)
  {lo hi mx:Option Operand} {alo ahi amx:Option AOpnd} (hlo:copdo lo=some alo) (hhi:copdo hi=some ahi) (hmx:copdo mx=some amx) (hno:hi=none→mx=none) (hcell:∀ id off len,x = .sl id off len none→∀ b base c e' fr,μ id=some (b,base)→w.heap[b]? = some (Obj.cells c e' fr)→P.cellsOf e'=n) (h:aslc n T x alo ahi amx=some v) :
  ∃ v',(Instr.sliceAt t x' (lo.map a.eval) (hi.map a.eval) (mx.map a.eval)).run P w = .ok v' w∧VR P w ro μ v v':=by
 have hnoM:hi.map a.eval=none→mx.map a.eval=none:=by
  intro h0
  cases hi with
  | none=>rw [hno rfl]; rfl
  | some y=>cases h0
 unfold aslc at h
 split at h
 ·
  simp only [VR] at hx; subst hx
  simp only [Option.bind_eq_bind,Option.bind_eq_some_iff] at h
  obtain ⟨m,hm,hh,hhh,l,hl,h⟩:=h
  split at h
  case isFalse=>cases h
  rename_i hl0; subst hl0
  injection h with h; subst h
  have hmle:=abound_hi hm (Nat.le_refl 0)
  have hm0:m=0:=by omega
  subst hm0
  have hhle:=abound_hi hhh (Nat.le_refl 0)
  have hh0:hh=0:=by omega
  subst hh0
  refine ⟨_,slice_run hu hn none 0 0 0 0 0 _ _ _ (bounds_run (fun _=>rfl) (fun _=>rfl) hnoM (fun v hv=>bound_run hT hmx hm (Nat.le_refl _) v hv _) (fun v hv=>bound_run hT hhi hhh (Nat.le_refl _) v hv _) (fun v hv=>bound_run hT hlo hl (Nat.le_refl _) v hv _) (fun _=>rfl)),?_⟩
  simp [VR]
 ·
  rename_i cs len
  simp only [Option.bind_eq_bind,Option.bind_eq_some_iff] at h
  split at h
  ·simp at h
  ·rename_i hmxs
   have hmxn:amx=none:=by cases amx <;> simp_all
   have hmx0:=copdo_none (hmxn ▸ hmx); subst hmx0
   simp only [Option.pure_def,Option.some.injEq,exists_eq_left',Option.bind_eq_some_iff] at h
   obtain ⟨hh,hhh,l,hl,h⟩:=h
   split at h
   case isFalse=>cases h
   rename_i hfit
   injection h with h; subst h
   obtain ⟨b,o,k,sp,rfl,hk,hr,hc⟩:=hx
   obtain ⟨sp',hsp,hsp'⟩:=add_ex b o sp (l * n)
   have hhle:=abound_hi hhh (Nat.le_refl len)
   have hlle:=abound_hi hl (Nat.zero_le _)
   refine ⟨_,slice_run hu hn (some ⟨b,o,sp⟩) len k l hh k _ _ _ (bounds_run (fun _=>rfl) (fun h0=>bound_none hhi hhh h0) hnoM (fun v hv=>by cases hv) (fun v hv=>bound_run hT hhi hhh hk v hv _) (fun v hv=>bound_run hT hlo hl (Nat.le_refl _) v hv _) (fun h0=>bound_none hlo hl h0)),?_⟩
   by_cases hkl:k=l
   ·have h0:hh - l=0:=by omega
    rw [if_pos hkl,h0]
    simp only [Nat.zero_mul,List.take_zero]
    exact ros_empty _ _ _ _
   ·rw [if_neg hkl]
    refine ⟨b,o+l * n,k - l,sp',by simp [hsp],by omega,fun hne=>⟨(hr (fun e=>hne (by rw [e]; simp))).1,hsp' (hr (fun e=>hne (by rw [e]; simp))).2⟩,(hc.drop _).take _⟩
 ·
  rename_i id off len c
  simp only [Option.bind_eq_bind,Option.bind_eq_some_iff] at h
  obtain ⟨m,hm,hh,hhh,l,hl,h⟩:=h
  obtain ⟨b,base,C,e',fr,k,hmu,hb,rfl,hk,rfl⟩:=hx
  have hmle:=abound_hi hm (Nat.le_refl k)
  refine ⟨_,slice_run hu hn (some ⟨b,base+off,none⟩) len k l hh m _ _ _ (bounds_run (fun h0=>bound_none hmx hm h0) (fun h0=>bound_none hhi hhh h0) hnoM (fun v hv=>bound_run hT hmx hm (Nat.le_refl _) v hv _) (fun v hv=>bound_run hT hhi hhh (Nat.le_refl _) v hv _) (fun v hv=>bound_run hT hlo hl (Nat.le_refl _) v hv _) (fun h0=>bound_none hlo hl h0)),?_⟩
  have hhm:hh≤m:=by
   cases hho:ahi with
   | none=>
    have hi0:=copdo_none (hho ▸ hhi); subst hi0
    have h1:=bound_none (f:=a.eval) hhi hhh rfl
    have h2:=hno rfl; subst h2
    have h3:=bound_none (f:=a.eval) hmx hm rfl
    omega
   | some y=>
    rw [hho] at hhh
    unfold abound at hhh
    simp only at hhh
    split at hhh
    ·split at hhh
     ·injection hhh with hhh; omega
     ·cases hhh
    ·cases hhh
  have hlle:=abound_hi hl (Nat.zero_le _)
  split at h
  ·rename_i hml
   injection h with h; subst h
   have h0:hh - l=0:=by omega
   rw [if_pos hml,h0]; exact ros_empty _ _ _ _
  ·rename_i hml
   injection h with h; subst h
   rw [if_neg hml]
   exact ⟨b,base,C,e',fr,m - l,hmu,hb,by simp [Addr.add_lit,Nat.add_assoc],by omega,rfl⟩
 ·
  rename_i id off len
  obtain ⟨b,base,C,e',fr,k,hmu,hb,rfl,hk,hcap⟩:=hx
  have hcs:=hcell id off len rfl b base C e' fr hmu hb
  simp only at hcap
  rw [hcs] at hcap
  split at h
  ·have hmx0:=copdo_none hmx; subst hmx0
   simp only [Option.bind_eq_bind,Option.bind_eq_some_iff] at h
   obtain ⟨hh,hhh,l,hl,h⟩:=h
   have hhle:=abound_hi hhh (Nat.le_refl len)
   have hlle:=abound_hi hl (Nat.zero_le _)
   refine ⟨_,slice_run hu hn (some ⟨b,base+off,none⟩) len k l hh k _ _ _ (bounds_run (fun _=>rfl) (fun h0=>bound_none hhi hhh h0) hnoM (fun v hv=>by cases hv) (fun v hv=>bound_run hT hhi hhh hk v hv _) (fun v hv=>bound_run hT hlo hl (Nat.le_refl _) v hv _) (fun h0=>bound_none hlo hl h0)),?_⟩
   split at h
   ·rename_i hln
    injection h with h; subst h
    have h0:hh - l=0:=by omega
    rw [h0]
    split
    ·exact ros_empty _ _ _ _
    ·simp only [Option.map_some,Addr.add_lit]; exact ros_empty _ _ _ _
   ·rename_i hln
    injection h with h; subst h
    rw [if_neg (by omega)]
    refine ⟨b,base,C,e',fr,k - l,hmu,hb,by simp [Addr.add_lit,Nat.add_assoc],by omega,?_⟩
    simp only [hcs]
    have:(k - l) * n+l * n=k * n:=by rw [← Nat.add_mul]; congr 1; omega
    omega
  ·rename_i y
   simp only [Option.bind_eq_bind,Option.bind_eq_some_iff] at h
   obtain ⟨m,hm,hh,hhh,l,hl,h⟩:=h
   have hmle:=abound_hi hm (Nat.zero_le _)
   refine ⟨_,slice_run hu hn (some ⟨b,base+off,none⟩) len k l hh m _ _ _ (bounds_run (fun h0=>by cases mx <;> simp_all [copdo]) (fun h0=>bound_none hhi hhh h0) hnoM (fun v hv=>bound_run hT hmx hm hk v hv _) (fun v hv=>bound_run hT hhi hhh (Nat.le_refl _) v hv _) (fun v hv=>bound_run hT hlo hl (Nat.le_refl _) v hv _) (fun h0=>bound_none hlo hl h0)),?_⟩
   have hhm:hh≤m:=by
    cases hho:ahi with
    | none=>
     have hi0:=copdo_none (hho ▸ hhi); subst hi0
     have h2:=hno rfl; subst h2
     simp [copdo] at hmx
    | some y=>
     rw [hho] at hhh
     unfold abound at hhh
     simp only at hhh
     split at hhh
     ·split at hhh
      ·injection hhh with hhh; omega
      ·cases hhh
     ·cases hhh
   have hlle:=abound_hi hl (Nat.zero_le _)
   split at h
   ·rename_i hml
    injection h with h; subst h
    have h0:hh - l=0:=by omega
    rw [if_pos hml,h0]; exact ros_empty _ _ _ _
   ·rename_i hml
    injection h with h; subst h
    rw [if_neg hml]
    exact ⟨b,base,C,e',fr,m - l,hmu,hb,by simp [Addr.add_lit,Nat.add_assoc],by omega,rfl⟩
 ·cases h
end Go.Am
