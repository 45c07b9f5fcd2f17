/- What an operation looks at, and what it leaves alone. -/
import Derived.Test.YtmoimchdhgoeeaaDoorAm19
set_option linter.unusedVariables false
set_option linter.unusedSimpArgs false
namespace Go.Am
def kof (l:List (List Nat)):Keeps:=fun i=>l.getD i []
def oops:Option AOpnd→List AOpnd
  | none=>[]
  | some x=>[x]
def AOp.opnds:AOp→List AOpnd
  | .mv x=>[x]
  | .pick c a b=>[c,a,b]
  | .bin _ x y=>[x,y]
  | .eqB _ x y=>[x,y]
  | .eqN _ _ x y=>[x,y]
  | .eqAgg _ _ x y=>[x,y]
  | .un _ x=>[x]
  | .conv _ x=>[x]
  | .box _ x=>[x]
  | .alloc _ _=>[]
  | .build _ ps=>ps.map (·.2.2)
  | .bslice _ _ _ ps=>ps.map (·.2.2)
  | .load _ a=>[a]
  | .store _ a x=>[a,x]
  | .nilchk x=>[x]
  | .faddr _ x=>[x]
  | .fld _ _ x=>[x]
  | .iaddr _ x i=>[x,i]
  | .iaddrA _ _ x i=>[x,i]
  | .idxS x i=>[x,i]
  | .slcS x lo hi=>x::(oops lo++oops hi)
  | .slc _ _ x lo hi mx=>x::(oops lo++(oops hi++oops mx))
  | .mkmap=>[]
  | .mkslice _ _ _ x y=>[x,y]
  | .mkfn _ a b=>a++b
  | .mkifc _ x=>[x]
  | .lookup _ _ _ m k=>[m,k]
  | .mapent _ _ m k=>[m,k]
  | .entst m s x=>[m,s,x]
  | .rngS x=>[x]
  | .nxtS x=>[x]
  | .rngM x=>[x]
  | .nxtM x=>[x]
  | .entM x=>[x]
  | .extract x _=>[x]
  | .len _ x=>[x]
  | .app _ _ _ x y=>[x,y]
  | .appN _ _ _ x y=>[x,y]
  | .copy _ x y=>[x,y]
  | .del _ m k=>[m,k]
  | .tassert _ _ _ x=>[x]
  | .callF _ as=>as
  | .callV f as=>f::as
  | .callI r _ as=>r::as
  | .ext _ as=>as
  | .pan x=>[x]
  | .dfr f as=>f::as
  | .recov=>[]
theorem Env.vals_congr {T T':Env}:∀ (l:List AOpnd),(∀ x ∈ l,T.val x=T'.val x)→T.vals l=T'.vals l
  | [],_=>rfl
  | x::r,h=>by
    simp only [Env.vals,h x (by simp),Env.vals_congr r fun y hy=>h y (by simp [hy])]
theorem Env.parts_congr {T T':Env}:∀ (l:List (Nat × Nat × AOpnd)),(∀ x ∈ l.map (·.2.2),T.val x=T'.val x)→T.parts l=T'.parts l
  | [],_=>rfl
  | (o,n,x)::r,h=>by
    simp only [Env.parts,h x (by simp),Env.parts_congr r fun y hy=>h y (by simp at hy ⊢; exact .inr hy)]
theorem abound_congr {T T':Env} (d n:Nat) (x:Option AOpnd) (h:∀ y ∈ oops x,T.val y=T'.val y):abound T d n x=abound T' d n x:=by
  cases x with
  | none=>rfl
  | some x=>simp only [abound,h x (by simp [oops])]
theorem astep_congr {T T':Env} (op:AOp) (H:AHeap) (h:∀ x ∈ op.opnds,T.val x=T'.val x):astep op T H=astep op T' H:=by
  cases op
  case slcS x lo hi=>
    have h1:=h x (by simp [AOp.opnds])
    have h2:∀ d n,abound T d n lo=abound T' d n lo:=fun d n=>abound_congr d n lo fun y hy=>h y (by simp [AOp.opnds,hy])
    have h3:∀ d n,abound T d n hi=abound T' d n hi:=fun d n=>abound_congr d n hi fun y hy=>h y (by simp [AOp.opnds,hy])
    simp only [astep,aslcS,h1,h2,h3]
  case slc e n x lo hi mx=>
    have h1:=h x (by simp [AOp.opnds])
    have h2:∀ d n,abound T d n lo=abound T' d n lo:=fun d n=>abound_congr d n lo fun y hy=>h y (by simp [AOp.opnds,hy])
    have h3:∀ d n,abound T d n hi=abound T' d n hi:=fun d n=>abound_congr d n hi fun y hy=>h y (by simp [AOp.opnds,hy])
    have h4:∀ d n,abound T d n mx=abound T' d n mx:=fun d n=>abound_congr d n mx fun y hy=>h y (by simp [AOp.opnds,hy])
    simp only [astep,aslc,h1,h2,h3,h4]
  case build z ps=>simp only [astep,Env.parts_congr ps h]
  case bslice e n z ps=>simp only [astep,Env.parts_congr ps h]
  case mkfn f a b=>
    simp only [astep,Env.vals_congr a fun x hx=>h x (by simp [AOp.opnds,hx]),Env.vals_congr b fun x hx=>h x (by simp [AOp.opnds,hx])]
  case callF f as=>simp only [astep,Env.vals_congr as fun x hx=>h x (by simp [AOp.opnds,hx])]
  case ext k as=>simp only [astep,Env.vals_congr as fun x hx=>h x (by simp [AOp.opnds,hx])]
  case dfr f as=>simp only [astep,h f (by simp [AOp.opnds]),Env.vals_congr as fun x hx=>h x (by simp [AOp.opnds,hx])]
  case callV f as=>simp only [astep,h f (by simp [AOp.opnds]),Env.vals_congr as fun x hx=>h x (by simp [AOp.opnds,hx])]
  all_goals
    simp only [AOp.opnds,List.mem_cons,List.not_mem_nil,or_false,forall_eq_or_imp,forall_eq,or_self,implies_true,false_imp_iff] at h
    simp only [astep,h]
def AOp.quiet:AOp→Bool
  | .mv _ | .pick .. | .bin .. | .eqB .. | .eqN .. | .eqAgg .. | .un .. | .build .. | .load .. | .nilchk _ | .faddr .. | .fld .. | .iaddr .. | .iaddrA .. | .idxS .. | .slcS .. | .slc .. | .mkfn .. | .mkifc .. | .lookup .. | .extract .. | .len .. | .tassert .. | .ext .. =>true
  | .bslice _ _ z _=>rowq z
  | .conv (.strBytes _) _=>false
  | .conv .. =>true
  | _=>false
def AOp.reads:AOp→Bool
  | .load .. | .iaddr .. | .slc .. | .lookup .. =>true
  | .len tag _=>tag==2
  | .conv .bytesStr _=>true
  | _=>false
theorem astep_quiet {op:AOp} {T:Env} {H:AHeap} {x:ANext} (hq:op.quiet=true) (h:astep op T H=some x):∃ v,x = .value v H:=by
  cases op
  case conv c y=>
    simp only [astep] at h
    cases hy:T.val y with
    | none=>rw [hy] at h; cases h
    | some u=>
      rw [hy] at h
      cases c <;> simp only [AOp.quiet] at hq <;> first | contradiction | skip
      case bytesStr=>
        change (abytesStr H u).bind _=some x at h
        obtain ⟨u,_,h⟩:=Option.bind_eq_some_iff.mp h; injection h with h; exact ⟨_,h.symm⟩
      case fltInt a b=>
        cases u <;> first | (cases h; done) | skip
        rename_i k n
        change (fltInt a k b n).bind _=some x at h
        obtain ⟨u,_,h⟩:=Option.bind_eq_some_iff.mp h; injection h with h; exact ⟨_,h.symm⟩
      all_goals
        cases u <;> first | (cases h; done) | (cases h; exact ⟨_,rfl⟩)
  case bslice e n z ps=>
    simp only [AOp.quiet] at hq
    simp only [astep,hq] at h
    obtain ⟨v,_,h⟩:=Option.bind_eq_some_iff.mp h
    obtain ⟨u,_,h⟩:=Option.bind_eq_some_iff.mp h
    injection h with h; exact ⟨_,h.symm⟩
  all_goals simp only [AOp.quiet,Bool.false_eq_true] at hq
  all_goals simp only [astep] at h
  all_goals
    first
      | (simp only [Option.bind_eq_bind,Option.bind_eq_some_iff] at h
         obtain ⟨v,_,h⟩:=h
         first
           | (injection h with h; exact ⟨_,h.symm⟩)
           | (obtain ⟨u,_,h⟩:=h; first | (injection h with h; exact ⟨_,h.symm⟩) | (obtain ⟨u',_,h⟩:=h; first | (injection h with h; exact ⟨_,h.symm⟩) | (obtain ⟨u'',_,h⟩:=h; injection h with h; exact ⟨_,h.symm⟩)))
           | (split at h <;> first | (obtain ⟨u,_,h⟩:=Option.bind_eq_some_iff.mp h; injection h with h; exact ⟨_,h.symm⟩) | cases h))
      | (split at h <;> first | (injection h with h; exact ⟨_,h.symm⟩) | cases h | (simp only [Option.bind_eq_bind,Option.bind_eq_some_iff] at h; obtain ⟨u,_,h⟩:=h; injection h with h; exact ⟨_,h.symm⟩))
theorem astep_noread {op:AOp} {T:Env} {H:AHeap} {v:AVal} (hq:op.quiet=true) (hr:op.reads=false) (h:astep op T H=some (.value v H)) (H':AHeap):astep op T H'=some (.value v H'):=by
  have key:∀ (G:AHeap→Option ANext),(G H=some (.value v H))→(∀ K K',(G K).map (fun | .value v _=>ANext.value v K' | x=>x)=G K')→G H'=some (.value v H'):=by
    intro G h1 h2
    rw [← h2 H H',h1]; rfl
  refine key (fun H=>astep op T H) h ?_
  intro K K'
  cases op
  case conv c y=>
    cases c <;> simp only [AOp.quiet,AOp.reads] at hq hr <;> first | contradiction | skip
    case fltInt a b=>
      simp only [astep]
      cases T.val y with
      | none=>rfl
      | some u=>
        cases u <;> first | rfl | skip
        rename_i k n
        show Option.map _ ((fltInt a k b n).bind _)=(fltInt a k b n).bind _
        cases fltInt a k b n <;> rfl
    all_goals
      simp only [astep]
      cases T.val y with
      | none=>rfl
      | some u=>cases u <;> rfl
  case ext k as=>
    simp only [astep]
    cases T.vals as with
    | none=>rfl
    | some u=>
      show Option.map _ ((aext k u).bind _)=(aext k u).bind _
      cases aext k u <;> rfl
  case len tag x=>
    simp only [AOp.reads,beq_eq_false_iff_ne,ne_eq] at hr
    simp only [astep]
    cases T.val x with
    | none=>rfl
    | some u=>
      match tag,u,hr with
      | 0,u,_=>cases u <;> rfl
      | 1,u,_=>cases u <;> rfl
      | 2,_,h=>exact absurd rfl h
      | 3,u,_=>cases u <;> rfl
      | n+4,u,_=>cases u <;> rfl
  case bslice e n z ps=>
    simp only [AOp.quiet] at hq
    simp only [astep,hq]
    cases T.parts ps with
    | none=>rfl
    | some vs=>
      show Option.map _ ((afill z vs).bind _)=(afill z vs).bind _
      cases afill z vs <;> rfl
  all_goals simp only [AOp.quiet,AOp.reads,Bool.false_eq_true,Bool.true_eq_false] at hq hr
  all_goals simp only [astep]
  case mv x=>cases T.val x <;> rfl
  case pick c a b=>
    cases T.val c with
    | none=>rfl
    | some u=>cases u <;> first | rfl | (rename_i t; cases t <;> first | (cases T.val a <;> rfl) | (cases T.val b <;> rfl))
  case bin o x y=>
    cases T.val x with
    | none=>rfl
    | some u=>cases T.val y with
      | none=>rfl
      | some t=>show Option.map _ ((abin o u t).bind _)=(abin o u t).bind _; cases abin o u t <;> rfl
  case eqB n x y=>
    cases T.val x with
    | none=>rfl
    | some u=>cases T.val y with
      | none=>cases u <;> rfl
      | some t=>cases u <;> cases t <;> rfl
  case eqN g n x y=>
    cases T.val x with
    | none=>rfl
    | some u=>cases T.val y with
      | none=>rfl
      | some t=>show Option.map _ ((anil g u t).bind _)=(anil g u t).bind _; cases anil g u t <;> rfl
  case eqAgg g n x y=>
    cases T.val x with
    | none=>rfl
    | some u=>cases T.val y with
      | none=>cases u <;> rfl
      | some t=>
        cases u <;> first | rfl | skip
        cases t <;> first | rfl | skip
        rename_i p q
        show Option.map _ ((aeqs g p q).bind _)=(aeqs g p q).bind _
        cases aeqs g p q <;> rfl
  case un o x=>
    cases T.val x with
    | none=>rfl
    | some u=>show Option.map _ ((aun o u).bind _)=(aun o u).bind _; cases aun o u <;> rfl
  case build z ps=>
    cases T.parts ps with
    | none=>rfl
    | some u=>show Option.map _ ((afill z u).bind _)=(afill z u).bind _; cases afill z u <;> rfl
  case nilchk x=>
    cases T.val x with
    | none=>rfl
    | some u=>cases u <;> first | rfl | (rename_i f a b; cases f <;> rfl)
  case faddr o x=>
    cases T.val x with
    | none=>rfl
    | some u=>show Option.map _ ((afaddr o u).bind _)=(afaddr o u).bind _; cases afaddr o u <;> rfl
  case fld o n x=>
    cases T.val x with
    | none=>rfl
    | some u=>show Option.map _ ((afld o n u).bind _)=(afld o n u).bind _; cases afld o n u <;> rfl
  case iaddrA l n x i=>
    cases T.val x with
    | none=>rfl
    | some u=>cases T.val i with
      | none=>rfl
      | some t=>show Option.map _ ((aiaddrA l n u t).bind _)=(aiaddrA l n u t).bind _; cases aiaddrA l n u t <;> rfl
  case idxS x i=>
    cases T.val x with
    | none=>rfl
    | some u=>cases T.val i with
      | none=>rfl
      | some t=>show Option.map _ ((aidxS u t).bind _)=(aidxS u t).bind _; cases aidxS u t <;> rfl
  case slcS x lo hi=>
    cases T.val x with
    | none=>rfl
    | some u=>show Option.map _ ((aslcS T u lo hi).bind _)=(aslcS T u lo hi).bind _; cases aslcS T u lo hi <;> rfl
  case mkfn f a b=>
    cases T.vals a with
    | none=>rfl
    | some u=>cases T.vals b <;> rfl
  case mkifc t x=>cases T.val x <;> rfl
  case extract x i=>
    cases T.val x with
    | none=>rfl
    | some u=>
      cases u <;> first | rfl | skip
      rename_i vs
      show Option.map _ (vs[i]?.bind _)=vs[i]?.bind _
      cases vs[i]? <;> rfl
  case tassert t z ok x=>
    cases T.val x with
    | none=>rfl
    | some u=>show Option.map _ ((atassert t z ok u).bind _)=(atassert t z ok u).bind _; cases atassert t z ok u <;> rfl
end Go.Am
