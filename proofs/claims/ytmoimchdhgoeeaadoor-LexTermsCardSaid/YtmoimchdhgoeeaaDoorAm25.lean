/- Runs with one outcome. -/
import Derived.Test.YtmoimchdhgoeeaaDoorAm24
set_option linter.unusedVariables false
set_option linter.unusedSimpArgs false
namespace Go.Am
open Go.RowKit
variable {P:Program} {ks:Keeps} {nt:Nat} {k:List AItem} {T:Env} {H:AHeap} {Q:Env→AHeap→Prop}
def DCall (P:Program) (f:FuncId) (args:List AVal) (H:AHeap) (Q:AVal→AHeap→Prop):Prop:=∃ r H',Q r H'∧Det P f args H r H'
def DR (P:Program) (ks:Keeps) (nt:Nat) (todo:List AItem) (T:Env) (H:AHeap) (Q:Env→AHeap→Prop):Prop:=∃ T' H',Q T' H'∧Runs P ks nt todo T H fun a b=>a=T'∧b=H'
theorem DCall.mono {f:FuncId} {args:List AVal} {Q Q':AVal→AHeap→Prop} (h:DCall P f args H Q) (hq:∀ r H',Q r H'→Q' r H'):DCall P f args H Q':=let ⟨r,H',q,d⟩:=h; ⟨r,H',hq _ _ q,d⟩
theorem DR.mono {todo:List AItem} {Q':Env→AHeap→Prop} (h:DR P ks nt todo T H Q) (hq:∀ r H',Q r H'→Q' r H'):DR P ks nt todo T H Q':=let ⟨r,H',q,d⟩:=h; ⟨r,H',hq _ _ q,d⟩
theorem DCall.call {f:FuncId} {args:List AVal} {Q:AVal→AHeap→Prop} (h:DCall P f args H Q):CallEv P f args H Q:=by
 obtain ⟨r,H',q,_,d⟩:=h
 exact d.mono fun a b ⟨e1,e2⟩=>by subst e1; subst e2; exact q
def DOps (P:Program):List AOper→Env→AHeap→(Env→AHeap→Prop)→Prop
 | [],T,H,K=>K T H
 | o::r,T,H,K=>
  match wantedA T o.guard with
  | none=>False
  | some false=>DOps P r (T.put o.dst aundef) H K
  | some true=>
   match astep o.op T H with
   | none=>False
   | some (.value v H')=>DOps P r (T.put o.dst v) H' K
   | some (.enter f as)=>DCall P f as H fun v H'=>DOps P r (T.put o.dst v) H' K
   | some (.anyOf _)=>False
   | some (.pan _)=>False
   | some (.dfr _ _)=>False
theorem DOps.out:∀ {l:List AOper} {T:Env} {H:AHeap} {Q:Env→AHeap→Prop},DOps P l T H Q→∃ T' H',Q T' H'∧∀ K:Env→AHeap→Prop,K T' H'→OpsRun P l T H K
 | [],T,H,Q,h=>⟨T,H,h,fun K hk=>hk⟩
 | o::r,T,H,Q,h=>by
  simp only [DOps] at h
  simp only [OpsRun]
  cases hw:wantedA T o.guard with
  | none=>rw [hw] at h; exact h.elim
  | some c=>
   rw [hw] at h
   cases c with
   | false=>exact h.out
   | true=>
    simp only at h ⊢
    cases hs:astep o.op T H with
    | none=>rw [hs] at h; exact h.elim
    | some nx=>
     rw [hs] at h
     cases nx with
     | value v H1=>exact h.out
     | anyOf _=>exact h.elim
     | pan _=>exact h.elim
     | dfr _ _=>exact h.elim
     | enter f as=>
      obtain ⟨v,H',h,hc,hd⟩:=h
      obtain ⟨T',H2,q,hk⟩:=h.out
      exact ⟨T',H2,q,fun K hK=>⟨hc,hd.mono fun a b ⟨e1,e2⟩=>by subst e1; subst e2; exact hk K hK⟩⟩
theorem DR.lift {todo todo':List AItem} {T1:Env} {H1:AHeap} (f:∀ K,Runs P ks nt todo' T1 H1 K→Runs P ks nt todo T H K) (h:DR P ks nt todo' T1 H1 Q):DR P ks nt todo T H Q:=let ⟨T',H',q,r⟩:=h; ⟨T',H',q,f _ r⟩
theorem DR.skip (h:DR P ks nt k T H Q):DR P ks nt (.code .skip::k) T H Q:=h.lift fun _=>Runs.skip
theorem DR.label {l:Nat} (h:DR P ks nt k T H Q):DR P ks nt (.code (.label l)::k) T H Q:=h.lift fun _=>Runs.label
theorem DR.seq {x y:ACode} (h:DR P ks nt (.code x::.code y::k) T H Q):DR P ks nt (.code (.seq x y)::k) T H Q:=h.lift fun _=>Runs.seq
theorem DR.cond {u:AOpnd} {x y:ACode} {t:Bool} (hu:T.val u=some (.bool t)) (h:DR P ks nt (.code (if t=true then x else y)::k) T H Q):DR P ks nt (.code (.cond u x y)::k) T H Q:=h.lift fun _=>Runs.cond hu
theorem DR.yes {u:AOpnd} {x y:ACode} (hu:T.val u=some (.bool true)) (h:DR P ks nt (.code x::k) T H Q):DR P ks nt (.code (.cond u x y)::k) T H Q:=DR.cond hu h
theorem DR.no {u:AOpnd} {x y:ACode} (hu:T.val u=some (.bool false)) (h:DR P ks nt (.code y::k) T H Q):DR P ks nt (.code (.cond u x y)::k) T H Q:=DR.cond hu h
theorem DR.block {id:Nat} {x:ACode} (h:DR P ks nt (.code x::.inBlock id::k) T H Q):DR P ks nt (.code (.block id x)::k) T H Q:=h.lift fun _=>Runs.block
theorem DR.inBlock {id:Nat} (h:DR P ks nt k T H Q):DR P ks nt (.inBlock id::k) T H Q:=h.lift fun _=>Runs.inBlock
theorem DR.loop {x:ACode} (h:DR P ks nt (.code x::.inLoop x::k) T H Q):DR P ks nt (.code (.loop x)::k) T H Q:=h.lift fun _=>Runs.loop
theorem DR.inLoop {x:ACode} (h:DR P ks nt (.code x::.inLoop x::k) T H Q):DR P ks nt (.inLoop x::k) T H Q:=h.lift fun _=>Runs.inLoop
theorem DR.scope {x:ACode} (h:DR P ks nt (.code x::.inScope x::k) T H Q):DR P ks nt (.code (.scope x)::k) T H Q:=h.lift fun _=>Runs.scope
theorem DR.inScope {x:ACode} (h:DR P ks nt k T H Q):DR P ks nt (.inScope x::k) T H Q:=h.lift fun _=>Runs.inScope
theorem DR.exit {id:Nat} {k':List AItem} (he:aexitTo id k=some k') (h:DR P ks nt k' T H Q):DR P ks nt (.code (.exit id)::k) T H Q:=h.lift fun _=>Runs.exit he
theorem DR.goto {l:Nat} {k':List AItem} (he:agotoIn l k=some k') (h:DR P ks nt k' T H Q):DR P ks nt (.code (.goto l)::k) T H Q:=h.lift fun _=>Runs.goto he
theorem DR.ret (h:Q T H):DR P ks nt (.code .ret::k) T H Q:=⟨T,H,h,Runs.ret ⟨rfl,rfl⟩⟩
theorem DR.done (h:Q T H):DR P ks nt [] T H Q:=⟨T,H,h,Runs.done ⟨rfl,rfl⟩⟩
theorem DR.region {l:List AOper} {kl:List Nat} (h:DOps P l T H fun T' H'=>DR P ks nt k (T'.keep kl) H' Q):DR P ks nt (.code (.region false l kl)::k) T H Q:=by
 obtain ⟨T1,H1,⟨T2,H2,q,r⟩,hk⟩:=h.out
 exact ⟨T2,H2,q,Runs.region (hk _ r)⟩
theorem DR.regionD {l:List AOper} {kl:List Nat} (hm:P.follows .mixedOrders=true) {ms:List Nat} (hk:okDraw l ms=true) (h:DrawRun P ms 0 l [] [] T H fun T' H'=>DR P ks nt k (T'.keep kl) H' Q):DR P ks nt (.code (.region true l kl)::k) T H Q:=by
 obtain ⟨st,hl,h0,T2,H2,q,r⟩:=h.line
 exact ⟨T2,H2,q,Runs.ofLine hm hk hl h0 r⟩
theorem DCall.of_body {f : FuncId} {fn : Func} {af : AFunc} (hf : P.funcs[f]? = some fn) (hc : cfunc P ks fn = some af) (hb : (fn.body.isSome && fn.name != "runtime.NumGoroutine") = true) {args : List AVal} (hn : args.length ≤ af.ntmps) {K : AVal → AHeap → Prop}
  (h:DR P ks af.ntmps [.code af.body] (envFrom 0 args) H fun T' H'=>∃ r,aresult H' T' af.results=some r∧K r H'):DCall P f args H K:=by
 obtain ⟨T',H',⟨r,hr,hk⟩,hruns⟩:=h
 rw [Bool.and_eq_true,bne_iff_ne] at hb
 refine ⟨r,H',hk,⟨fn,hf,hb.1,hb.2⟩,CallEv.of_body hf hc hn (hruns.mono fun a b ⟨e1,e2⟩=> ?_)⟩
 subst e1; subst e2
 exact ⟨r,hr,rfl,rfl⟩
def Sub (H1 H:AHeap):Prop:=H1.next=H.next∧∀ (i:Nat) (b:ABlk),H1.get i=some b→H.get i=some b
theorem Good.sub {w:World} {ro:Nat→Prop} {μ:Mu} {H1:AHeap} (hs:Sub H1 H) (h:Good P w ro μ H):Good P w ro μ H1:=
 ⟨fun id kb b base h1 h2=>h.blk id kb b base (hs.2 _ _ h1) h2,h.lt,fun id kb b base h1 h2=>h.nro id kb b base (hs.2 _ _ h1) h2,fun i j ki kj b oi oj h1 h2=>h.inj i j ki kj b oi oj (hs.2 _ _ h1) (hs.2 _ _ h2),fun id hid=>h.new id (by rw [← hs.1]; exact hid),h.rolt,h.glob⟩
theorem Out.sub {w:World} {ro:Nat→Prop} {μ:Mu} {H1:AHeap} (hs:Sub H1 H):Out w ro μ H w ro μ H1:=
 ⟨by rw [hs.1]; exact Nat.le_refl _,fun _ _=>rfl,fun _ h=>h,fun _ h=>.inl h,fun b ⟨id,kb,base,h1,h2⟩=>.inl ⟨id,kb,base,hs.2 _ _ h1,h2⟩,Keep.refl _ _⟩
theorem CallEv.sub {f:FuncId} {args:List AVal} {K K':AVal→AHeap→Prop} (h:CallEv P f args H K) (hk:∀ r H',K r H'→∃ H1,Sub H1 H'∧K' r H1):CallEv P f args H K':=
 fun w ro μ argv hg ha=>(h w ro μ argv hg ha).mono fun e w' ⟨v',r,H',ro',μ',h1,h2,h3,h4,h5⟩=>by
  obtain ⟨H1,hs,hk'⟩:=hk r H' h2
  exact ⟨v',r,H1,ro',μ',h1,hk',h3,h4.sub hs,h5.trans (Out.sub hs)⟩
theorem Sub.refl (H:AHeap):Sub H H:=⟨rfl,fun _ _ h=>h⟩
inductive Frz {α:Sort _} (a:α):Type where
 | mk:Frz a
def onW (x:Option Bool) (p q:Prop) (z1:Frz p) (z2:Frz q):Prop:=match x with
 | none=>False
 | some false=>p
 | some true=>q
theorem onW_t (p q:Prop) (z1:Frz p) (z2:Frz q):onW (some true) p q z1 z2=q:=propext Iff.rfl
theorem onW_f (p q:Prop) (z1:Frz p) (z2:Frz q):onW (some false) p q z1 z2=p:=propext Iff.rfl
def onN (x:Option ANext) (p:AVal→AHeap→Prop) (q:FuncId→List AVal→Prop) (a:List (AVal × AHeap)→Prop) (z1:Frz p) (z2:Frz q) (z3:Frz a):Prop:=match x with
 | none=>False
 | some (.value v H)=>p v H
 | some (.enter f as)=>q f as
 | some (.anyOf l)=>a l
 | some (.pan _)=>False
 | some (.dfr _ _)=>False
section
variable {p:AVal→AHeap→Prop} {q:FuncId→List AVal→Prop} {a:List (AVal × AHeap)→Prop} {z1:Frz p} {z2:Frz q} {z3:Frz a}
theorem onN_v {v:AVal} {H:AHeap}:onN (some (.value v H)) p q a z1 z2 z3=p v H:=propext Iff.rfl
theorem onN_c {f:FuncId} {as:List AVal}:onN (some (.enter f as)) p q a z1 z2 z3=q f as:=propext Iff.rfl
theorem onN_a {l:List (AVal × AHeap)}:onN (some (.anyOf l)) p q a z1 z2 z3=a l:=propext Iff.rfl
end
def onB (b:Bool) (p q:Prop) (z1:Frz p) (z2:Frz q):Prop:=match b with
 | true=>p
 | false=>q
theorem onB_t (p q:Prop) (z1:Frz p) (z2:Frz q):onB true p q z1 z2=p:=propext Iff.rfl
theorem onB_f (p q:Prop) (z1:Frz p) (z2:Frz q):onB false p q z1 z2=q:=propext Iff.rfl
def DC (P:Program) (f:FuncId) (as:List AVal) (H:AHeap) (Q:AVal→AHeap→Prop) (z:Frz Q):Prop:=DCall P f as H Q
def CE (P:Program) (f:FuncId) (as:List AVal) (H:AHeap) (Q:AVal→AHeap→Prop) (z:Frz Q):Prop:=CallEv P f as H Q
def DO (P:Program):List AOper→Env→AHeap→(K:Env→AHeap→Prop)→Frz K→Prop
 | [],T,H,K,_=>K T H
 | o::r,T,H,K,z=>onW (wantedA T o.guard) (DO P r (T.put o.dst aundef) H K z) (onN (astep o.op T H) (fun v H'=>DO P r (T.put o.dst v) H' K z) (fun f as=>DC P f as H (fun v H'=>DO P r (T.put o.dst v) H' K z) .mk) (fun _=>False) .mk .mk .mk) .mk .mk
def OR' (P:Program):List AOper→Env→AHeap→(K:Env→AHeap→Prop)→Frz K→Prop
 | [],T,H,K,_=>K T H
 | o::r,T,H,K,z=>onW (wantedA T o.guard) (OR' P r (T.put o.dst aundef) H K z) (onN (astep o.op T H) (fun v H'=>OR' P r (T.put o.dst v) H' K z) (fun f as=>Callable P f∧CE P f as H (fun v H'=>OR' P r (T.put o.dst v) H' K z) .mk) (fun l=>∀ p ∈ l,OR' P r (T.put o.dst p.1) p.2 K z) .mk .mk .mk) .mk .mk
section
variable {P:Program} {d:Option Nat} {op:AOp} {g:Option (Nat × Bool)} {af:List Nat} {r:List AOper} {T:Env} {H:AHeap} {K:Env→AHeap→Prop} {z:Frz K}
theorem DO_nil:DO P [] T H K z=K T H:=propext Iff.rfl
theorem DO_cons:DO P (⟨d,op,g,af⟩::r) T H K z=onW (wantedA T g) (DO P r (T.put d aundef) H K z) (onN (astep op T H) (fun v H'=>DO P r (T.put d v) H' K z) (fun f as=>DC P f as H (fun v H'=>DO P r (T.put d v) H' K z) .mk) (fun _=>False) .mk .mk .mk) .mk .mk:=propext Iff.rfl
theorem OR'_nil:OR' P [] T H K z=K T H:=propext Iff.rfl
theorem OR'_cons:OR' P (⟨d,op,g,af⟩::r) T H K z=onW (wantedA T g) (OR' P r (T.put d aundef) H K z) (onN (astep op T H) (fun v H'=>OR' P r (T.put d v) H' K z) (fun f as=>Callable P f∧CE P f as H (fun v H'=>OR' P r (T.put d v) H' K z) .mk) (fun l=>∀ p ∈ l,OR' P r (T.put d p.1) p.2 K z) .mk .mk .mk) .mk .mk:=propext Iff.rfl
end
theorem DO.run:∀ {l:List AOper} {T:Env} {H:AHeap} {K:Env→AHeap→Prop} {z:Frz K},DO P l T H K z→DOps P l T H K
 | [],T,H,K,z,h=>h
 | o::r,T,H,K,z,h=>by
  simp only [DO] at h
  simp only [DOps]
  cases hw:wantedA T o.guard with
  | none=>rw [hw] at h; exact h
  | some b=>
   rw [hw] at h
   cases b with
   | false=>exact DO.run h
   | true=>
    simp only [onW] at h ⊢
    cases hs:astep o.op T H with
    | none=>rw [hs] at h; exact h
    | some x=>
     rw [hs] at h
     cases x with
     | value v H1=>exact DO.run h
     | enter f as=>exact DCall.mono h fun v H' h=>DO.run h
     | anyOf l=>exact h
     | pan _=>exact h
     | dfr _ _=>exact h
theorem OR'.run:∀ {l:List AOper} {T:Env} {H:AHeap} {K:Env→AHeap→Prop} {z:Frz K},OR' P l T H K z→OpsRun P l T H K
 | [],T,H,K,z,h=>h
 | o::r,T,H,K,z,h=>by
  simp only [OR'] at h
  simp only [OpsRun]
  cases hw:wantedA T o.guard with
  | none=>rw [hw] at h; exact h
  | some b=>
   rw [hw] at h
   cases b with
   | false=>exact OR'.run h
   | true=>
    simp only [onW] at h ⊢
    cases hs:astep o.op T H with
    | none=>rw [hs] at h; exact h
    | some x=>
     rw [hs] at h
     cases x with
     | value v H1=>exact OR'.run h
     | enter f as=>exact ⟨h.1,CallEv.mono h.2 fun v H' h=>OR'.run h⟩
     | anyOf l=>exact fun p hp=>OR'.run (h p hp)
     | pan _=>exact h
     | dfr _ _=>exact h
def seesAll (m:Nat) (op:AOp) (T:Env) (v:AVal):List (Nat × AHeap)→Prop
 | []=>True
 | p::r=>onB (abit m p.1) (seesAll m op T v r) (astep op T p.2=some (.value v p.2)∧seesAll m op T v r) .mk .mk
def staysAll (m:Nat) (H1:AHeap):List Seen→Prop
 | []=>True
 | q::r=>onB (abit m q.at_) (staysAll m H1 r) (astep q.op q.env H1=some (.value q.val H1)∧staysAll m H1 r) .mk .mk
theorem seesAll_iff {m:Nat} {op:AOp} {T:Env} {v:AVal}:∀ {hs:List (Nat × AHeap)},seesAll m op T v hs→∀ p ∈ hs,abit m p.1=true∨astep op T p.2=some (.value v p.2)
 | [],_,p,hp=>by cases hp
 | q::r,h,p,hp=>by
  simp only [seesAll] at h
  cases hb:abit m q.1 with
  | true=>
   rw [hb] at h
   rcases List.mem_cons.mp hp with e | hp
   ·subst e; exact .inl hb
   ·exact seesAll_iff h p hp
  | false=>
   rw [hb] at h
   rcases List.mem_cons.mp hp with e | hp
   ·subst e; exact .inr h.1
   ·exact seesAll_iff h.2 p hp
theorem staysAll_iff {m:Nat} {H1:AHeap}:∀ {rs:List Seen},staysAll m H1 rs→∀ q ∈ rs,abit m q.at_=true∨astep q.op q.env H1=some (.value q.val H1)
 | [],_,p,hp=>by cases hp
 | q::r,h,p,hp=>by
  simp only [staysAll] at h
  cases hb:abit m q.at_ with
  | true=>
   rw [hb] at h
   rcases List.mem_cons.mp hp with e | hp
   ·subst e; exact .inl hb
   ·exact staysAll_iff h p hp
  | false=>
   rw [hb] at h
   rcases List.mem_cons.mp hp with e | hp
   ·subst e; exact .inr h.1
   ·exact staysAll_iff h.2 p hp
def DS (P:Program) (ms:List Nat):Nat→List AOper→(hs:List (Nat × AHeap))→Frz hs→(rs:List Seen)→Frz rs→Env→AHeap→(K:Env→AHeap→Prop)→Frz K→Prop
 | _,[],_,_,_,_,T,H,K,_=>K T H
 | i,o::r,hs,y1,rs,y2,T,H,K,z=>
  onW (wantedA T o.guard) (DS P ms (i+1) r hs y1 rs y2 (T.put o.dst aundef) H K z) (onN (astep o.op T H)
   (fun v H'=>onB o.op.quiet (onB o.op.reads (seesAll (ms.getD i 0) o.op T v hs∧DS P ms (i+1) r hs y1 (⟨i,o.op,T,v⟩::rs) .mk (T.put o.dst v) H K z) (DS P ms (i+1) r hs y1 rs y2 (T.put o.dst v) H K z) .mk .mk)
    (staysAll (ms.getD i 0) H' rs∧DS P ms (i+1) r ((i,H)::hs) .mk rs y2 (T.put o.dst v) H' K z) .mk .mk)
   (fun f as=>DC P f as H (fun v H'=>staysAll (ms.getD i 0) H' rs∧DS P ms (i+1) r ((i,H)::hs) .mk rs y2 (T.put o.dst v) H' K z) .mk) (fun _=>False) .mk .mk .mk) .mk .mk
section
variable {P:Program} {ms:List Nat} {i:Nat} {d:Option Nat} {op:AOp} {g:Option (Nat × Bool)} {af:List Nat} {r:List AOper} {hs:List (Nat × AHeap)} {y1:Frz hs} {rs:List Seen} {y2:Frz rs} {T:Env} {H:AHeap} {K:Env→AHeap→Prop} {z:Frz K}
theorem DS_nil:DS P ms i [] hs y1 rs y2 T H K z=K T H:=propext Iff.rfl
theorem DS_cons:DS P ms i (⟨d,op,g,af⟩::r) hs y1 rs y2 T H K z =
  onW (wantedA T g) (DS P ms (i+1) r hs y1 rs y2 (T.put d aundef) H K z) (onN (astep op T H)
   (fun v H'=>onB op.quiet (onB op.reads (seesAll (ms.getD i 0) op T v hs∧DS P ms (i+1) r hs y1 (⟨i,op,T,v⟩::rs) .mk (T.put d v) H K z) (DS P ms (i+1) r hs y1 rs y2 (T.put d v) H K z) .mk .mk)
    (staysAll (ms.getD i 0) H' rs∧DS P ms (i+1) r ((i,H)::hs) .mk rs y2 (T.put d v) H' K z) .mk .mk)
   (fun f as=>DC P f as H (fun v H'=>staysAll (ms.getD i 0) H' rs∧DS P ms (i+1) r ((i,H)::hs) .mk rs y2 (T.put d v) H' K z) .mk) (fun _=>False) .mk .mk .mk) .mk .mk:=propext Iff.rfl
end
theorem DS.run {ms:List Nat} {K:Env→AHeap→Prop}:∀ (l:List AOper) (i:Nat) (hs:List (Nat × AHeap)) (y1:Frz hs) (rs:List Seen) (y2:Frz rs) (T:Env) (H:AHeap) (z:Frz K),DS P ms i l hs y1 rs y2 T H K z→DrawRun P ms i l hs rs T H K
 | [],i,hs,y1,rs,y2,T,H,z,h=>h
 | o::r,i,hs,y1,rs,y2,T,H,z,h=>by
  simp only [DS] at h
  simp only [DrawRun]
  cases hw:wantedA T o.guard with
  | none=>rw [hw] at h; exact h
  | some b=>
   rw [hw] at h
   cases b with
   | false=>exact DS.run _ _ _ _ _ _ _ _ _ h
   | true=>
    simp only [onW] at h ⊢
    cases hs1:astep o.op T H with
    | none=>rw [hs1] at h; exact h
    | some x=>
     rw [hs1] at h
     cases x with
     | anyOf l=>exact h
     | pan _=>exact h
     | dfr _ _=>exact h
     | enter f as=>
      obtain ⟨u,H1,⟨h1,h2⟩,hd⟩:=h
      exact ⟨u,H1,hd,staysAll_iff h1,DS.run _ _ _ _ _ _ _ _ _ h2⟩
     | value v H1=>
      simp only [onN] at h ⊢
      cases hq:o.op.quiet with
      | false=>
       rw [hq] at h
       simp only [onB,Bool.false_eq_true,if_false] at h ⊢
       exact ⟨staysAll_iff h.1,DS.run _ _ _ _ _ _ _ _ _ h.2⟩
      | true=>
       obtain ⟨v',hv'⟩:=astep_quiet hq hs1
       cases hv'
       rw [hq] at h
       simp only [onB,if_true] at h ⊢
       cases hr:o.op.reads with
       | false=>rw [hr] at h; simp only [onB,Bool.false_eq_true,if_false] at h ⊢; exact DS.run _ _ _ _ _ _ _ _ _ h
       | true=>rw [hr] at h; simp only [onB,if_true] at h ⊢; exact ⟨seesAll_iff h.1,DS.run _ _ _ _ _ _ _ _ _ h.2⟩
section
variable {P:Program} {ks:Keeps} {nt:Nat} {k:List AItem} {T:Env} {H:AHeap} {Q:Env→AHeap→Prop}
def At (P:Program) (ks:Keeps) (nt:Nat) (k:List AItem) (T:Env) (H:AHeap) (Q:Env→AHeap→Prop) (z1:Frz k) (z2:Frz Q):Prop:=DR P ks nt k T H Q
theorem DR.draw {l:List AOper} {kl:List Nat} {ms:List Nat} (hm:P.follows .mixedOrders=true) (hk:okDraw l ms=true) (h:DS P ms 0 l [] .mk [] .mk T H (fun T' H'=>At P ks nt k (T'.keep kl) H' Q .mk .mk) .mk):DR P ks nt (.code (.region true l kl)::k) T H Q:=
 DR.regionD hm hk (DS.run _ _ _ _ _ _ _ _ _ h)
theorem DR.ops {l:List AOper} {kl:List Nat} (h:DO P l T H (fun T' H'=>At P ks nt k (T'.keep kl) H' Q .mk .mk) .mk):DR P ks nt (.code (.region false l kl)::k) T H Q:=
 DR.region (DO.run h)
theorem Runs.ops {l:List AOper} {kl:List Nat} (h:OR' P l T H (fun T' H'=>Runs P ks nt k (T'.keep kl) H' Q) .mk):Runs P ks nt (.code (.region false l kl)::k) T H Q:=
 Runs.region (OR'.run h)
end
section
def anm1:List AItem→Option (List AItem)
 | .code (.seq x y)::k=>some (.code x::.code y::k)
 | .code (.block id x)::k=>some (.code x::.inBlock id::k)
 | .code .skip::k=>some k
 | .inBlock _::k=>some k
 | .code (.scope x)::k=>some (.code x::.inScope x::k)
 | .inScope _::k=>some k
 | .code (.label _)::k=>some k
 | _=>none
def anm:Nat→List AItem→Option (List AItem)
 | 0,k=>some k
 | n+1,k=>match anm1 k with
  | some k'=>anm n k'
  | none=>some k
variable {P:Program} {ks:Keeps} {nt:Nat} {T:Env} {H:AHeap} {Q:Env→AHeap→Prop}
theorem DR.nm1 {k':List AItem}:∀ (k:List AItem),anm1 k=some k'→DR P ks nt k' T H Q→DR P ks nt k T H Q:=by
 intro k e h
 unfold anm1 at e
 split at e
 all_goals first
  | contradiction
  | (injection e with e; subst e; first | exact DR.seq h | exact DR.block h | exact DR.skip h | exact DR.inBlock h | exact DR.scope h | exact DR.inScope h | exact DR.label h)
theorem DR.nm' {k':List AItem}:∀ (n:Nat) (k:List AItem),anm n k=some k'→DR P ks nt k' T H Q→DR P ks nt k T H Q:=by
 intro n
 induction n with
 | zero=>intro k e h; injection e with e; subst e; exact h
 | succ n ih=>
  intro k e h
  simp only [anm] at e
  cases h1:anm1 k with
  | none=>rw [h1] at e; injection e with e; subst e; exact h
  | some k1=>rw [h1] at e; exact DR.nm1 k h1 (ih k1 e h)
theorem Dm {k k':List AItem} (e:anm 60 k=some k') (h:DR P ks nt k' T H Q):DR P ks nt k T H Q:=DR.nm' 60 k e h
end
theorem SE :
  ((∀ P T H (K:Env→AHeap→Prop) (z:Frz K),DO P [] T H K z=K T H)∧
  (∀ P d op g af r T H (K:Env→AHeap→Prop) (z:Frz K),DO P (⟨d,op,g,af⟩::r) T H K z=onW (wantedA T g) (DO P r (T.put d aundef) H K z) (onN (astep op T H) (fun v H'=>DO P r (T.put d v) H' K z) (fun f as=>DC P f as H (fun v H'=>DO P r (T.put d v) H' K z) .mk) (fun _=>False) .mk .mk .mk) .mk .mk)∧
  (∀ P T H (K:Env→AHeap→Prop) (z:Frz K),OR' P [] T H K z=K T H)∧
  (∀ P d op g af r T H (K:Env→AHeap→Prop) (z:Frz K),OR' P (⟨d,op,g,af⟩::r) T H K z=onW (wantedA T g) (OR' P r (T.put d aundef) H K z) (onN (astep op T H) (fun v H'=>OR' P r (T.put d v) H' K z) (fun f as=>Callable P f∧CE P f as H (fun v H'=>OR' P r (T.put d v) H' K z) .mk) (fun l=>∀ p ∈ l,OR' P r (T.put d p.1) p.2 K z) .mk .mk .mk) .mk .mk)∧
  (∀ (p q:Prop) (z1:Frz p) (z2:Frz q),onW (some true) p q z1 z2=q)∧
  (∀ (p q:Prop) (z1:Frz p) (z2:Frz q),onW (some false) p q z1 z2=p)∧
  (∀ (p:AVal→AHeap→Prop) (q:FuncId→List AVal→Prop) (a:List (AVal × AHeap)→Prop) (z1:Frz p) (z2:Frz q) (z3:Frz a) v H,onN (some (.value v H)) p q a z1 z2 z3=p v H)∧
  (∀ (p:AVal→AHeap→Prop) (q:FuncId→List AVal→Prop) (a:List (AVal × AHeap)→Prop) (z1:Frz p) (z2:Frz q) (z3:Frz a) f as,onN (some (.enter f as)) p q a z1 z2 z3=q f as)∧
  (∀ (p:AVal→AHeap→Prop) (q:FuncId→List AVal→Prop) (a:List (AVal × AHeap)→Prop) (z1:Frz p) (z2:Frz q) (z3:Frz a) l,onN (some (.anyOf l)) p q a z1 z2 z3=a l)∧
  (∀ (p q:Prop) (z1:Frz p) (z2:Frz q),onB true p q z1 z2=p)∧
  (∀ (p q:Prop) (z1:Frz p) (z2:Frz q),onB false p q z1 z2=q)∧
  (∀ (α β:Type),@bind Option _ α β=Option.bind)∧(∀ (α β:Type) (a:α) (f:α→Option β),(some a).bind f=f a)∧(∀ (α:Type),(pure:α→Option α)=some)∧
  (∀ (α β:Type) (a:α) (f:α→β),(some a).map f=some (f a))∧
  (∀ (l:List AVal),l.drop 0=l)∧(∀ (a:AVal) l n,(a::l).drop (n+1)=l.drop n)∧(∀ (a:AVal) l,(a::l).length=l.length+1)∧(([]:List AVal).length=0)∧
  (∀ (α:Type) (a:α) l,(a::l)[0]? = some a)∧(∀ (α:Type) (a:α) l (i:Nat),(a::l)[i+1]? = l[i]?)∧
  (∀ n:Nat,0+n=n)∧(∀ n:Nat,n+0=n)∧(∀ n:Nat,0≤n)∧(∀ n:Nat,n≤n)∧(∀ n:Nat,n.succ≠n)∧(¬ (false=true))∧
  ((!true)=false)∧((!false)=true)∧(∀ b,(b ^^ false)=b)∧(∀ b,(false ^^ b)=b)∧(∀ b,(true ^^ b) = !b)∧(∀ b,(b ^^ true) = !b)∧
  (∀ b,(true==b)=b)∧(∀ b,(false==b) = !b)∧
  (∀ p:Prop,(p∧p)=p)∧(∀ p:Prop,(True∧p)=p)∧(∀ p:Prop,(p∧True)=p))∧
  ((∀ T n,Env.val T (.t n)=Env.get T n)∧(∀ T v,Env.val T (.c v)=some v)∧(∀ T,Env.vals T []=some [])∧(∀ T x r,Env.vals T (x::r)=(Env.val T x).bind fun v=>(Env.vals T r).bind fun vs=>some (v::vs))∧
  (∀ T d v,Env.put T (some d) v=Env.set T d v)∧(∀ T v,Env.put T none v=T)∧(∀ s v,Env.set [] s v=[(s,v)])∧(∀ k u r s v,Env.set ((k,u)::r) s v=if s=k then (k,v)::r else (k,u)::Env.set r s v)∧
  (∀ s,Env.get [] s=none)∧(∀ k v r s,Env.get ((k,v)::r) s=if s=k then some v else Env.get r s)∧(∀ i,envFrom i []=[])∧(∀ i v r,envFrom i (v::r)=(i,v)::envFrom (i+1) r)∧
  (∀ T,Env.keep T []=[])∧(∀ T s r,Env.keep T (s::r)=match Env.get T s with | some v=>(s,v)::Env.keep T r | none=>Env.keep T r)∧
  (∀ T,wantedA T none=some true)∧(∀ T g b,wantedA T (some (g,b))=match Env.get T g with | some (.bool c)=>some (c==b) | some (.tup _)=>some false | _=>none)∧
  (∀ n id o,afaddr n (.ptr id o)=some (.ptr id (o+n)))∧(∀ n cs,afaddr n (.rop cs)=some (.rop (cs.drop n)))∧(aundef = .tup [])∧(∀ (α:Type) [BEq α] [ReflBEq α] (a:α),(a==a)=true))∧
  (∀ b,AVal.cells (.bool b)=[.bool b])∧(∀ k n,AVal.cells (.int k n)=[.int k n])∧(∀ k n,AVal.cells (.flt k n)=[.flt k n])∧(∀ s,AVal.cells (.str s)=[.str s])∧
  (AVal.cells .nilp=[.nilp])∧(AVal.cells .nils=[.nils])∧(AVal.cells .nilm=[.nilm])∧(AVal.cells .nilf=[.nilf])∧(AVal.cells .nili=[.nili])∧
  (∀ i o,AVal.cells (.ptr i o)=[.ptr i o])∧(∀ c,AVal.cells (.rop c)=[.rop c])∧(∀ i o n c,AVal.cells (.sl i o n c)=[.sl i o n c])∧(∀ c n,AVal.cells (.ros c n)=[.ros c n])∧
  (∀ i,AVal.cells (.map i)=[.map i])∧(∀ f a c,AVal.cells (.fn f a c)=[.fn f a c])∧(∀ t v,AVal.cells (.ifc t v)=[.ifc t v])∧(∀ c,AVal.cells (.agg c)=c)∧(∀ l,AVal.cells (.tup l)=[.tup l])∧(∀ k,AVal.cells (.nan k)=[.nan k])∧
  (∀ k n,aun .neg (.int k n)=some (.int k (k.wrap (0 - n))))∧(∀ k b,aun .neg (.flt k b)=some (.flt k (Op.negFloat k b)))∧(∀ b,aun .not (.bool b)=some (.bool !b))∧
  (∀ k n,aun .xor (.int k n)=some (.int k (k.wrap (BitVec.ofInt k.bits (if k.signed then -1 else k.max) ^^^ BitVec.ofInt k.bits n).toNat))):=
 ⟨⟨fun _ _ _ _ _=>DO_nil,fun _ _ _ _ _ _ _ _ _ _=>DO_cons,fun _ _ _ _ _=>OR'_nil,fun _ _ _ _ _ _ _ _ _ _=>OR'_cons,onW_t,onW_f,fun _ _ _ _ _ _ _ _=>onN_v,fun _ _ _ _ _ _ _ _=>onN_c,fun _ _ _ _ _ _ _=>onN_a,onB_t,onB_f,
  fun _ _=>rfl,fun _ _ _ _=>rfl,fun _=>rfl,fun _ _ _ _=>rfl,fun _=>rfl,fun _ _ _=>rfl,fun _ _=>rfl,rfl,fun _ _ _=>rfl,fun _ _ _ _=>rfl,
  Nat.zero_add,Nat.add_zero,Nat.zero_le,Nat.le_refl,Nat.succ_ne_self,Bool.false_ne_true,rfl,rfl,Bool.xor_false,Bool.false_xor,Bool.true_xor,Bool.xor_true,Bool.true_beq,Bool.false_beq,and_self,true_and,and_true⟩,
 ⟨fun _ _=>rfl,fun _ _=>rfl,fun _=>rfl,fun _ _ _=>rfl,fun _ _ _=>rfl,fun _ _=>rfl,fun _ _=>rfl,fun _ _ _ _ _=>rfl,fun _=>rfl,fun _ _ _ _=>rfl,fun _=>rfl,fun _ _ _=>rfl,fun _=>rfl,fun _ _ _=>rfl,fun _=>rfl,fun _ _ _=>rfl,fun _ _ _=>rfl,fun _ _=>rfl,rfl,fun _ _ _ a=>beq_self_eq_true a⟩,
 ⟨fun _=>rfl,fun _ _=>rfl,fun _ _=>rfl,fun _=>rfl,rfl,rfl,rfl,rfl,rfl,fun _ _=>rfl,fun _=>rfl,fun _ _ _ _=>rfl,fun _ _=>rfl,fun _=>rfl,fun _ _ _=>rfl,fun _ _=>rfl,fun _=>rfl,fun _=>rfl,fun _=>rfl,fun _ _=>rfl,fun _ _=>rfl,fun _=>rfl,fun _ _=>rfl⟩⟩
theorem LZ:(∀ l:List AVal,l.take 0=[])∧(∀ (a:AVal) l n,(a::l).take (n+1)=a::l.take n)∧(∀ l:List AVal,[]++l=l)∧(∀ (a:AVal) l m,(a::l)++m=a::(l++m))∧(∀ l:List AVal,l++[]=l):=
 ⟨fun _=>rfl,fun _ _ _=>rfl,fun _=>rfl,fun _ _ _=>rfl,List.append_nil⟩
theorem Dg {P:Program} {ks:Keeps} {nt:Nat} {T:Env} {H:AHeap} {Q:Env→AHeap→Prop} {k k2:List AItem} {l:List AOper} {kl:List Nat} (e:anm 60 k=some (.code (.region false l kl)::k2)) (h:DO P l T H (fun T' H'=>At P ks nt k2 (T'.keep kl) H' Q .mk .mk) .mk):DR P ks nt k T H Q:=Dm e (DR.ops h)
theorem Dy {P:Program} {ks:Keeps} {nt:Nat} {T:Env} {H:AHeap} {Q:Env→AHeap→Prop} {k k2:List AItem} {u:AOpnd} {x y:ACode} (e:anm 60 k=some (.code (.cond u x y)::k2)) (hu:T.val u=some (.bool true)) (h:DR P ks nt (.code x::k2) T H Q):DR P ks nt k T H Q:=Dm e (DR.yes hu h)
theorem Dn {P:Program} {ks:Keeps} {nt:Nat} {T:Env} {H:AHeap} {Q:Env→AHeap→Prop} {k k2:List AItem} {u:AOpnd} {x y:ACode} (e:anm 60 k=some (.code (.cond u x y)::k2)) (hu:T.val u=some (.bool false)) (h:DR P ks nt (.code y::k2) T H Q):DR P ks nt k T H Q:=Dm e (DR.no hu h)
end Go.Am
