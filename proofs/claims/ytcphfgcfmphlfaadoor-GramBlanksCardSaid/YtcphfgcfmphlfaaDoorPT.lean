/- Parts: PT1, PT2, PT3, PT4, PT5. -/
import Derived.Test.YtcphfgcfmphlfaaDoorPD
set_option linter.unusedVariables false
set_option linter.unusedSimpArgs false
namespace Go.Am.Rl
open Go.Proofs
inductive Goes (Pre:NT→PS→Prop) (Post:NT→PS→Val→PS→Prop) (Er:Int→Int→Prop) (Q:Val→PS→Prop):IT→Prop
 | done {v:Val} {st:PS}:Q v st→Goes Pre Post Er Q (.done v st)
 | fail {e p:Int}:Er e p→Goes Pre Post Er Q (.fail e p)
 | call {c:NT} {st:PS} {k:Val→PS→IT}:Pre c st→(∀ v st',Post c st v st'→Goes Pre Post Er Q (k v st'))→Goes Pre Post Er Q (.call c st k)
section
variable {ts:List TK} {Pre:NT→PS→Prop} {Post:NT→PS→Val→PS→Prop} {Er:Int→Int→Prop}
theorem Goes.run (h:∀ c st,Pre c st→Goes Pre Post Er (Post c st) (rule ts c st)):∀ (n:Nat) {t:IT} {Q:Val→PS→Prop} {o:Out1},Goes Pre Post Er Q t→run ts n t=some o→(∀ v st,o = .ok v st→Q v st)∧∀ e p,o = .err e p→Er e p
 | 0,_,_,o,.done h,e=>by simp only [Rl.run,Option.some.injEq] at e; subst e; exact ⟨fun v st e=>by cases e; exact h,fun e p h=>by cases h⟩
 | n+1,_,_,o,.done h,e=>by simp only [Rl.run,Option.some.injEq] at e; subst e; exact ⟨fun v st e=>by cases e; exact h,fun e p h=>by cases h⟩
 | 0,_,_,o,.fail h,e=>by simp only [Rl.run,Option.some.injEq] at e; subst e; exact ⟨fun v st e=>(by cases e),fun e p e'=>by cases e'; exact h⟩
 | n+1,_,_,o,.fail h,e=>by simp only [Rl.run,Option.some.injEq] at e; subst e; exact ⟨fun v st e=>(by cases e),fun e p e'=>by cases e'; exact h⟩
 | 0,_,_,o,.call _ _,e=>by simp [Rl.run] at e
 | n+1,_,_,o,.call (c:=c) (st:=st) hp hk,e=>by
  simp only [Rl.run] at e
  cases h1:Rl.run ts n (rule ts c st) with
  | none=>rw [h1] at e; cases e
  | some x=>
   rw [h1] at e
   obtain ⟨a,b⟩:=Goes.run h n (h c st hp) h1
   cases x with
   | err e1 p1=>
    simp only [Option.some.injEq] at e; subst e
    exact ⟨fun v st e=>(by cases e),fun e p e'=>by cases e'; exact b _ _ rfl⟩
   | ok v1 st1=>exact Goes.run h n (hk v1 st1 (a _ _ rfl)) e
theorem Goes.ev (h:∀ c st,Pre c st→Goes Pre Post Er (Post c st) (rule ts c st)) {c:NT} {st:PS} {o:Out1} (hp:Pre c st) (he:Ev ts (rule ts c st) o):(∀ v st',o = .ok v st'→Post c st v st')∧∀ e p,o = .err e p→Er e p:=by
 obtain ⟨n,he⟩:=he
 exact Goes.run h n (h c st hp) he
theorem Goes.ite {Q:Val→PS→Prop} {c:Prop} [Decidable c] {a b:IT} (h1:c→Goes Pre Post Er Q a) (h2:¬ c→Goes Pre Post Er Q b):Goes Pre Post Er Q (if c then a else b):=by
 by_cases h:c
 ·rw [if_pos h]; exact h1 h
 ·rw [if_neg h]; exact h2 h
end
structure NodeOk (B:Int) (base:Nat) (nodes:List ND) (i:Nat) (m:ND):Prop where
 p:0≤m.p∧m.p≤B
 lo:∀ x ∈ m.l,base≤x∧x < i
 so:m.l.Pairwise (· < ·)
 cl:m.k=21→∃ g b,0≤m.n∧m.l.length=m.n.toNat+2∧m.l[m.n.toNat]? = some g∧m.l[m.n.toNat+1]? = some b∧(∃ x,nodes[g]? = some x∧x.k=22)∧∃ x,nodes[b]? = some x∧x.k=19
structure Wf (B:Int) (base:Nat) (nodes:List ND) (held:List Nat):Prop where
 le:base≤nodes.length
 ok:∀ i m,base≤i→nodes[i]? = some m→NodeOk B base nodes i m
 pm:((nodes.drop base).flatMap (·.l)++held).Perm (List.range' base (nodes.length - base))
 so:held.Pairwise (· < ·)
section
variable {B:Int} {base:Nat} {nodes nodes':List ND} {held held':List Nat}
theorem NodeOk.more {b2:Nat} {i:Nat} {m:ND} (h:NodeOk B base nodes i m) (hb:b2≤base) (extra:List ND):NodeOk B b2 (nodes++extra) i m:=by
 have keep:∀ (g:Nat) (k:Int),(∃ x,nodes[g]? = some x∧x.k=k)→∃ x,(nodes++extra)[g]? = some x∧x.k=k:=by
  rintro g k ⟨x,h1,h2⟩
  exact ⟨x,by rw [List.getElem?_append_left (List.getElem?_eq_some_iff.mp h1).1]; exact h1,h2⟩
 refine ⟨h.p,fun x hx=>⟨Nat.le_trans hb (h.lo x hx).1,(h.lo x hx).2⟩,h.so,fun hk=> ?_⟩
 obtain ⟨g,b,h0,h1,h2,h3,h4,h5⟩:=h.cl hk
 exact ⟨g,b,h0,h1,h2,h3,keep g 22 h4,keep b 19 h5⟩
theorem Wf.nil (B:Int) (nodes:List ND):Wf B nodes.length nodes []:=⟨Nat.le_refl _,fun i m hi hm=>by have:=(List.getElem?_eq_some_iff.mp hm).1; omega,by simp,.nil⟩
theorem Wf.lt (h:Wf B base nodes held) {x:Nat} (hx:x ∈ held):base≤x∧x < nodes.length:=by
 have hm:x ∈ List.range' base (nodes.length - base):=h.pm.mem_iff.mp (List.mem_append_right _ hx)
 rw [List.mem_range'_1] at hm
 have:=h.le
 omega
theorem Wf.trans {extra:List ND} (h:Wf B base nodes held) (k:Wf B nodes.length (nodes++extra) held'):Wf B base (nodes++extra) (held++held'):=by
 have hle:=h.le
 refine ⟨by simp; omega,fun i m hi hm=> ?_,?_,?_⟩
 ·rcases Nat.lt_or_ge i nodes.length with hlt | hge
  ·rw [List.getElem?_append_left hlt] at hm
   exact (h.ok i m hi hm).more (Nat.le_refl _) extra
  ·have:=k.ok i m hge hm
   exact ⟨this.p,fun x hx=>⟨by have:=(this.lo x hx).1; omega,(this.lo x hx).2⟩,this.so,this.cl⟩
 ·have e1:(nodes++extra).drop base=nodes.drop base++extra:=List.drop_append_of_le_length hle
  have e2:(nodes++extra).drop nodes.length=extra:=by simp
  have k2:=k.pm
  rw [e2] at k2
  have k2':(extra.flatMap (·.l)++held').Perm (List.range' nodes.length extra.length):=by simpa using k2
  have e3:List.range' base ((nodes++extra).length - base)=List.range' base (nodes.length - base)++List.range' nodes.length extra.length:=by
   have h1:(nodes++extra).length - base=(nodes.length - base)+extra.length:=by simp; omega
   have h2:nodes.length=base+(nodes.length - base):=by omega
   rw [h1]
   conv=>rhs; rhs; rw [h2]
   rw [List.range'_append_1]
  rw [e1,e3,List.flatMap_append]
  refine List.Perm.trans ?_ (h.pm.append k2')
  rw [List.append_assoc,List.append_assoc]
  refine List.Perm.append_left _ ?_
  rw [← List.append_assoc,← List.append_assoc]
  exact List.Perm.append_right _ List.perm_append_comm
 ·refine List.pairwise_append.mpr ⟨h.so,k.so,fun a ha b hb=> ?_⟩
  have:=(h.lt ha).2
  have:=(k.lt hb).1
  omega
theorem Wf.lay {h1:List Nat} {m:ND} (h:Wf B base nodes (h1++m.l)) (hp:0≤m.p∧m.p≤B) (hc:m.k=21→∃ g b,0≤m.n∧m.l.length=m.n.toNat+2∧m.l[m.n.toNat]? = some g∧m.l[m.n.toNat+1]? = some b∧(∃ x,nodes[g]? = some x∧x.k=22)∧∃ x,nodes[b]? = some x∧x.k=19):Wf B base (nodes++[m]) (h1++[nodes.length]):=by
 have hle:=h.le
 obtain ⟨s1,s2,s3⟩:=List.pairwise_append.mp h.so
 refine ⟨by simp; omega,fun i x hi hx=> ?_,?_,?_⟩
 ·rcases Nat.lt_or_ge i nodes.length with hlt | hge
  ·rw [List.getElem?_append_left hlt] at hx
   exact (h.ok i x hi hx).more (Nat.le_refl _) [m]
  ·have hi':i=nodes.length:=by
    have:=(List.getElem?_eq_some_iff.mp hx).1
    simp at this; omega
   subst hi'
   rw [List.getElem?_append_right (Nat.le_refl _),Nat.sub_self] at hx
   simp only [List.getElem?_cons_zero,Option.some.injEq] at hx
   subst hx
   refine (show NodeOk B base nodes nodes.length m from ⟨hp,fun y hy=>h.lt (List.mem_append_right _ hy),s2,hc⟩).more (Nat.le_refl _) [m]
 ·have e1:(nodes++[m]).drop base=nodes.drop base++[m]:=List.drop_append_of_le_length hle
  have e3:List.range' base ((nodes++[m]).length - base)=List.range' base (nodes.length - base)++[nodes.length]:=by
   have h1:(nodes++[m]).length - base=(nodes.length - base)+1:=by simp; omega
   rw [h1,List.range'_concat]
   congr 2; omega
  rw [e1,e3,List.flatMap_append]
  have e4:[m].flatMap (·.l)=m.l:=by simp
  rw [e4]
  have:=h.pm.append (List.Perm.refl [nodes.length])
  refine List.Perm.trans ?_ this
  rw [List.append_assoc,List.append_assoc]
  refine List.Perm.append_left _ ?_
  rw [← List.append_assoc]
  exact List.Perm.append_right _ List.perm_append_comm
 ·refine List.pairwise_append.mpr ⟨s1,List.pairwise_singleton _ _,fun a ha b hb=> ?_⟩
  rw [List.mem_singleton] at hb
  have:=(h.lt (List.mem_append_left _ ha)).2
  omega
end
end Go.Am.Rl
namespace Go.Am.Rl
open Go.Proofs
def PosOk (B p:Int):Prop:=0≤p∧p≤B
def TsOk (ts:List TK) (B:Int):Prop:=∀ i,PosOk B (tk ts i).p
def refsIn:NT→List Nat
 | .moduleL _ _ l=>l
 | .functionL l _=>l
 | .someL _ l=>l
 | .leftL _ _ a _=>[a]
 | .calls a _=>[a]
 | .partedL _ l _=>l
 | .tail _ l=>l
 | _=>[]
def refs:Val→List Nat
 | .n i=>[i]
 | .l x=>x
 | .d m=>m.l
 | .e _ l=>l
def Plain:NT→Prop
 | .either=>True
 | .both=>True
 | .compare=>True
 | .append=>True
 | .add=>True
 | .mul=>True
 | .unary=>True
 | .clause=>True
 | .fun1=>True
 | .catches=>True
 | _=>False
def TPre (B:Int) (c:NT) (st:PS):Prop:=match c with
 | .moduleL _ p _=>PosOk B p
 | .functionL l p=>PosOk B p
 | .right x y _=>Plain x∧Plain y
 | .left x _=>Plain x
 | .leftL x _ _ p=>Plain x∧PosOk B p
 | .calls _ p=>PosOk B p
 | .parted x=>Plain x
 | .partedL x _ p=>Plain x∧PosOk B p
 | .tail n l=>PosOk B n.p∧n.k=21
 | .other n=>PosOk B n.p∧n.l=[]∧n.k≠21
 | .fun_ n=>PosOk B n.p∧n.l=[]
 | .try_ n=>PosOk B n.p∧n.l=[]
 | .receive n=>PosOk B n.p∧n.l=[]
 | .unaryL signs=>∀ t ∈ signs,PosOk B t.p
 | _=>True
def TRes (B:Int) (c:NT) (v:Val) (nodes:List ND):Prop:=match c with
 | .list _ _=>∃ l,v = .l l
 | .some _=>∃ l,v = .l l
 | .someL _ _=>∃ l,v = .l l
 | .exprs=>∃ l,v = .l l
 | .elements=>∃ k l,v = .e k l∧k≠21
 | .fun_ _=>∃ m,v = .d m∧PosOk B m.p∧m.k≠21
 | .try_ _=>∃ m,v = .d m∧PosOk B m.p∧m.k≠21
 | .receive _=>∃ m,v = .d m∧PosOk B m.p∧m.k≠21
 | .body=>∃ i x,v = .n i∧nodes[i]? = some x∧x.k=19
 | .module=>∃ i x,v = .n i∧nodes[i]? = some x∧x.k=24∧i+1=nodes.length
 | .moduleL _ _ _=>∃ i x,v = .n i∧nodes[i]? = some x∧x.k=24∧i+1=nodes.length
 | _=>∃ i,v = .n i
def To (B:Int) (n0:List ND) (h0:List Nat) (n:List ND) (h:List Nat):Prop:=(∃ extra,n=n0++extra)∧∀ base,Wf B base n0 h0→Wf B base n h
def TPost (B:Int) (c:NT) (st:PS) (v:Val) (st':PS):Prop:=To B st.nodes (refsIn c) st'.nodes (refs v)∧TRes B c v st'.nodes
def TEr (B:Int) (e p:Int):Prop:=e≠0∧PosOk B p
abbrev TG (ts:List TK) (B:Int) (c:NT) (st:PS) (t:IT):Prop:=Goes (TPre B) (TPost B) (TEr B) (TPost B c st) t
section
variable {B:Int} {ts:List TK} {n0 n:List ND} {h0 h h1:List Nat} {c c0:NT} {st st0 st':PS} {v:Val}
theorem To.refl:To B n0 h0 n0 h0:=⟨⟨[],by simp⟩,fun _ h=>h⟩
theorem To.call (t:To B n0 h0 st.nodes h1) (hc:refsIn c=[]) (p:TPost B c st v st'):To B n0 h0 st'.nodes (h1++refs v):=by
 obtain ⟨⟨e1,he1⟩,t2⟩:=t
 obtain ⟨⟨⟨e2,he2⟩,p2⟩,_⟩:=p
 refine ⟨⟨e1++e2,by rw [he2,he1,List.append_assoc]⟩,fun base hw=> ?_⟩
 have k:=p2 st.nodes.length (by rw [hc]; exact Wf.nil B st.nodes)
 rw [he2] at k ⊢
 exact (t2 base hw).trans k
theorem To.pass (t:To B n0 h0 st.nodes (refsIn c)) (p:TPost B c st v st'):To B n0 h0 st'.nodes (refs v):=by
 obtain ⟨⟨e1,he1⟩,t2⟩:=t
 obtain ⟨⟨⟨e2,he2⟩,p2⟩,_⟩:=p
 exact ⟨⟨e1++e2,by rw [he2,he1,List.append_assoc]⟩,fun base hw=>p2 base (t2 base hw)⟩
theorem To.lay {m:ND} (t:To B n0 h0 n (h1++m.l)) (hp:PosOk B m.p) (hc:m.k=21→∃ g b,0≤m.n∧m.l.length=m.n.toNat+2∧m.l[m.n.toNat]? = some g∧m.l[m.n.toNat+1]? = some b∧(∃ x,n[g]? = some x∧x.k=22)∧∃ x,n[b]? = some x∧x.k=19):To B n0 h0 (n++[m]) (h1++[n.length]):=by
 obtain ⟨⟨e1,he1⟩,t2⟩:=t
 exact ⟨⟨e1++[m],by rw [he1,List.append_assoc]⟩,fun base hw=>(t2 base hw).lay hp hc⟩
theorem To.lay0 {m:ND} (t:To B n0 h0 n m.l) (hp:PosOk B m.p) (hc:m.k≠21):To B n0 h0 (n++[m]) [n.length]:=
 To.lay (h1:=[]) (by simpa using t) hp (fun h=>absurd h hc)
theorem Goes.must {s:ByteArray} {k:PS→IT} {Q:Val→PS→Prop} (ht:TsOk ts B) (h:Goes (TPre B) (TPost B) (TEr B) Q (k (adv st))):Goes (TPre B) (TPost B) (TEr B) Q (must ts st s k):=
 Goes.ite (fun _=>h) fun _=>.fail ⟨by decide,ht _⟩
theorem Goes.kind {d:Int} {k:TK→PS→IT} {Q:Val→PS→Prop} (ht:TsOk ts B) (h:Goes (TPre B) (TPost B) (TEr B) Q (k (tk ts st.at_) (adv st))):Goes (TPre B) (TPost B) (TEr B) Q (kind ts st d k):=
 Goes.ite (fun _=>h) fun _=>.fail ⟨by decide,ht _⟩
theorem Goes.lay {m:ND} {k:Nat→PS→IT} {Q:Val→PS→Prop} (hp:PosOk B m.p) (h:Goes (TPre B) (TPost B) (TEr B) Q (k st.nodes.length { st with nodes:=st.nodes++[m] })):Goes (TPre B) (TPost B) (TEr B) Q (Rl.lay st m k):=
 Goes.ite (fun _=>.fail ⟨by decide,hp⟩) fun _=>h
theorem Goes.callN {k:Nat→PS→IT} {Q:Val→PS→Prop} (hp:TPre B c st) (hn:∀ v n,TRes B c v n→∃ i,v = .n i) (hk:∀ i st',TPost B c st (.n i) st'→Goes (TPre B) (TPost B) (TEr B) Q (k i st')):Goes (TPre B) (TPost B) (TEr B) Q (callN c st k):=
 Goes.call hp fun v st' p=>by obtain ⟨i,rfl⟩:=hn v _ p.2; exact hk i st' p
theorem Goes.callL {k:List Nat→PS→IT} {Q:Val→PS→Prop} (hp:TPre B c st) (hn:∀ v n,TRes B c v n→∃ i,v = .l i) (hk:∀ i st',TPost B c st (.l i) st'→Goes (TPre B) (TPost B) (TEr B) Q (k i st')):Goes (TPre B) (TPost B) (TEr B) Q (callL c st k):=
 Goes.call hp fun v st' p=>by obtain ⟨i,rfl⟩:=hn v _ p.2; exact hk i st' p
theorem Goes.callD {k:ND→PS→IT} {Q:Val→PS→Prop} (hp:TPre B c st) (hn:∀ v n,TRes B c v n→∃ i,v = .d i) (hk:∀ i st',TPost B c st (.d i) st'→Goes (TPre B) (TPost B) (TEr B) Q (k i st')):Goes (TPre B) (TPost B) (TEr B) Q (callD c st k):=
 Goes.call hp fun v st' p=>by obtain ⟨i,rfl⟩:=hn v _ p.2; exact hk i st' p
theorem Goes.pass (hp:TPre B c st) (t:To B st0.nodes (refsIn c0) st.nodes (refsIn c)) (hr:∀ v n,TRes B c v n→TRes B c0 v n):Goes (TPre B) (TPost B) (TEr B) (TPost B c0 st0) (pass1 c st):=
 Goes.call hp fun v st' p=>.done ⟨t.pass p,hr v _ p.2⟩
theorem Plain.none {x:NT} (h:Plain x):refsIn x=[]:=by
 cases x <;> first | exact h.elim | rfl
theorem Plain.refs {x:NT} (h:Plain x):refsIn x=[]∧(∀ st,TPre B x st)∧∀ v n,TRes B x v n→∃ i,v = .n i:=by
 cases x <;> first | exact h.elim | exact ⟨rfl,fun _=>trivial,fun v n h=>h⟩
end
end Go.Am.Rl
namespace Go.Am.Rl
open Go.Proofs
section
variable {B:Int} {ts:List TK} {st:PS}
theorem tg_moduleL (ht:TsOk ts B) {s:ByteArray} {p:Int} {l:List Nat} (hp:PosOk B p):TG ts B (.moduleL s p l) st (rule ts (.moduleL s p l) st):=by
 refine Goes.ite (fun _=> ?_) fun _=> ?_
 ·refine Goes.callN trivial (fun v n h=>h) fun a st1 p1=> ?_
  exact Goes.pass hp (To.call (To.refl (h0:=l)) rfl p1) fun v n h=>h
 ·refine Goes.lay hp ?_
  exact .done ⟨To.lay0 To.refl hp (by simp [node]),_,⟨24,s,0,0,l,p⟩,rfl,by simp,rfl,by simp⟩
theorem tg_module (ht:TsOk ts B):TG ts B .module st (rule ts .module st):=by
 simp only [rule]
 refine Goes.must ht ?_
 refine Goes.kind ht ?_
 refine Goes.ite (fun _=> ?_) fun _=>.fail ⟨by decide,ht _⟩
 refine Goes.must ht ?_
 refine Goes.kind ht ?_
 refine Goes.must ht ?_
 refine Goes.must ht ?_
 exact Goes.pass (ht _) To.refl fun v n h=>h
theorem tg_function (ht:TsOk ts B):TG ts B .function st (rule ts .function st):=by
 refine Goes.callN trivial (fun v n h=>h) fun a st1 p1=> ?_
 exact Goes.pass (ht _) (To.call (h1:=[]) To.refl rfl p1) fun v n h=>h
theorem tg_functionL (ht:TsOk ts B) {l:List Nat} {p:Int} (hp:PosOk B p):TG ts B (.functionL l p) st (rule ts (.functionL l p) st):=by
 refine Goes.ite (fun _=> ?_) fun _=> ?_
 ·refine Goes.callN trivial (fun v n h=>h) fun a st1 p1=> ?_
  exact Goes.pass hp (To.call (To.refl (h0:=l)) rfl p1) fun v n h=>h
 ·refine Goes.lay hp (Goes.must ht (Goes.lay hp ?_))
  have t1:To B st.nodes l (st.nodes++[node 20 l p]) [st.nodes.length]:=To.lay0 (m:=node 20 l p) To.refl hp (by simp [node])
  exact .done ⟨To.lay0 (n:=st.nodes++[node 20 l p]) t1 hp (by simp [node]),_,rfl⟩
theorem tg_named (ht:TsOk ts B):TG ts B .named st (rule ts .named st):=by
 simp only [rule]
 refine Goes.kind ht ?_
 refine Goes.must ht ?_
 refine Goes.callL trivial (fun v n h=>h) fun l st1 p1=> ?_
 exact Goes.pass ⟨ht _,rfl⟩ (To.call (h1:=[]) To.refl rfl p1) fun v n h=>h
theorem tg_list (ht:TsOk ts B) {e:ByteArray} {most:Int}:TG ts B (.list e most) st (rule ts (.list e most) st):=by
 refine Goes.ite (fun _=>.done ⟨To.refl,_,rfl⟩) fun _=> ?_
 refine Goes.callL trivial (fun v n h=>h) fun l st1 p1=>Goes.must ht ?_
 exact .done ⟨To.call (h1:=[]) To.refl rfl p1,_,rfl⟩
theorem tg_some (ht:TsOk ts B) {most:Int}:TG ts B (.some most) st (rule ts (.some most) st):=by
 refine Goes.callN trivial (fun v n h=>h) fun a st1 p1=> ?_
 exact Goes.pass trivial (To.call (h1:=[]) To.refl rfl p1) fun v n h=>h
theorem tg_someL (ht:TsOk ts B) {most:Int} {l:List Nat}:TG ts B (.someL most l) st (rule ts (.someL most l) st):=by
 refine Goes.ite (fun _=>Goes.ite (fun _=>.fail ⟨by decide,ht _⟩) fun _=> ?_) fun _=>.done ⟨To.refl,_,rfl⟩
 refine Goes.callN trivial (fun v n h=>h) fun a st1 p1=> ?_
 exact Goes.pass trivial (To.call (To.refl (h0:=l)) rfl p1) fun v n h=>h
theorem tg_exprs (ht:TsOk ts B):TG ts B .exprs st (rule ts .exprs st):=Goes.pass trivial To.refl fun v n h=>h
theorem tg_tail (ht:TsOk ts B) {n:ND} {l:List Nat} (hn:PosOk B n.p∧n.k=21):TG ts B (.tail n l) st (rule ts (.tail n l) st):=by
 have fin:∀ (g:Nat) (s:PS),To B st.nodes l s.nodes (l++[g])→(∃ x,s.nodes[g]? = some x∧x.k=22)→TG ts B (.tail n l) st (must ts s w_arrow fun st1=>callN .body st1 fun b st2=>lay st2 { n with n:=(l.length:Nat),l:=l++[g,b] } fun i st3=>.done (.n i) st3):=by
  intro g s t ⟨x,hx,hk⟩
  refine Goes.must ht (Goes.callN trivial (fun v n ⟨i,x,h,_⟩=>⟨i,h⟩) fun b st2 p2=>Goes.lay hn.1 ?_)
  have t2:=To.call (st:=adv s) t rfl p2
  obtain ⟨⟨⟨e2,he2⟩,_⟩,i,y,hy,hy2,hy3⟩:=p2
  cases hy
  have hx2:st2.nodes[g]? = some x:=by
   rw [he2]; show (s.nodes++e2)[g]? = _
   rw [List.getElem?_append_left (List.getElem?_eq_some_iff.mp hx).1]; exact hx
  refine .done ⟨To.lay (h1:=[]) (m:={ n with n:=(l.length:Nat),l:=l++[g,b] }) (by simpa [refs,refsIn] using t2) hn.1 (fun _=>⟨g,b,by simp,by simp,by simp,by simp,⟨x,hx2,hk⟩,y,hy2,hy3⟩),_,rfl⟩
 refine Goes.ite (fun _=> ?_) fun _=> ?_
 ·refine Goes.callL trivial (fun v n h=>h) fun g st1 p1=>Goes.lay (ht _) ?_
  exact fin _ _ (To.lay (h1:=l) (m:=node 22 g (pos ts (adv st))) (To.call (st:=adv st) (To.refl (h0:=l)) rfl p1) (ht _) (fun h=>absurd h (by simp [node]))) ⟨node 22 g (pos ts (adv st)),by simp,rfl⟩
 ·refine Goes.lay (ht _) ?_
  exact fin _ _ (To.lay (h1:=l) (m:=node 22 [] (pos ts st)) (by simpa [node] using To.refl (h0:=l)) (ht _) (fun h=>absurd h (by simp [node]))) ⟨node 22 [] (pos ts st),by simp,rfl⟩
theorem tg_body (ht:TsOk ts B):TG ts B .body st (rule ts .body st):=by
 refine Goes.callL trivial (fun v n h=>h) fun l st1 p1=>Goes.lay (ht _) ?_
 have t1:To B st.nodes [] st1.nodes l:=To.call (h1:=[]) To.refl rfl p1
 exact .done ⟨To.lay0 (m:=node 19 l (pos ts st)) t1 (ht _) (by simp [node]),_,node 19 l (pos ts st),rfl,by simp,rfl⟩
theorem tg_expr (ht:TsOk ts B):TG ts B .expr st (rule ts .expr st):=by
 refine Goes.ite (fun _=>.fail ⟨by decide,ht _⟩) fun _=>Goes.ite (fun _=> ?_) fun _=> ?_
 ·refine Goes.callN trivial (fun v n h=>h) fun a st2 p2=>Goes.lay (ht _) ?_
  have t2:To B st.nodes [] st2.nodes [a]:=To.call (st:=adv { st with deep:=st.deep+1 }) (h1:=[]) To.refl rfl p2
  exact .done ⟨To.lay0 (m:=node 17 [a] (pos ts st)) t2 (ht _) (by simp [node]),_,rfl⟩
 ·refine Goes.callN trivial (fun v n h=>h) fun a st2 p2=> ?_
  have t2:To B st.nodes [] st2.nodes [a]:=To.call (st:={ st with deep:=st.deep+1 }) (h1:=[]) To.refl rfl p2
  refine Goes.ite (fun _=> ?_) fun _=>Goes.ite (fun _=> ?_) fun _=>.done ⟨t2,_,rfl⟩
  ·refine Goes.callN trivial (fun v n h=>h) fun b st3 p3=>Goes.lay (ht _) ?_
   have t3:To B st.nodes [] st3.nodes [a,b]:=To.call (st:=adv st2) (h1:=[a]) t2 rfl p3
   exact .done ⟨To.lay0 (m:=node 10 [a,b] (pos ts st)) t3 (ht _) (by simp [node]),_,rfl⟩
  ·refine Goes.callN trivial (fun v n h=>h) fun b st3 p3=>Goes.lay (ht _) ?_
   have t3:To B st.nodes [] st3.nodes [a,b]:=To.call (st:=adv st2) (h1:=[a]) t2 rfl p3
   exact .done ⟨To.lay0 (m:=⟨9,anyS ts st2 [w_eq,w_bang],0,0,[a,b],pos ts st⟩) t3 (ht _) (by simp [node]),_,rfl⟩
theorem tg_right (ht:TsOk ts B) {x y:NT} {signs:List ByteArray} (hx:Plain x∧Plain y):TG ts B (.right x y signs) st (rule ts (.right x y signs) st):=by
 refine Goes.callN (hx.1.refs.2.1 _) hx.1.refs.2.2 fun a st1 p1=> ?_
 have t1:To B st.nodes [] st1.nodes [a]:=To.call (st:=st) (h1:=[]) To.refl hx.1.none p1
 refine Goes.ite (fun _=>.done ⟨t1,_,rfl⟩) fun _=> ?_
 refine Goes.callN (hx.2.refs.2.1 _) hx.2.refs.2.2 fun b st3 p3=>Goes.lay (ht _) ?_
 have t3:To B st.nodes [] st3.nodes [a,b]:=To.call (st:=adv st1) (h1:=[a]) t1 hx.2.none p3
 exact .done ⟨To.lay0 (m:=⟨9,anyS ts st1 signs,0,0,[a,b],pos ts st⟩) t3 (ht _) (by simp [node]),_,rfl⟩
theorem tg_left (ht:TsOk ts B) {x:NT} {signs:List ByteArray} (hx:Plain x):TG ts B (.left x signs) st (rule ts (.left x signs) st):=by
 refine Goes.callN (hx.refs.2.1 _) hx.refs.2.2 fun a st1 p1=> ?_
 exact Goes.pass ⟨hx,ht _⟩ (To.call (h1:=[]) To.refl hx.none p1) fun v n h=>h
theorem tg_leftL (ht:TsOk ts B) {x:NT} {signs:List ByteArray} {a:Nat} {p:Int} (hx:Plain x∧PosOk B p):TG ts B (.leftL x signs a p) st (rule ts (.leftL x signs a p) st):=by
 refine Goes.ite (fun _=>.done ⟨To.refl,_,rfl⟩) fun _=> ?_
 refine Goes.callN (hx.1.refs.2.1 _) hx.1.refs.2.2 fun b st1 p1=>Goes.lay hx.2 ?_
 have t1:To B st.nodes [a] st1.nodes [a,b]:=To.call (st:=adv st) (h1:=[a]) To.refl hx.1.none p1
 exact Goes.pass (st:={ st1 with nodes:=_ }) hx (To.lay0 (m:=⟨9,anyS ts st signs,0,0,[a,b],p⟩) t1 hx.2 (by simp [node])) fun v n h=>h
end
end Go.Am.Rl
namespace Go.Am.Rl
open Go.Proofs
section
variable {B:Int} {ts:List TK} {st:PS}
theorem tg_laySigns (ht:TsOk ts B) {c0:NT} {n0:List ND} {h0:List Nat}:∀ (l:List TK) (a:Nat) (s:PS),(∀ t ∈ l,PosOk B t.p)→To B n0 h0 s.nodes [a]→Goes (TPre B) (TPost B) (TEr B) (fun v s'=>To B n0 h0 s'.nodes (refs v)∧∃ i,v = .n i) (laySigns l a s)
 | [],a,s,_,t=>.done ⟨t,_,rfl⟩
 | x::r,a,s,hl,t=>Goes.lay (hl x (List.mem_cons_self ..)) (tg_laySigns (c0:=c0) ht r _ _ (fun y hy=>hl y (List.mem_cons_of_mem _ hy)) (To.lay0 (m:=⟨9,x.s,0,0,[a],x.p⟩) t (hl x (List.mem_cons_self ..)) (by simp [node])))
theorem tg_unaryL (ht:TsOk ts B) {signs:List TK} (hs:∀ t ∈ signs,PosOk B t.p):TG ts B (.unaryL signs) st (rule ts (.unaryL signs) st):=by
 refine Goes.ite (fun _=> ?_) fun _=> ?_
 ·refine Goes.callN trivial (fun v n h=>h) fun a st1 p1=> ?_
  exact tg_laySigns (c0:=.unaryL signs) ht _ _ _ (fun t h=>hs t (List.mem_reverse.mp h)) (To.call (h1:=[]) To.refl rfl p1)
 ·refine Goes.pass (c:=.unaryL (signs++[tk ts st.at_])) (fun t h=> ?_) To.refl fun v n h=>h
  rcases List.mem_append.mp h with h | h
  ·exact hs t h
  ·rw [List.mem_singleton.mp h]; exact ht _
theorem tg_call (ht:TsOk ts B):TG ts B .call st (rule ts .call st):=by
 refine Goes.ite (fun _=> ?_) fun _=> ?_
 ·refine Goes.callL trivial (fun v n h=>h) fun l st1 p1=>Goes.lay (ht _) ?_
  have t1:To B st.nodes [] st1.nodes l:=To.call (st:=adv (adv st)) (h1:=[]) To.refl rfl p1
  exact Goes.pass (st:={ st1 with nodes:=_ }) (ht _) (To.lay0 (m:=⟨11,(tk ts st.at_).s,0,0,l,pos ts st⟩) t1 (ht _) (by simp [node])) fun v n h=>h
 ·refine Goes.callN trivial (fun v n h=>h) fun a st1 p1=> ?_
  exact Goes.pass (ht _) (To.call (h1:=[]) To.refl rfl p1) fun v n h=>h
theorem tg_calls (ht:TsOk ts B) {a:Nat} {p:Int} (hp:PosOk B p):TG ts B (.calls a p) st (rule ts (.calls a p) st):=by
 refine Goes.ite (fun _=> ?_) fun _=>.done ⟨To.refl,_,rfl⟩
 refine Goes.callL trivial (fun v n h=>h) fun l st1 p1=>Goes.lay hp ?_
 have t1:To B st.nodes [a] st1.nodes (a::l):=To.call (st:=adv st) (h1:=[a]) To.refl rfl p1
 exact Goes.pass (st:={ st1 with nodes:=_ }) hp (To.lay0 (m:=node 12 (a::l) p) t1 hp (by simp [node])) fun v n h=>h
theorem tg_primary (ht:TsOk ts B):TG ts B .primary st (rule ts .primary st):=by
 have out:∀ m:ND,m.l=[]→m.k≠21→PosOk B m.p→TG ts B .primary st (lay (adv st) m fun i st1=>.done (.n i) st1):=fun m hl hk hp=>
  Goes.lay hp (.done ⟨To.lay0 (n:=(adv st).nodes) (by rw [hl]; exact To.refl) hp hk,_,rfl⟩)
 refine Goes.ite (fun _=>out _ rfl (by simp [node]) (ht _)) fun _=>Goes.ite (fun _=>out _ rfl (by simp [node]) (ht _)) fun _=>Goes.ite (fun _=>out _ rfl (by simp [node]) (ht _)) fun _=>Goes.ite (fun _=>out _ rfl (by simp [node]) (ht _)) fun _=>Goes.ite (fun _=>out _ rfl (by simp [node]) (ht _)) fun _=> ?_
 exact Goes.pass (c:=.other (node 0 [] (tk ts st.at_).p)) ⟨ht _,rfl,by simp [node]⟩ To.refl fun v n h=>h
theorem tg_other (ht:TsOk ts B) {n:ND} (hn:PosOk B n.p∧n.l=[]∧n.k≠21):TG ts B (.other n) st (rule ts (.other n) st):=by
 have out:∀ (m:ND) (s:PS),To B st.nodes [] s.nodes m.l→m.k≠21→PosOk B m.p→TG ts B (.other n) st (lay s m fun i st1=>.done (.n i) st1):=fun m s t hk hp=>
  Goes.lay hp (.done ⟨To.lay0 t hp hk,_,rfl⟩)
 refine Goes.ite (fun _=>.fail ⟨by decide,hn.1⟩) fun _=>Goes.ite (fun _=> ?_) fun _=>Goes.ite (fun _=> ?_) fun _=>Goes.ite (fun _=> ?_) fun _=>Goes.ite (fun _=> ?_) fun _=>Goes.ite (fun _=> ?_) fun _=>Goes.ite (fun _=> ?_) fun _=>Goes.ite (fun _=> ?_) fun _=>Goes.ite (fun _=> ?_) fun _=> ?_
 ·refine Goes.callN trivial (fun v n h=>h) fun a st2 p2=>Goes.must ht ?_
  exact .done ⟨To.call (st:=adv st) (h1:=[]) To.refl rfl p2,_,rfl⟩
 ·refine Goes.callL trivial (fun v n h=>h) fun l st2 p2=> ?_
  exact out { n with k:=6,l } _ (To.call (st:=adv st) (h1:=[]) To.refl rfl p2) (by simp [node]) hn.1
 ·refine Goes.call trivial fun v st2 p2=> ?_
  obtain ⟨t,k,l,rfl,hk⟩:=p2
  exact out { n with k,l } _ (To.call (c:=.elements) (st:=adv st) (h1:=[]) To.refl rfl ⟨t,k,l,rfl,hk⟩) hk hn.1
 ·refine Goes.callL trivial (fun v n h=>h) fun l st2 p2=>Goes.must ht ?_
  exact out { n with k:=19,l } _ (To.call (st:=adv st) (h1:=[]) To.refl rfl p2) (by simp [node]) hn.1
 ·refine Goes.callN trivial (fun v n h=>h) fun x st2 p2=>Goes.must ht (Goes.callN trivial (fun v n h=>h) fun c st4 p4=>Goes.must ht ?_)
  have t2:To B st.nodes [] st2.nodes [x]:=To.call (st:=adv st) (h1:=[]) To.refl rfl p2
  exact out { n with k:=15,l:=[x,c] } _ (To.call (st:=adv st2) (h1:=[x]) t2 rfl p4) (by simp [node]) hn.1
 ·refine Goes.callD ⟨hn.1,hn.2.1⟩ (fun v n ⟨m,h,_⟩=>⟨m,h⟩) fun m st2 p2=> ?_
  have t2:=To.call (st:=adv st) (h1:=[]) (To.refl (n0:=st.nodes)) rfl p2
  obtain ⟨_,m',h,hp,hk⟩:=p2
  cases h
  exact out m _ t2 hk hp
 ·refine Goes.callD ⟨hn.1,hn.2.1⟩ (fun v n ⟨m,h,_⟩=>⟨m,h⟩) fun m st2 p2=> ?_
  have t2:=To.call (st:=adv st) (h1:=[]) (To.refl (n0:=st.nodes)) rfl p2
  obtain ⟨_,m',h,hp,hk⟩:=p2
  cases h
  exact out m _ t2 hk hp
 ·refine Goes.callD ⟨hn.1,hn.2.1⟩ (fun v n ⟨m,h,_⟩=>⟨m,h⟩) fun m st2 p2=> ?_
  have t2:=To.call (st:=adv st) (h1:=[]) (To.refl (n0:=st.nodes)) rfl p2
  obtain ⟨_,m',h,hp,hk⟩:=p2
  cases h
  exact out m _ t2 hk hp
 ·exact out n _ (by rw [hn.2.1]; exact To.refl (n0:=st.nodes)) hn.2.2 hn.1
theorem tg_elements (ht:TsOk ts B):TG ts B .elements st (rule ts .elements st):=by
 refine Goes.ite (fun _=>.done ⟨To.refl,_,_,rfl,by simp [node]⟩) fun _=> ?_
 refine Goes.callL trivial (fun v n h=>h) fun l st1 p1=> ?_
 have t1:To B st.nodes [] st1.nodes l:=To.call (st:=st) (h1:=[]) To.refl rfl p1
 refine Goes.ite (fun _=> ?_) fun _=>Goes.must ht (.done ⟨t1,_,_,rfl,by simp [node]⟩)
 refine Goes.callN trivial (fun v n h=>h) fun a st2 p2=>Goes.must ht ?_
 exact .done ⟨To.call (st:=adv st1) t1 rfl p2,_,_,rfl,by simp [node]⟩
theorem tg_parted (ht:TsOk ts B) {x:NT} (hx:Plain x):TG ts B (.parted x) st (rule ts (.parted x) st):=by
 refine Goes.callN (hx.refs.2.1 _) hx.refs.2.2 fun a st1 p1=> ?_
 exact Goes.pass ⟨hx,ht _⟩ (To.call (h1:=[]) To.refl hx.none p1) fun v n h=>h
theorem tg_partedL (ht:TsOk ts B) {x:NT} {l:List Nat} {p:Int} (hx:Plain x∧PosOk B p):TG ts B (.partedL x l p) st (rule ts (.partedL x l p) st):=by
 refine Goes.ite (fun _=> ?_) fun _=> ?_
 ·refine Goes.callN (hx.1.refs.2.1 _) hx.1.refs.2.2 fun a st1 p1=> ?_
  exact Goes.pass hx (To.call (st:=adv st) (To.refl (h0:=l)) hx.1.none p1) fun v n h=>h
 ·exact Goes.lay hx.2 (.done ⟨To.lay0 (m:=node 20 l p) To.refl hx.2 (by simp [node]),_,rfl⟩)
theorem tg_clause (ht:TsOk ts B):TG ts B .clause st (rule ts .clause st):=by
 refine Goes.callN trivial (fun v n h=>h) fun a st1 p1=> ?_
 exact Goes.pass ⟨ht _,rfl⟩ (To.call (h1:=[]) To.refl rfl p1) fun v n h=>h
theorem tg_fun1 (ht:TsOk ts B):TG ts B .fun1 st (rule ts .fun1 st):=by
 simp only [rule]
 refine Goes.must ht ?_
 refine Goes.callL trivial (fun v n h=>h) fun l st1 p1=> ?_
 exact Goes.pass ⟨ht _,rfl⟩ (To.call (st:=adv st) (h1:=[]) To.refl rfl p1) fun v n h=>h
theorem tg_fun (ht:TsOk ts B) {n:ND} (hn:PosOk B n.p∧n.l=[]):TG ts B (.fun_ n) st (rule ts (.fun_ n) st):=by
 refine Goes.ite (fun _=>Goes.must ht (Goes.kind ht (Goes.ite (fun _=>.fail ⟨by decide,ht _⟩) fun _=> ?_))) fun _=> ?_
 ·exact .done ⟨by show To B st.nodes [] st.nodes n.l; rw [hn.2]; exact To.refl,_,rfl,hn.1,by simp [node]⟩
 ·refine Goes.callN trivial (fun v n h=>h) fun a st1 p1=>Goes.must ht ?_
  exact .done ⟨To.call (st:=st) (h1:=[]) To.refl rfl p1,_,rfl,hn.1,by simp [node]⟩
theorem tg_none {c0:NT} {st0 s:PS} {d:Int} {k:Nat→PS→IT} (ht:TsOk ts B) {n0:List ND} {h0 l:List Nat} (hd:d≠21) (t:To B n0 h0 s.nodes l) (hk:∀ s':PS,To B n0 h0 s'.nodes (l++[s.nodes.length])→TG ts B c0 st0 (k s.nodes.length s')):TG ts B c0 st0 (none1 ts s d k):=
 Goes.lay (ht _) (hk _ (To.lay (h1:=l) (m:=node d [] (pos ts s)) (by simpa [node] using t) (ht _) (fun h=>absurd h hd)))
theorem tg_try (ht:TsOk ts B) {n:ND} (hn:PosOk B n.p∧n.l=[]):TG ts B (.try_ n) st (rule ts (.try_ n) st):=by
 have k3:∀ (l:List Nat) (m:Int) (s:PS),To B st.nodes [] s.nodes l→TG ts B (.try_ n) st (must ts s w_end fun s1=>.done (.d { n with k:=16,n:=m,l }) s1):=fun l m s t=>
  Goes.must ht (.done ⟨t,_,rfl,hn.1,by simp [node]⟩)
 have k2:∀ (c:Bool) (l:List Nat) (s:PS),To B st.nodes [] s.nodes l→TG ts B (.try_ n) st (if isS ts s w_after=true then callN .body (adv s) fun b s1=>must ts s1 w_end fun s2=>.done (.d { n with k:=16,n:=1,l:=l++[b] }) s2 else if c=true then none1 ts s 19 fun b s1=>must ts s1 w_end fun s2=>.done (.d { n with k:=16,n:=n.n,l:=l++[b] }) s2 else .fail 24 (pos ts s)):=by
  intro c l s t
  refine Goes.ite (fun _=> ?_) fun _=>Goes.ite (fun _=> ?_) fun _=>.fail ⟨by decide,ht _⟩
  ·refine Goes.callN trivial (fun v n ⟨i,x,h,_⟩=>⟨i,h⟩) fun b s1 p1=> ?_
   exact k3 _ _ _ (To.call (st:=adv s) t rfl p1)
  ·exact tg_none ht (by simp [node]) t fun s' t'=>k3 _ _ _ t'
 have k1:∀ (l:List Nat) (s:PS),To B st.nodes [] s.nodes l→TG ts B (.try_ n) st (if isS ts s w_catch=true then callN (.parted .catches) (adv s) fun c s1=>(if isS ts s1 w_after=true then callN .body (adv s1) fun b s2=>must ts s2 w_end fun s3=>.done (.d { n with k:=16,n:=1,l:=(l++[c])++[b] }) s3 else if true=true then none1 ts s1 19 fun b s2=>must ts s2 w_end fun s3=>.done (.d { n with k:=16,n:=n.n,l:=(l++[c])++[b] }) s3 else .fail 24 (pos ts s1)) else none1 ts s 20 fun c s1=>(if isS ts s1 w_after=true then callN .body (adv s1) fun b s2=>must ts s2 w_end fun s3=>.done (.d { n with k:=16,n:=1,l:=(l++[c])++[b] }) s3 else if false=true then none1 ts s1 19 fun b s2=>must ts s2 w_end fun s3=>.done (.d { n with k:=16,n:=n.n,l:=(l++[c])++[b] }) s3 else .fail 24 (pos ts s1))):=by
  intro l s t
  refine Goes.ite (fun _=> ?_) fun _=> ?_
  ·refine Goes.callN (c:=.parted .catches) trivial (fun v n h=>h) fun c s1 p1=> ?_
   exact k2 true _ _ (To.call (st:=adv s) t rfl p1)
  ·exact tg_none ht (by simp [node]) t fun s' t'=>k2 false _ _ t'
 refine Goes.callN trivial (fun v n ⟨i,x,h,_⟩=>⟨i,h⟩) fun b st1 p1=> ?_
 have t1:To B st.nodes [] st1.nodes [b]:=To.call (st:=st) (h1:=[]) To.refl rfl p1
 refine Goes.ite (fun _=> ?_) fun _=> ?_
 ·refine Goes.callN trivial (fun v n h=>h) fun c st2 p2=> ?_
  exact k1 _ _ (To.call (st:=adv st1) t1 rfl p2)
 ·exact tg_none ht (by simp [node]) t1 fun s' t'=>k1 _ _ t'
theorem tg_catches (ht:TsOk ts B):TG ts B .catches st (rule ts .catches st):=by
 have out:∀ (m:ND) (s:PS),To B st.nodes [] s.nodes []→m.l=[]→m.k≠21→PosOk B m.p→TG ts B .catches st (lay s m fun k s1=>callN .expr s1 fun a s2=>pass1 (.tail (node 21 [] (tk ts st.at_).p) [k,a]) s2):=by
  intro m s t hl hk hp
  refine Goes.lay hp (Goes.callN trivial (fun v n h=>h) fun a s2 p2=> ?_)
  exact Goes.pass ⟨ht _,rfl⟩ (To.call (st:={ s with nodes:=s.nodes++[m] }) (To.lay0 (by rw [hl]; exact t) hp hk) rfl p2) fun v n h=>h
 refine Goes.ite (fun _=>Goes.ite (fun _=> ?_) fun _=>Goes.ite (fun _=> ?_) fun _=>.fail ⟨by decide,ht _⟩) fun _=> ?_
 ·exact out _ _ (To.refl (n0:=st.nodes)) rfl (by simp [node]) (ht _)
 ·exact out _ _ (To.refl (n0:=st.nodes)) rfl (by simp [node]) (ht _)
 ·exact out _ _ (To.refl (n0:=st.nodes)) rfl (by simp [node]) (ht _)
theorem tg_receive (ht:TsOk ts B) {n:ND} (hn:PosOk B n.p∧n.l=[]):TG ts B (.receive n) st (rule ts (.receive n) st):=by
 have k3:∀ (l:List Nat) (m:Int) (s:PS),To B st.nodes [] s.nodes l→TG ts B (.receive n) st (must ts s w_end fun s1=>.done (.d { n with k:=18,n:=m,l }) s1):=fun l m s t=>
  Goes.must ht (.done ⟨t,_,rfl,hn.1,by simp [node]⟩)
 have k4:∀ (l:List Nat) (m:Int) (s:PS),To B st.nodes [] s.nodes l→TG ts B (.receive n) st (must ts (adv (adv s)) w_arrow fun s1=>callN .body s1 fun b s2=>must ts s2 w_end fun s3=>.done (.d { n with k:=18,n:=m,l:=l++[b] }) s3):=by
  intro l m s t
  refine Goes.must ht (Goes.callN trivial (fun v n ⟨i,x,h,_⟩=>⟨i,h⟩) fun b s2 p2=> ?_)
  exact k3 _ _ _ (To.call (st:=adv (adv (adv s))) t rfl p2)
 have k2:∀ (c:Bool) (l:List Nat) (s:PS),To B st.nodes [] s.nodes l→TG ts B (.receive n) st (if isS ts s w_after=true then
    (if ((tk ts (s.at_+1)).k==3&&(tk ts (s.at_+1)).n==0)=true then must ts (adv (adv s)) w_arrow fun s1=>callN .body s1 fun b s2=>must ts s2 w_end fun s3=>.done (.d { n with k:=18,n:=1,l:=l++[b] }) s3
    else if ((tk ts (s.at_+1)).k==1&&seq (tk ts (s.at_+1)).s w_infinity)=true then must ts (adv (adv s)) w_arrow fun s1=>callN .body s1 fun b s2=>must ts s2 w_end fun s3=>.done (.d { n with k:=18,n:=2,l:=l++[b] }) s3 else .fail 24 (tk ts (s.at_+1)).p)
    else if c=true then none1 ts s 19 fun b s1=>must ts s1 w_end fun s2=>.done (.d { n with k:=18,n:=n.n,l:=l++[b] }) s2 else .fail 24 (pos ts s)):=by
  intro c l s t
  refine Goes.ite (fun _=>Goes.ite (fun _=>k4 _ _ _ t) fun _=>Goes.ite (fun _=>k4 _ _ _ t) fun _=>.fail ⟨by decide,ht _⟩) fun _=>Goes.ite (fun _=> ?_) fun _=>.fail ⟨by decide,ht _⟩
  exact tg_none ht (by simp [node]) t fun s' t'=>k3 _ _ _ t'
 refine Goes.ite (fun _=> ?_) fun _=> ?_
 ·exact tg_none ht (by simp [node]) (To.refl (n0:=st.nodes) (h0:=[])) fun s' t'=>k2 false _ _ t'
 ·refine Goes.callN trivial (fun v n h=>h) fun c st1 p1=> ?_
  exact k2 true _ _ (To.call (st:=st) (h1:=[]) To.refl rfl p1)
theorem tg_rule (ht:TsOk ts B):∀ (c:NT) (st:PS),TPre B c st→TG ts B c st (rule ts c st):=by
 intro c st hp
 cases c with
 | module=>exact tg_module ht
 | moduleL s p l=>exact tg_moduleL ht hp
 | function=>exact tg_function ht
 | functionL l p=>exact tg_functionL ht hp
 | named=>exact tg_named ht
 | list e most=>exact tg_list ht
 | some most=>exact tg_some ht
 | someL most l=>exact tg_someL ht
 | exprs=>exact tg_exprs ht
 | tail n l=>exact tg_tail ht hp
 | body=>exact tg_body ht
 | expr=>exact tg_expr ht
 | right x y signs=>exact tg_right ht hp
 | left x signs=>exact tg_left ht hp
 | leftL x signs a p=>exact tg_leftL ht hp
 | either=>exact Goes.pass (c:=.right .both .either [w_orelse]) ⟨trivial,trivial⟩ To.refl fun v n h=>h
 | both=>exact Goes.pass (c:=.right .compare .both [w_andalso]) ⟨trivial,trivial⟩ To.refl fun v n h=>h
 | compare=>exact Goes.pass (c:=.right .append .append [w_eqeq,w_ne,w_le,w_lt,w_ge,w_gt,w_same,w_nsame]) ⟨trivial,trivial⟩ To.refl fun v n h=>h
 | append=>exact Goes.pass (c:=.right .add .append [w_cat]) ⟨trivial,trivial⟩ To.refl fun v n h=>h
 | add=>exact Goes.pass (c:=.left .mul [w_plus,w_minus]) trivial To.refl fun v n h=>h
 | mul=>exact Goes.pass (c:=.left .unary [w_star,w_slash,w_div,w_rem]) trivial To.refl fun v n h=>h
 | unary=>exact Goes.pass (c:=.unaryL []) (fun t h=>by cases h) To.refl fun v n h=>h
 | unaryL signs=>exact tg_unaryL ht hp
 | call=>exact tg_call ht
 | calls a p=>exact tg_calls ht hp
 | primary=>exact tg_primary ht
 | other n=>exact tg_other ht hp
 | elements=>exact tg_elements ht
 | clauses=>exact Goes.pass (c:=.parted .clause) trivial To.refl fun v n h=>h
 | parted x=>exact tg_parted ht hp
 | partedL x l p=>exact tg_partedL ht hp
 | clause=>exact tg_clause ht
 | catches=>exact tg_catches ht
 | fun1=>exact tg_fun1 ht
 | fun_ n=>exact tg_fun ht hp
 | try_ n=>exact tg_try ht hp
 | receive n=>exact tg_receive ht hp
end
end Go.Am.Rl
namespace Go.Am.Rl
open Go.Proofs
def Placed (s:ByteArray) (c:List AVal):Prop:=∃ k t m f i,c=tokC k t m f i∧PosOk s.size i
theorem toks_place {s:ByteArray}:∀ (d i:Nat) (acc:List (List AVal)),s.size - i≤d→i≤s.size→(∀ c ∈ acc,Placed s c)→(∀ e,toks s i acc = .inl e→PosOk s.size e.2)∧∀ l,toks s i acc = .inr l→∀ c ∈ l,Placed s c:=by
 intro d
 induction d with
 | zero=>
  intro i acc hi _ hacc
  rw [toks_end (byte_none (by omega))]
  exact ⟨fun e he=>(by cases he),fun l hl=>by cases hl; exact hacc⟩
 | succ d ih=>
  intro i acc hi hn hacc
  cases hc:s[i]? with
  | none=>
   rw [toks_end hc]
   exact ⟨fun e he=>(by cases he),fun l hl=>by cases hl; exact hacc⟩
  | some c=>
   have hm:=token_made hc (i:Nat)
   cases hk:token s i c.toNat (i:Nat) with
   | inl e=>
    rw [toks_bad hc hk]
    exact ⟨fun e he=>by cases he; exact ⟨Int.natCast_nonneg _,Int.ofNat_le.mpr hn⟩,fun l hl=>(by cases hl)⟩
   | inr p=>
    rw [hk] at hm
    obtain ⟨⟨k,t,m,f,htok⟩,h1,h2⟩:=hm p rfl
    have hp:=pass_le (s:=s) h2
    rw [toks_more hc hk]
    refine ih (pass s p.2) (acc++[p.1]) (by omega) hp.2 fun c hc=> ?_
    rcases List.mem_append.mp hc with hc | hc
    ·exact hacc c hc
    ·rw [List.mem_singleton.mp hc]
     exact ⟨k,t,m,f,_,htok,Int.natCast_nonneg _,Int.ofNat_le.mpr hn⟩
theorem tokens_place (s:ByteArray):(∀ e,tokens s = .inl e→PosOk s.size e.2)∧∀ l,tokens s = .inr l→∀ c ∈ l,Placed s c:=by
 unfold tokens
 split
 ·exact ⟨fun e he=>by cases he; exact ⟨Int.le_refl _,Int.natCast_nonneg _⟩,fun l hl=>(by cases hl)⟩
 ·have hp:=pass_le (s:=s) (i:=0) (Nat.zero_le _)
  obtain ⟨h1,h2⟩:=toks_place (s:=s) _ (pass s 0) [] (Nat.le_refl _) hp.2 (fun c hc=>(by cases hc))
  cases ht:toks s (pass s 0) [] with
  | inl e=>exact ⟨fun e' he=>by cases he; exact h1 _ ht,fun l hl=>(by cases hl)⟩
  | inr l'=>
   refine ⟨fun e' he=>(by cases he),fun l hl=> ?_⟩
   cases hl
   intro c hc
   rcases List.mem_append.mp hc with hc | hc
   ·exact h2 _ ht c hc
   ·rw [List.mem_singleton.mp hc]
    exact ⟨_,_,_,_,_,rfl,Int.natCast_nonneg _,Int.le_refl _⟩
theorem lexT_place (s:ByteArray):TsOk (lexT s) s.size:=by
 intro i
 unfold tk
 rw [List.getD_eq_getElem?_getD]
 cases h:(lexT s)[i]? with
 | none=>exact ⟨Int.le_refl _,Int.natCast_nonneg _⟩
 | some t=>
  have hm:=List.mem_of_getElem? h
  unfold lexT at hm
  obtain ⟨c,hc,rfl⟩:=List.mem_map.mp hm
  cases ht:tokens s with
  | inl e=>rw [ht] at hc; cases hc
  | inr l=>
   rw [ht] at hc
   obtain ⟨k,t,m,f,j,rfl,hj⟩:=(tokens_place s).2 l ht c hc
   exact hj
theorem count_range' (j:Nat):∀ (n b:Nat),(List.range' b n).count j=if b≤j∧j < b+n then 1 else 0
 | 0,b=>by rw [if_neg (by omega)]; rfl
 | n+1,b=>by
  rw [List.range'_succ,List.count_cons,count_range' j n (b+1)]
  by_cases h:b=j
  ·subst h
   rw [if_neg (show ¬ (b+1≤b∧b < b+1+n) by omega),if_pos (show b≤b∧b < b+(n+1) by omega)]; simp
  ·have hb:(b==j)=false:=by simpa using h
   rw [hb,if_neg (show ¬ (false=true) by simp)]
   by_cases h2:b+1≤j∧j < b+1+n
   ·rw [if_pos h2,if_pos (show b≤j∧j < b+(n+1) by omega)]
   ·rw [if_neg h2,if_neg (show ¬ (b≤j∧j < b+(n+1)) by omega)]
structure TreeOk (B:Int) (nodes:List ND) (root:Nat):Prop where
 rt:root+1=nodes.length
 mod:∃ x,nodes[root]? = some x∧x.k=24
 ok:∀ i m,nodes[i]? = some m→NodeOk B 0 nodes i m
 cnt:∀ j,(nodes.flatMap (·.l)).count j=if j < root then 1 else 0
theorem Parses.tree_ok {s:ByteArray} {nodes:List ND} {root:Nat} (h:Parses s (.tree nodes root)):TreeOk s.size nodes root:=by
 rcases h with ⟨e,_,h⟩ | ⟨_,⟨e,p,_,h⟩ | ⟨i,st,ev,h,hi,_⟩⟩
 ·cases h
 ·cases h
 ·cases h
  obtain ⟨⟨_,hw⟩,j,x,hj,hx,hk,hl⟩:=(Goes.ev (tg_rule (lexT_place s)) (c:=.module) (st:=⟨0,0,[]⟩) trivial ev).1 _ _ rfl
  cases hj
  have w:=hw 0 (Wf.nil (s.size:Nat) [])
  refine ⟨hl,⟨x,hx,hk⟩,fun i m hm=>w.ok i m (Nat.zero_le _) hm,fun j=> ?_⟩
  have h1:=w.pm.count_eq j
  rw [List.count_append,count_range'] at h1
  simp only [List.drop_zero,Nat.sub_zero,Nat.zero_add,Nat.zero_le,true_and,refs] at h1
  by_cases hjr:root=j
  ·subst hjr
   rw [if_pos (by omega),List.count_singleton_self] at h1
   rw [if_neg (by omega)]; omega
  ·rw [List.count_singleton,if_neg (by simpa using hjr)] at h1
   by_cases hlt:j < root
   ·rw [if_pos (by omega)] at h1; rw [if_pos hlt]; omega
   ·rw [if_neg (by omega)] at h1; rw [if_neg hlt]; omega
theorem TreeOk.len {B:Int} {nodes:List ND} {root:Nat} (h:TreeOk B nodes root) (i:Nat) (m:ND) (hm:nodes[i]? = some m):m.l.length≤nodes.length:=by
 have hno:=h.ok i m hm
 have hi:=(List.getElem?_eq_some_iff.mp hm).1
 have:=(show m.l.Nodup from hno.so.imp (fun h=>Nat.ne_of_lt h)).length_le_of_subset (l₂:=List.range nodes.length) (fun y hy=>List.mem_range.mpr (by have:=(hno.lo y hy).2; omega))
 simpa using this
theorem Parses.tree_le {s:ByteArray} {nodes:List ND} {root:Nat} (h:Parses s (.tree nodes root)):nodes.length≤16384:=by
 rcases h with ⟨e,_,h⟩ | ⟨_,⟨e,p,_,h⟩ | ⟨i,st,ev,h,hi,hl⟩⟩
 ·cases h
 ·cases h
 ·cases h; exact hl
theorem Parses.flaw_ok {s:ByteArray} {e p:Int} (h:Parses s (.flaw e p)):e≠0∧PosOk s.size p:=by
 rcases h with ⟨e,ht,h⟩ | ⟨_,⟨e,p,ev,h⟩ | ⟨i,st,ev,h,hi,_⟩⟩
 ·cases h
  exact ⟨(tokens_sort s).1 _ ht,(tokens_place s).1 _ ht⟩
 ·cases h
  exact (Goes.ev (tg_rule (lexT_place s)) (c:=.module) (st:=⟨0,0,[]⟩) trivial ev).2 _ _ rfl
 ·cases h
def cnts (n:Nat) (l:List Nat):List Nat:=(List.range n).map fun j=>l.count j
theorem cnts_at {n j:Nat} (l:List Nat) (h:j < n):(cnts n l)[j]? = some (l.count j):=by simp [cnts,h]
theorem cnts_len {n:Nat} {l:List Nat}:(cnts n l).length=n:=by simp [cnts]
theorem cnts_step {n x:Nat} {l:List Nat}:cnts n (l++[x])=(cnts n l).set x (l.count x+1):=by
 apply List.ext_getElem?
 intro j
 rw [List.getElem?_set]
 by_cases hj:j < n
 ·rw [cnts_at _ hj,cnts_at _ hj,List.count_append]
  by_cases hx:x=j
  ·subst hx
   rw [if_pos rfl,if_pos (by rw [cnts_len]; exact hj),List.count_singleton_self]
  ·rw [if_neg hx,List.count_singleton,if_neg (by simpa using hx)]; rfl
 ·have h1:∀ l,(cnts n l)[j]? = none:=fun l=>List.getElem?_eq_none (by rw [cnts_len]; omega)
  rw [h1,h1]
  by_cases hx:x=j
  ·subst hx; rw [if_pos rfl,if_neg (by rw [cnts_len]; exact hj)]
  ·rw [if_neg hx]
theorem cnts_nil {n:Nat}:cnts n []=List.replicate n 0:=by
 apply List.ext_getElem?
 intro j
 by_cases hj:j < n
 ·rw [cnts_at _ hj,List.getElem?_replicate,if_pos hj]; rfl
 ·rw [List.getElem?_eq_none (by rw [cnts_len]; omega),List.getElem?_replicate,if_neg hj]
def met (nodes:List ND) (i:Nat) (m:ND) (k:Nat):List Nat:=(nodes.take i).flatMap (·.l)++m.l.take k
section
variable {nodes:List ND} {i k x:Nat} {m:ND}
theorem met_step (h:m.l[k]? = some x):met nodes i m (k+1)=met nodes i m k++[x]:=by
 unfold met
 rw [List.take_add_one,h,List.append_assoc]; rfl
theorem met_zero:met nodes i m 0=(nodes.take i).flatMap (·.l):=by unfold met; simp
theorem met_end (hm:nodes[i]? = some m):(nodes.take (i+1)).flatMap (·.l)=met nodes i m m.l.length:=by
 unfold met
 rw [List.take_add_one,hm,List.take_length]; simp
theorem met_le (hm:nodes[i]? = some m):(met nodes i m k).count x≤(nodes.flatMap (·.l)).count x:=by
 have h1:nodes=nodes.take i++m::nodes.drop (i+1):=by
  have hi:=(List.getElem?_eq_some_iff.mp hm)
  obtain ⟨hlt,he⟩:=hi
  rw [← he,← List.drop_eq_getElem_cons hlt,List.take_append_drop]
 have h2:(nodes.flatMap (·.l)).count x=((nodes.take i).flatMap (·.l)).count x+(m.l.count x+((nodes.drop (i+1)).flatMap (·.l)).count x):=by
  conv=>lhs; rw [h1]
  rw [List.flatMap_append,List.flatMap_cons,List.count_append,List.count_append]
 unfold met
 rw [h2,List.count_append]
 have h3:(m.l.take k).count x≤m.l.count x:=(List.take_sublist k m.l).count_le x
 omega
end
end Go.Am.Rl
