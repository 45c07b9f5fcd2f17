/- Parts: P1, P2, P3, P4, P5, P6, P7, P8, P9. -/
import Derived.Test.YtcphfgcfmphlfaaDoorVD
import Derived.Test.YtcphfgcfmphlfaaDoorFB
set_option linter.unusedVariables false
set_option linter.unusedSimpArgs false
namespace Go.Am.Rl
open Go.Proofs
abbrev w_catch:ByteArray:=⟨#[99,97,116,99,104]⟩
abbrev w_eq:ByteArray:=⟨#[61]⟩
abbrev w_bang:ByteArray:=⟨#[33]⟩
abbrev w_orelse:ByteArray:=⟨#[111,114,101,108,115,101]⟩
abbrev w_andalso:ByteArray:=⟨#[97,110,100,97,108,115,111]⟩
abbrev w_eqeq:ByteArray:=⟨#[61,61]⟩
abbrev w_ne:ByteArray:=⟨#[47,61]⟩
abbrev w_le:ByteArray:=⟨#[61,60]⟩
abbrev w_lt:ByteArray:=⟨#[60]⟩
abbrev w_ge:ByteArray:=⟨#[62,61]⟩
abbrev w_gt:ByteArray:=⟨#[62]⟩
abbrev w_same:ByteArray:=⟨#[61,58,61]⟩
abbrev w_nsame:ByteArray:=⟨#[61,47,61]⟩
abbrev w_cat:ByteArray:=⟨#[43,43]⟩
abbrev w_plus:ByteArray:=⟨#[43]⟩
abbrev w_minus:ByteArray:=⟨#[45]⟩
abbrev w_star:ByteArray:=⟨#[42]⟩
abbrev w_slash:ByteArray:=⟨#[47]⟩
abbrev w_div:ByteArray:=⟨#[100,105,118]⟩
abbrev w_rem:ByteArray:=⟨#[114,101,109]⟩
abbrev w_not:ByteArray:=⟨#[110,111,116]⟩
abbrev w_lp:ByteArray:=⟨#[40]⟩
abbrev w_rp:ByteArray:=⟨#[41]⟩
abbrev w_lb:ByteArray:=⟨#[123]⟩
abbrev w_rb:ByteArray:=⟨#[125]⟩
abbrev w_lk:ByteArray:=⟨#[91]⟩
abbrev w_rk:ByteArray:=⟨#[93]⟩
abbrev w_comma:ByteArray:=⟨#[44]⟩
abbrev w_semi:ByteArray:=⟨#[59]⟩
abbrev w_dot:ByteArray:=⟨#[46]⟩
abbrev w_arrow:ByteArray:=⟨#[45,62]⟩
abbrev w_bar:ByteArray:=⟨#[124]⟩
abbrev w_colon:ByteArray:=⟨#[58]⟩
abbrev w_end:ByteArray:=⟨#[101,110,100]⟩
abbrev w_of:ByteArray:=⟨#[111,102]⟩
abbrev w_begin:ByteArray:=⟨#[98,101,103,105,110]⟩
abbrev w_case:ByteArray:=⟨#[99,97,115,101]⟩
abbrev w_fun:ByteArray:=⟨#[102,117,110]⟩
abbrev w_try:ByteArray:=⟨#[116,114,121]⟩
abbrev w_receive:ByteArray:=⟨#[114,101,99,101,105,118,101]⟩
abbrev w_after:ByteArray:=⟨#[97,102,116,101,114]⟩
abbrev w_when:ByteArray:=⟨#[119,104,101,110]⟩
abbrev w_module:ByteArray:=⟨#[109,111,100,117,108,101]⟩
abbrev w_under:ByteArray:=⟨#[95]⟩
abbrev w_error:ByteArray:=⟨#[101,114,114,111,114]⟩
abbrev w_exit:ByteArray:=⟨#[101,120,105,116]⟩
abbrev w_throw:ByteArray:=⟨#[116,104,114,111,119]⟩
abbrev w_infinity:ByteArray:=⟨#[105,110,102,105,110,105,116,121]⟩
structure TK where
 k:Int
 s:ByteArray
 n:Int
 f:Nat
 p:Int
structure ND where
 k:Int
 s:ByteArray
 n:Int
 f:Nat
 l:List Nat
 p:Int
structure PS where
 at_:Nat
 deep:Nat
 nodes:List ND
def TK.cells (t:TK):List AVal:=tokC t.k t.s t.n t.f t.p
def tk (ts:List TK) (i:Nat):TK:=ts.getD i ⟨8,⟨#[]⟩,0,0,0⟩
inductive NT where
 | module | moduleL (s:ByteArray) (p:Int) (l:List Nat)
 | function | functionL (l:List Nat) (p:Int) | named
 | list (e:ByteArray) (most:Int) | some (most:Int) | someL (most:Int) (l:List Nat) | exprs
 | tail (n:ND) (l:List Nat) | body | expr
 | right (x y:NT) (signs:List ByteArray) | left (x:NT) (signs:List ByteArray) | leftL (x:NT) (signs:List ByteArray) (a:Nat) (p:Int)
 | either | both | compare | append | add | mul
 | unary | unaryL (signs:List TK) | call | calls (a:Nat) (p:Int)
 | primary | other (n:ND) | elements | clauses | parted (x:NT) | partedL (x:NT) (l:List Nat) (p:Int)
 | clause | catches | fun1 | fun_ (n:ND) | try_ (n:ND) | receive (n:ND)
inductive Val where
 | n (i:Nat)
 | l (x:List Nat)
 | d (x:ND)
 | e (k:Int) (x:List Nat)
inductive IT where
 | done (v:Val) (st:PS)
 | fail (e p:Int)
 | call (c:NT) (st:PS) (k:Val→PS→IT)
inductive Out1 where
 | ok (v:Val) (st:PS)
 | err (e p:Int)
def seq (a b:ByteArray):Bool:=a.toList==b.toList
def adv (st:PS):PS:={ st with at_:=st.at_+1 }
def callN (c:NT) (st:PS) (k:Nat→PS→IT):IT:=.call c st fun v st=>match v with
 | .n i=>k i st
 | _=>.fail 0 0
def callL (c:NT) (st:PS) (k:List Nat→PS→IT):IT:=.call c st fun v st=>match v with
 | .l i=>k i st
 | _=>.fail 0 0
def callD (c:NT) (st:PS) (k:ND→PS→IT):IT:=.call c st fun v st=>match v with
 | .d i=>k i st
 | _=>.fail 0 0
def pass1 (c:NT) (st:PS):IT:=.call c st .done
section
variable (ts:List TK)
def pos (st:PS):Int:=(tk ts st.at_).p
def isS (st:PS) (s:ByteArray):Bool:=((tk ts st.at_).k==6 || (tk ts st.at_).k==7)&&seq (tk ts st.at_).s s
def anyS (st:PS):List ByteArray→ByteArray
 | []=>⟨#[]⟩
 | s::r=>if isS ts st s=true then s else anyS st r
def must (st:PS) (s:ByteArray) (k:PS→IT):IT:=if isS ts st s=true then k (adv st) else .fail 24 (pos ts st)
def kind (st:PS) (d:Int) (k:TK→PS→IT):IT:=if ((tk ts st.at_).k==d)=true then k (tk ts st.at_) (adv st) else .fail 24 (pos ts st)
def lay (st:PS) (n:ND) (k:Nat→PS→IT):IT:=if st.nodes.length=16384 then .fail 2 n.p else k st.nodes.length { st with nodes:=st.nodes++[n] }
def none1 (st:PS) (d:Int) (k:Nat→PS→IT):IT:=lay st ⟨d,⟨#[]⟩,0,0,[],pos ts st⟩ k
def laySigns:List TK→Nat→PS→IT
 | [],a,st=>.done (.n a) st
 | t::r,a,st=>lay st ⟨9,t.s,0,0,[a],t.p⟩ fun b st=>laySigns r b st
def node (k:Int) (l:List Nat) (p:Int):ND:=⟨k,⟨#[]⟩,0,0,l,p⟩
def empty:ByteArray:=⟨#[]⟩
def rule (c:NT) (st:PS):IT:=match c with
 | .module=>must ts st w_minus fun st1=>kind ts st1 1 fun t st2=>if seq t.s w_module=true then must ts st2 w_lp fun st3=>kind ts st3 1 fun u st4=>must ts st4 w_rp fun st5=>must ts st5 w_dot fun st6=>pass1 (.moduleL u.s (pos ts st) []) st6 else .fail 24 t.p
 | .moduleL s p l=>if ((tk ts st.at_).k != 8)=true then callN .function st fun a st1=>pass1 (.moduleL s p (l++[a])) st1 else lay st ⟨24,s,0,0,l,p⟩ fun i st1=>.done (.n i) st1
 | .function=>callN .named st fun a st1=>pass1 (.functionL [a] (pos ts st)) st1
 | .functionL l p=>if isS ts st w_semi=true then callN .named (adv st) fun a st1=>pass1 (.functionL (l++[a]) p) st1 else
   lay st (node 20 l p) fun c st1=>must ts st1 w_dot fun st2=>lay st2 ⟨23,(st.nodes.getD (l.headD 0) (node 0 [] 0)).s,(st.nodes.getD (l.headD 0) (node 0 [] 0)).n,0,[c],p⟩ fun i st3=>.done (.n i) st3
 | .named=>kind ts st 1 fun t st1=>must ts st1 w_lp fun st2=>callL (.list w_rp 16) st2 fun l st3=>pass1 (.tail ⟨21,t.s,0,0,[],t.p⟩ l) st3
 | .list e most=>if isS ts st e=true then .done (.l []) (adv st) else callL (.some most) st fun l st1=>must ts st1 e fun st2=>.done (.l l) st2
 | .some most=>callN .expr st fun a st1=>pass1 (.someL most [a]) st1
 | .someL most l=>if isS ts st w_comma=true then (if (decide (most > 0)&&((l.length:Int)==most))=true then .fail 2 (pos ts (adv st)) else callN .expr (adv st) fun a st1=>pass1 (.someL most (l++[a])) st1) else .done (.l l) st
 | .exprs=>pass1 (.some 0) st
 | .tail n l=>
   let k:Nat→PS→IT:=fun g st=>must ts st w_arrow fun st1=>callN .body st1 fun b st2=>lay st2 { n with n:=(l.length:Nat),l:=l++[g,b] } fun i st3=>.done (.n i) st3
   if isS ts st w_when=true then callL .exprs (adv st) fun g st1=>lay st1 (node 22 g (pos ts (adv st))) k else lay st (node 22 [] (pos ts st)) k
 | .body=>callL .exprs st fun l st1=>lay st1 (node 19 l (pos ts st)) fun i st2=>.done (.n i) st2
 | .expr=>if st.deep=200 then .fail 25 (pos ts st) else
   let out:Nat→PS→IT:=fun i s=>.done (.n i) { s with deep:=s.deep - 1 }
   let st1:PS:={ st with deep:=st.deep+1 }
   if isS ts st1 w_catch=true then callN .expr (adv st1) fun a st2=>lay st2 (node 17 [a] (pos ts st)) out
   else callN .either st1 fun a st2=>
    if seq (anyS ts st2 [w_eq,w_bang]) w_eq=true then callN .expr (adv st2) fun b st3=>lay st3 (node 10 [a,b] (pos ts st)) out
    else if seq (anyS ts st2 [w_eq,w_bang]) w_bang=true then callN .expr (adv st2) fun b st3=>lay st3 ⟨9,anyS ts st2 [w_eq,w_bang],0,0,[a,b],pos ts st⟩ out
    else out a st2
 | .right x y signs=>callN x st fun a st1=>if seq (anyS ts st1 signs) empty=true then .done (.n a) st1 else callN y (adv st1) fun b st2=>lay st2 ⟨9,anyS ts st1 signs,0,0,[a,b],pos ts st⟩ fun i st3=>.done (.n i) st3
 | .left x signs=>callN x st fun a st1=>pass1 (.leftL x signs a (pos ts st)) st1
 | .leftL x signs a p=>if seq (anyS ts st signs) empty=true then .done (.n a) st else callN x (adv st) fun b st1=>lay st1 ⟨9,anyS ts st signs,0,0,[a,b],p⟩ fun c st2=>pass1 (.leftL x signs c p) st2
 | .either=>pass1 (.right .both .either [w_orelse]) st
 | .both=>pass1 (.right .compare .both [w_andalso]) st
 | .compare=>pass1 (.right .append .append [w_eqeq,w_ne,w_le,w_lt,w_ge,w_gt,w_same,w_nsame]) st
 | .append=>pass1 (.right .add .append [w_cat]) st
 | .add=>pass1 (.left .mul [w_plus,w_minus]) st
 | .mul=>pass1 (.left .unary [w_star,w_slash,w_div,w_rem]) st
 | .unary=>pass1 (.unaryL []) st
 | .unaryL signs=>if seq (anyS ts st [w_minus,w_not]) empty=true then callN .call st fun a st1=>laySigns signs.reverse a st1 else pass1 (.unaryL (signs++[tk ts st.at_])) (adv st)
 | .call=>if (((tk ts st.at_).k==1)&&((tk ts (st.at_+1)).k==6)&&seq (tk ts (st.at_+1)).s w_lp)=true then
    callL (.list w_rp 16) (adv (adv st)) fun l st1=>lay st1 ⟨11,(tk ts st.at_).s,0,0,l,pos ts st⟩ fun a st2=>pass1 (.calls a (pos ts st)) st2
   else callN .primary st fun a st1=>pass1 (.calls a (pos ts st)) st1
 | .calls a p=>if isS ts st w_lp=true then callL (.list w_rp 16) (adv st) fun l st1=>lay st1 (node 12 (a::l) p) fun b st2=>pass1 (.calls b p) st2 else .done (.n a) st
 | .primary=>
   let t:=tk ts st.at_
   let out:ND→IT:=fun n=>lay (adv st) n fun i st1=>.done (.n i) st1
   if (t.k==3)=true then out ⟨1,empty,t.n,0,[],t.p⟩
   else if (t.k==4)=true then out ⟨2,empty,0,t.f,[],t.p⟩
   else if (t.k==1)=true then out ⟨3,t.s,0,0,[],t.p⟩
   else if (t.k==2)=true then out ⟨4,t.s,0,0,[],t.p⟩
   else if (t.k==5)=true then out ⟨5,t.s,0,0,[],t.p⟩
   else pass1 (.other (node 0 [] t.p)) st
 | .other n=>
   let s:=anyS ts st [w_lp,w_lb,w_lk,w_begin,w_case,w_fun,w_try,w_receive]
   let out:ND→PS→IT:=fun n s=>lay s n fun i st1=>.done (.n i) st1
   let st1:=adv st
   if seq s empty=true then .fail 24 n.p
   else if seq s w_lp=true then callN .expr st1 fun a st2=>must ts st2 w_rp fun st3=>.done (.n a) st3
   else if seq s w_lb=true then callL (.list w_rb 0) st1 fun l st2=>out { n with k:=6,l } st2
   else if seq s w_lk=true then .call .elements st1 fun v st2=>match v with
    | .e k l=>out { n with k,l } st2
    | _=>.fail 0 0
   else if seq s w_begin=true then callL .exprs st1 fun l st2=>must ts st2 w_end fun st3=>out { n with k:=19,l } st3
   else if seq s w_case=true then callN .expr st1 fun x st2=>must ts st2 w_of fun st3=>callN .clauses st3 fun c st4=>must ts st4 w_end fun st5=>out { n with k:=15,l:=[x,c] } st5
   else if seq s w_fun=true then callD (.fun_ n) st1 fun n st2=>out n st2
   else if seq s w_try=true then callD (.try_ n) st1 fun n st2=>out n st2
   else if seq s w_receive=true then callD (.receive n) st1 fun n st2=>out n st2
   else out n st1
 | .elements=>if isS ts st w_rk=true then .done (.e 7 []) (adv st) else callL .exprs st fun l st1=>
   if isS ts st1 w_bar=true then callN .expr (adv st1) fun a st2=>must ts st2 w_rk fun st3=>.done (.e 8 (l++[a])) st3
   else must ts st1 w_rk fun st3=>.done (.e 7 l) st3
 | .clauses=>pass1 (.parted .clause) st
 | .parted x=>callN x st fun a st1=>pass1 (.partedL x [a] (pos ts st)) st1
 | .partedL x l p=>if isS ts st w_semi=true then callN x (adv st) fun a st1=>pass1 (.partedL x (l++[a]) p) st1 else lay st (node 20 l p) fun i st1=>.done (.n i) st1
 | .clause=>callN .expr st fun a st1=>pass1 (.tail (node 21 [] (pos ts st)) [a]) st1
 | .fun1=>must ts st w_lp fun st1=>callL (.list w_rp 16) st1 fun l st2=>pass1 (.tail (node 21 [] (pos ts st)) l) st2
 | .fun_ n=>if ((tk ts st.at_).k==1)=true then must ts (adv st) w_slash fun st1=>kind ts st1 3 fun t st2=>if t.n > 16 then .fail 2 t.p else .done (.d { n with k:=14,s:=(tk ts st.at_).s,n:=t.n }) st2
   else callN (.parted .fun1) st fun a st1=>must ts st1 w_end fun st2=>.done (.d { n with k:=13,l:=[a] }) st2
 | .try_ n=>
   let k3:List Nat→Int→PS→IT:=fun l m s=>must ts s w_end fun s1=>.done (.d { n with k:=16,n:=m,l }) s1
   let k2:Bool→List Nat→PS→IT:=fun caught l s=>if isS ts s w_after=true then callN .body (adv s) fun b s1=>k3 (l++[b]) 1 s1 else if caught=true then none1 ts s 19 fun b s1=>k3 (l++[b]) n.n s1 else .fail 24 (pos ts s)
   let k1:List Nat→PS→IT:=fun l s=>if isS ts s w_catch=true then callN (.parted .catches) (adv s) fun c s1=>k2 true (l++[c]) s1 else none1 ts s 20 fun c s1=>k2 false (l++[c]) s1
   callN .body st fun b st1=>if isS ts st1 w_of=true then callN .clauses (adv st1) fun c st2=>k1 [b,c] st2 else none1 ts st1 20 fun c st2=>k1 [b,c] st2
 | .catches=>
   let t:=tk ts st.at_
   let out:ND→PS→IT:=fun n s=>lay s n fun k s1=>callN .expr s1 fun a s2=>pass1 (.tail (node 21 [] t.p) [k,a]) s2
   if ((t.k==1 || t.k==2)&&((tk ts (st.at_+1)).k==6)&&seq (tk ts (st.at_+1)).s w_colon)=true then
    (if (t.k==2&&seq t.s w_under)=true then out ⟨4,t.s,0,0,[],t.p⟩ (adv (adv st))
    else if (t.k==1&&((seq t.s w_error || seq t.s w_exit) || seq t.s w_throw))=true then out ⟨3,t.s,0,0,[],t.p⟩ (adv (adv st))
    else .fail 24 t.p)
   else out ⟨3,w_throw,0,0,[],t.p⟩ st
 | .receive n=>
   let k3:List Nat→Int→PS→IT:=fun l m s=>must ts s w_end fun s1=>.done (.d { n with k:=18,n:=m,l }) s1
   let k2:Bool→List Nat→PS→IT:=fun some l s=>if isS ts s w_after=true then
     (let t:=tk ts (s.at_+1)
     let k4:Int→IT:=fun m=>must ts (adv (adv s)) w_arrow fun s1=>callN .body s1 fun b s2=>k3 (l++[b]) m s2
     if (t.k==3&&t.n==0)=true then k4 1 else if (t.k==1&&seq t.s w_infinity)=true then k4 2 else .fail 24 t.p)
    else if some=true then none1 ts s 19 fun b s1=>k3 (l++[b]) n.n s1 else .fail 24 (pos ts s)
   if isS ts st w_after=true then none1 ts st 20 fun c st1=>k2 false [c] st1 else callN .clauses st fun c st1=>k2 true [c] st1
def run:Nat→IT→Option Out1
 | _,.done v st=>some (.ok v st)
 | _,.fail e p=>some (.err e p)
 | 0,.call _ _ _=>none
 | n+1,.call c st k=>match run n (rule ts c st) with
  | none=>none
  | some (.err e p)=>some (.err e p)
  | some (.ok v st1)=>run n (k v st1)
theorem run_more:∀ (n:Nat) (t:IT) (o:Out1),run ts n t=some o→run ts (n+1) t=some o
 | n,.done v st,o,h=>by cases n <;> exact h
 | n,.fail e p,o,h=>by cases n <;> exact h
 | 0,.call c st k,o,h=>by cases h
 | n+1,.call c st k,o,h=>by
  simp only [run] at h
  rw [run]
  cases h1:run ts n (rule ts c st) with
  | none=>rw [h1] at h; cases h
  | some x=>
   rw [h1] at h
   rw [run_more n _ _ h1]
   cases x with
   | err e p=>exact h
   | ok v st1=>exact run_more n _ _ h
theorem run_le {n m:Nat} {t:IT} {o:Out1} (h:run ts n t=some o) (hm:n≤m):run ts m t=some o:=by
 induction hm with
 | refl=>exact h
 | step _ ih=>exact run_more ts _ _ _ ih
def Ev (t:IT) (o:Out1):Prop:=∃ n,run ts n t=some o
variable {ts}
theorem Ev.det {t:IT} {o o':Out1} (h:Ev ts t o) (h':Ev ts t o'):o=o':=by
 obtain ⟨n,h⟩:=h
 obtain ⟨m,h'⟩:=h'
 have h1:=run_le ts h (Nat.le_max_left n m)
 have h2:=run_le ts h' (Nat.le_max_right n m)
 rw [h1] at h2; injection h2
theorem Ev.done {v:Val} {st:PS}:Ev ts (.done v st) (.ok v st):=⟨0,rfl⟩
theorem Ev.fail {e p:Int}:Ev ts (.fail e p) (.err e p):=⟨0,rfl⟩
theorem Ev.call {c:NT} {st st1:PS} {k:Val→PS→IT} {v:Val} {o:Out1} (h:Ev ts (rule ts c st) (.ok v st1)) (h':Ev ts (k v st1) o):Ev ts (.call c st k) o:=by
 obtain ⟨n,h⟩:=h
 obtain ⟨m,h'⟩:=h'
 refine ⟨Nat.max n m+1,?_⟩
 simp only [run]
 rw [run_le ts h (Nat.le_max_left n m)]
 exact run_le ts h' (Nat.le_max_right n m)
theorem Ev.callE {c:NT} {st:PS} {k:Val→PS→IT} {e p:Int} (h:Ev ts (rule ts c st) (.err e p)):Ev ts (.call c st k) (.err e p):=by
 obtain ⟨n,h⟩:=h
 exact ⟨n+1,by simp only [run,h]⟩
theorem Ev.inv {c:NT} {st:PS} {k:Val→PS→IT} {o:Out1} (h:Ev ts (.call c st k) o):(∃ e p,o = .err e p∧Ev ts (rule ts c st) (.err e p))∨∃ v st1,Ev ts (rule ts c st) (.ok v st1)∧Ev ts (k v st1) o:=by
 obtain ⟨n,h⟩:=h
 cases n with
 | zero=>cases h
 | succ n=>
  simp only [run] at h
  cases h1:run ts n (rule ts c st) with
  | none=>rw [h1] at h; cases h
  | some x=>
   rw [h1] at h
   cases x with
   | err e p=>injection h with h; exact .inl ⟨e,p,h.symm,n,h1⟩
   | ok v st1=>exact .inr ⟨v,st1,⟨n,h1⟩,n,h⟩
theorem Ev.pass {c:NT} {st:PS} {o:Out1} (h:Ev ts (rule ts c st) o):Ev ts (pass1 c st) o:=by
 cases o with
 | ok v st1=>exact Ev.call h .done
 | err e p=>exact Ev.callE h
end
end Go.Am.Rl
namespace Go.Am.Rl
open Go.Proofs
def Gro (H H':AHeap):Prop:=H.next≤H'.next∧∀ j,j < H.next→H'.get j=H.get j
theorem Gro.refl (H:AHeap):Gro H H:=⟨Nat.le_refl _,fun _ _=>rfl⟩
theorem Gro.trans {H H1 H2:AHeap} (h:Gro H H1) (k:Gro H1 H2):Gro H H2:=⟨Nat.le_trans h.1 k.1,fun j hj=>(k.2 j (Nat.lt_of_lt_of_le hj h.1)).trans (h.2 j hj)⟩
theorem Gro.push (H:AHeap) (b:ABlk):Gro H (H.push b):=⟨by simp,fun j hj=>by rw [AHeap.get_push,if_neg (by omega)]⟩
theorem Gro.get {H H':AHeap} (h:Gro H H') {i:Nat} {b:ABlk} (hi:H.get i=some b):H'.get i=some b:=(h.2 i (AHeap.get_lt hi)).trans hi
def ndC (v:AVal) (n:ND):List AVal:=[.int .i64 n.k,.str n.s,.int .i64 n.n,.flt .f64 n.f,v,.int .i64 n.p]
def intsC (l:List Nat):List AVal:=l.map fun i=>.int .i64 (i:Nat)
def RowI (H:AHeap) (v:AVal) (l:List Nat):Prop:=(v = .nils∧l=[])∨∃ id c,v = .sl id 0 l.length c∧H.get id=some (.cells 3 (intsC l))
theorem RowI.frame {H H':AHeap} {v:AVal} {l:List Nat} (h:RowI H v l) (hf:∀ j,rid v=some j→H'.get j=H.get j):RowI H' v l:=by
 rcases h with h | ⟨id,c,rfl,h⟩
 ·exact .inl h
 ·exact .inr ⟨id,c,rfl,(hf id rfl).trans h⟩
theorem RowI.lt {H:AHeap} {v:AVal} {l:List Nat} (h:RowI H v l) {j:Nat} (hj:rid v=some j):j < H.next:=by
 rcases h with ⟨rfl,_⟩ | ⟨id,c,rfl,h⟩
 ·cases hj
 ·simp only [rid,Option.some.injEq] at hj; subst hj; exact AHeap.get_lt h
def NodesR (H:AHeap) (pid:Nat) (xn:AVal) (D:Nat→Prop) (nodes:List ND):Prop:=
 ∃ vs:List AVal,vs.length=nodes.length∧Grow H 42 6 xn nodes.length (List.zipWith ndC vs nodes).flatten∧
  ∀ (i:Nat) n v,nodes[i]? = some n→vs[i]? = some v→RowI H v n.l∧∀ j,rid v=some j→D j∧j≠pid∧rid xn≠some j
def PB (ts:List TK) (H:AHeap) (pid:Nat) (st:PS) (D:Nat→Prop) (xt xn:AVal):Prop:=
 H.get pid=some (.cells 61 [xt,.int .i64 (st.at_:Nat),.int .i64 (st.deep:Nat),xn])∧RowT H xt (ts.map TK.cells)∧NodesR H pid xn D st.nodes∧
  (∀ j,rid xt=some j→D j∧j≠pid∧rid xn≠some j)∧∀ j,rid xn=some j→D j∧j≠pid
structure PR (ts:List TK) (H:AHeap) (pid:Nat) (st:PS) (D:Nat→Prop):Prop where
 ex:∃ xt xn,PB ts H pid st D xt xn
 dp:D pid
 dlt:∀ j,D j→j < H.next
 lt:st.at_ < ts.length
 deep:st.deep≤200
 many:st.nodes.length≤16384
structure TOk (ts:List TK):Prop where
 short:ts.length≤70000
 fin:(tk ts (ts.length - 1)).k=8
 mid:∀ i,i+1 < ts.length→(tk ts i).k≠8
theorem RowI.gro {H H':AHeap} {v:AVal} {l:List Nat} (h:RowI H v l) (g:Gro H H'):RowI H' v l:=h.frame fun j hj=>g.2 j (h.lt hj)
theorem NodesR.frame {H H':AHeap} {pid:Nat} {xn:AVal} {D:Nat→Prop} {nodes:List ND} (h:NodesR H pid xn D nodes) (hx:∀ j,rid xn=some j→H'.get j=H.get j) (hf:∀ j,D j→j≠pid→H'.get j=H.get j):NodesR H' pid xn D nodes:=by
 obtain ⟨vs,h1,h2,h3⟩:=h
 exact ⟨vs,h1,h2.frame hx,fun i n v hn hv=>⟨(h3 i n v hn hv).1.frame fun j hj=>hf j ((h3 i n v hn hv).2 j hj).1 ((h3 i n v hn hv).2 j hj).2.1,(h3 i n v hn hv).2⟩⟩
theorem PR.frame {ts:List TK} {H H':AHeap} {pid:Nat} {st:PS} {D:Nat→Prop} (h:PR ts H pid st D) (hn:H.next≤H'.next) (hf:∀ j,D j→H'.get j=H.get j):PR ts H' pid st D:=by
 obtain ⟨⟨xt,xn,h1,h2,h3,h4,h5⟩,h6,h7,h8,h9,h10⟩:=h
 exact ⟨⟨xt,xn,(hf pid h6).trans h1,h2.frame fun j hj=>hf j (h4 j hj).1,h3.frame (fun j hj=>hf j (h5 j hj).1) (fun j hj _=>hf j hj),h4,h5⟩,h6,fun j hj=>Nat.lt_of_lt_of_le (h7 j hj) hn,h8,h9,h10⟩
theorem PR.gro {ts:List TK} {H H':AHeap} {pid:Nat} {st:PS} {D:Nat→Prop} (h:PR ts H pid st D) (g:Gro H H'):PR ts H' pid st D:=h.frame g.1 fun j hj=>g.2 j (h.dlt j hj)
theorem PR.set {ts:List TK} {H:AHeap} {pid:Nat} {st:PS} {D:Nat→Prop} (h:PR ts H pid st D) {i:Nat} {b:ABlk} (hi:¬ D i):PR ts (H.set i b) pid st D:=h.frame (Nat.le_refl _) fun j hj=>by
 rw [AHeap.get_set,if_neg (fun e=>hi (by rw [← e]; exact hj))]
theorem tk_at {ts:List TK} {i:Nat} (h:i < ts.length):(ts.map TK.cells)[i]? = some (tk ts i).cells:=by
 rw [List.getElem?_map,List.getElem?_eq_getElem h]
 simp [tk,List.getD_eq_getElem?_getD,h]
theorem toks_tok (ts:List TK):∀ c ∈ ts.map TK.cells,IsTok c:=by
 intro c hc
 obtain ⟨t,_,rfl⟩:=List.mem_map.mp hc
 exact ⟨_,_,_,_,_,rfl⟩
section
variable {ts:List TK} {H:AHeap} {pid:Nat} {st:PS} {D:Nat→Prop}
theorem g37 (hp:PR ts H pid st D):DCall Tryd.prog 37 [.ptr pid 0] H fun a H'=>a = .agg (tk ts st.at_).cells∧Gro H H':=by
 obtain ⟨⟨xt,xn,hb,ht,_⟩,_,_,hlt,_⟩:=hp
 refine DCall.of_body (fn:=Tryd.f37) (by kernel_rfl) c37 (by kernel_rfl) (by simp [f37]) ?_
 unfold f37
 simp only []
 obtain ⟨H1,hH1,g1,n1,f1⟩:=psh H (.cells 31 tok0)
 have plt:=AHeap.get_lt hb
 have hb1:=(f1 pid plt).trans hb
 have ht1:RowT H1 xt (ts.map TK.cells):=ht.frame fun j hj=>f1 j (ht.lt hj)
 obtain ⟨ix,ax,rx,tx,gx,lx,dx,hc5⟩:=ht1.at (toks_tok ts) (tk_at hlt) H1
 have lax:=load_at gx lx dx hc5
 have l0:=load_cell hb1 (o:=0) (v:=xt) rfl
 have l1:=load_cell hb1 (o:=1) (v:=.int .i64 (st.at_:Nat)) rfl
 have st2:=(res35 g1 rfl (tk ts st.at_).cells rfl rfl).1
 obtain ⟨H2,hH2,g2,n2,f2⟩:=upd g1 (.cells 31 (tk ts st.at_).cells)
 have hz:tok0=[.int .i64 0,.str ⟨#[]⟩,.int .i64 0,.flt .f64 0,.int .i64 0]:=rfl
 refine DR.go rfl ?_
 simp -dsimp only [SZ,EZ,astep,aun,AVal.cells,seval,← hz,← hH1]
 refine DR.nm rfl ?_
 refine DR.draw (by kernel_rfl) d37_1 ?_
 simp -dsimp only [m37_1,SZ,EZ,astep,aun,AVal.cells,seval,DS_nil,DS_cons,seesAll,staysAll,abit,List.getD_cons_zero,List.getD_cons_succ,AOp.quiet,AOp.reads,true_and,and_true,decide_true,decide_false,and_self,l0,l1,ax,lax,st2,← hH2]
 have l2:=load_all (n:=5) g2 rfl
 refine DR.nm rfl ?_
 refine DR.ret ⟨_,by simp [aresult,ares,Env.get,l2] <;> rfl,rfl,by omega,fun j hj=> ?_⟩
 rw [f2 j (by omega),f1 j hj]
end
end Go.Am.Rl
namespace Go.Am.Rl
open Go.Proofs
def flt1 (e p:Int):AVal:=.ifc 26 (.agg [.int .i64 e,.int .i64 p])
def Fr (H:AHeap) (D:Nat→Prop) (H':AHeap) (D':Nat→Prop):Prop:=
 H.next≤H'.next∧(∀ j,j < H.next→¬ D j→H'.get j=H.get j)∧∀ j,D' j→D j∨H.next≤j
theorem Fr.refl (H:AHeap) (D:Nat→Prop):Fr H D H D:=⟨Nat.le_refl _,fun _ _ _=>rfl,fun _ h=>.inl h⟩
theorem Gro.fr {H H':AHeap} (g:Gro H H') (D:Nat→Prop):Fr H D H' D:=⟨g.1,fun j hj _=>g.2 j hj,fun _ h=>.inl h⟩
theorem Fr.trans {H H1 H2:AHeap} {D D1 D2:Nat→Prop} (h:Fr H D H1 D1) (k:Fr H1 D1 H2 D2):Fr H D H2 D2:=by
 have hn:=h.1
 refine ⟨Nat.le_trans h.1 k.1,fun j hj hd=> ?_,fun j hj=> ?_⟩
 ·rw [k.2.1 j (by omega) (fun e=>(h.2.2 j e).elim hd (fun e=>by omega)),h.2.1 j hj hd]
 ·rcases k.2.2 j hj with e | e
  ·exact h.2.2 j e
  ·exact .inr (by omega)
theorem Fr.keep {H H':AHeap} {D D':Nat→Prop} (h:Fr H D H' D') {i:Nat} {b:ABlk} (hi:H.get i=some b) (hd:¬ D i):H'.get i=some b∧¬ D' i:=
 ⟨(h.2.1 i (AHeap.get_lt hi) hd).trans hi,fun e=>(h.2.2 i e).elim hd fun e=>by have:=AHeap.get_lt hi; omega⟩
theorem Fr.own {H H':AHeap} {D D':Nat→Prop} (h:Fr H D H' D') {i:Nat} (hi:H.next≤i) (b:ABlk):Fr H D (H'.set i b) D':=
 ⟨h.1,fun j hj hd=>by rw [AHeap.get_set,if_neg (by omega)]; exact h.2.1 j hj hd,h.2.2⟩
section
variable {ts:List TK} {H:AHeap} {pid:Nat} {st:PS} {D:Nat→Prop}
theorem TOk.next (h:TOk ts) {i:Nat} (hi:i < ts.length) (hk:(tk ts i).k≠8):i+1 < ts.length:=by
 by_cases he:i=ts.length - 1
 ·subst he; exact absurd h.fin hk
 ·omega
theorem PR.step (hp:PR ts H pid st D) (ht:TOk ts) (hk:(tk ts st.at_).k≠8) :
  aload H none (.ptr pid 1)=some (.int .i64 (st.at_:Nat))∧IntKind.i64.wrap ((st.at_:Int)+1)=((st.at_+1:Nat):Int)∧
  ∃ H2,astore H 1 (.ptr pid 1) (.int .i64 ((st.at_+1:Nat):Int))=some H2∧PR ts H2 pid (adv st) D∧Fr H D H2 D:=by
 obtain ⟨⟨xt,xn,hb,htk,hn,hx,ho⟩,h6,h7,hlt,hd,hm⟩:=hp
 have hs:=ht.short
 refine ⟨load_cell hb (o:=1) rfl,wrap64 (n:=st.at_+1) (by omega),H.set pid (.cells 61 [xt,.int .i64 ((st.at_+1:Nat):Int),.int .i64 (st.deep:Nat),xn]),?_,?_,?_⟩
 ·simp only [astore,hb]
  rw [if_pos ⟨rfl,by show 2≤4; omega,rfl⟩]; rfl
 ·have hf:∀ j,j≠pid→(H.set pid (.cells 61 [xt,.int .i64 ((st.at_+1:Nat):Int),.int .i64 (st.deep:Nat),xn])).get j=H.get j:=fun j hj=>by rw [AHeap.get_set,if_neg hj]
  exact ⟨⟨xt,xn,by rw [AHeap.get_set,if_pos rfl,if_pos (AHeap.get_lt hb)]; rfl,htk.frame fun j hj=>hf j (hx j hj).2.1,hn.frame (fun j hj=>hf j (ho j hj).2) (fun j _ hj=>hf j hj),hx,ho⟩,h6,h7,ht.next hlt hk,hd,hm⟩
 ·exact ⟨by simp,fun j hj hjd=>by rw [AHeap.get_set,if_neg (fun e=>hjd (by rw [e]; exact h6))],fun j h=>.inl h⟩
theorem isS_mid {s:ByteArray} (h:isS ts st s=true):(tk ts st.at_).k≠8:=by
 intro e
 unfold isS at h
 rw [e] at h; simp at h
theorem DLeave.pan' {P:Program} {al:List ARes} {T:Env} {H:AHeap} {K:AOut→AHeap→Prop} {v:AVal} (h:K (.pan v) H):DLeave P al [] (.pan v) T H K:=h
theorem g33 (hp:PR ts H pid st D):DCall Tryd.prog 33 [.ptr pid 0] H fun a H'=>a = .int .i64 (pos ts st)∧Gro H H':=by
 refine DCall.of_body (fn:=Tryd.f33) (by kernel_rfl) c33 (by kernel_rfl) (by simp [f33]) ?_
 unfold f33
 simp only []
 have hfl:afld 4 none (.agg (tk ts st.at_).cells)=some (.int .i64 (pos ts st)):=rfl
 refine DR.go rfl ?_
 simp -dsimp only [SZ,EZ,astep,aun,AVal.cells,seval]
 refine DR.go rfl ?_
 simp -dsimp only [SZ,EZ,astep,aun,AVal.cells,seval]
 refine (g37 hp).mono ?_
 rintro a H1 ⟨rfl,h1⟩
 simp -dsimp only [SZ,EZ,astep,aun,AVal.cells,seval]
 simp -dsimp only [SZ,EZ,astep,aun,AVal.cells,seval,hfl]
 refine DR.nm rfl ?_
 exact DR.ret ⟨_,by simp [aresult,ares,Env.get] <;> rfl,rfl,h1⟩
theorem g53 {s:ByteArray} (hp:PR ts H pid st D):DCall Tryd.prog 53 [.ptr pid 0,.str s] H fun a H'=>a = .bool (isS ts st s)∧Gro H H':=by
 refine DCall.of_body (fn:=Tryd.f53) (by kernel_rfl) c53 (by kernel_rfl) (by simp [f53]) ?_
 unfold f53
 simp only []
 refine DR.go rfl ?_
 simp -dsimp only [SZ,EZ,astep,aun,AVal.cells,seval]
 refine DR.go rfl ?_
 simp -dsimp only [SZ,EZ,astep,aun,AVal.cells,seval]
 refine (g37 hp).mono ?_
 rintro a H1 ⟨rfl,h1⟩
 simp -dsimp only [SZ,EZ,astep,aun,AVal.cells,seval]
 obtain ⟨H2,hH2,g2,n2,f2⟩:=psh H1 (.cells 31 tok0)
 have hz:tok0=[.int .i64 0,.str ⟨#[]⟩,.int .i64 0,.flt .f64 0,.int .i64 0]:=rfl
 have st2:=(res35 g2 rfl (tk ts st.at_).cells rfl rfl).1
 obtain ⟨H3,hH3,g3,n3,f3⟩:=upd g2 (.cells 31 (tk ts st.at_).cells)
 have a0:=load_cell g3 (o:=0) (v:=.int .i64 (tk ts st.at_).k) rfl
 have a1:=load_cell g3 (o:=1) (v:=.str (tk ts st.at_).s) rfl
 have h3:Gro H H3:=⟨by have:=h1.1; omega,fun j hj=>by have:=h1.1; rw [f3 j (by omega),f2 j (by omega),h1.2 j hj]⟩
 simp -dsimp only [SZ,EZ,astep,aun,AVal.cells,seval,← hz,← hH2,st2,← hH3]
 unfold isS seq
 cases c1:((tk ts st.at_).k==6) <;> cases c2:((tk ts st.at_).k==7)
 all_goals
  refine DR.go rfl ?_
  simp -dsimp only [SZ,EZ,astep,aun,AVal.cells,seval,a0,a1,abin,c1,c2]
  refine DR.nm rfl ?_
  exact DR.ret ⟨_,by simp [aresult,ares,Env.get] <;> rfl,rfl,h3⟩
theorem g45 {s:ByteArray} (hp:PR ts H pid st D) (ht:TOk ts):DCall Tryd.prog 45 [.ptr pid 0,.str s] H fun a H'=>a = .bool (isS ts st s)∧PR ts H' pid (if isS ts st s=true then adv st else st) D∧Fr H D H' D:=by
 refine DCall.of_body (fn:=Tryd.f45) (by kernel_rfl) c45 (by kernel_rfl) (by simp [f45]) ?_
 unfold f45
 simp only []
 refine DR.go rfl ?_
 simp -dsimp only [SZ,EZ,astep,aun,AVal.cells,seval]
 refine DR.go rfl ?_
 simp -dsimp only [SZ,EZ,astep,aun,AVal.cells,seval]
 refine (g53 (s:=s) hp).mono ?_
 rintro a H1 ⟨rfl,h1⟩
 simp -dsimp only [SZ,EZ,astep,aun,AVal.cells,seval]
 cases hs:isS ts st s with
 | false=>
  refine DR.ye rfl rfl ?_
  refine DR.go rfl ?_
  simp -dsimp only [SZ,EZ,astep,aun,AVal.cells,seval]
  refine DR.nm rfl ?_
  exact DR.ret ⟨_,by simp [aresult,ares,Env.get] <;> rfl,rfl,hp.gro h1,h1.fr _⟩
 | true=>
  obtain ⟨l1,hw,H2,s2,p2,f2⟩:=(hp.gro h1).step ht (isS_mid hs)
  refine DR.ne rfl rfl ?_
  refine DR.go rfl ?_
  simp -dsimp only [SZ,EZ,astep,aun,AVal.cells,seval,l1,abin,hw,s2]
  refine DR.go rfl ?_
  simp -dsimp only [SZ,EZ,astep,aun,AVal.cells,seval]
  refine DR.nm rfl ?_
  exact DR.ret ⟨_,by simp [aresult,ares,Env.get] <;> rfl,rfl,p2,(h1.fr _).trans f2⟩
theorem g36 (H:AHeap) (e p:Int):DCallX Tryd.prog 36 [.int .i64 e,.int .i64 p] H fun o H'=>o = .pan (flt1 e p)∧H'=H:=by
 refine DCallX.of_body (fn:=Tryd.f36) (by kernel_rfl) c36 (by kernel_rfl) (by simp [f36]) ?_
 unfold f36
 simp only []
 have hf:afill [.int .i64 0,.int .i64 0] [(0,1,.int .i64 e),(1,1,.int .i64 p)]=some [.int .i64 e,.int .i64 p]:=rfl
 refine DRX.go rfl ?_
 simp -dsimp only [XZ,SZ,EZ,astep,aun,AVal.cells,seval,Env.parts,hf,DLeave_pan]
 first | exact ⟨rfl,rfl⟩ | rfl
theorem g34 {s:ByteArray} (hp:PR ts H pid st D) (ht:TOk ts):DCallX Tryd.prog 34 [.ptr pid 0,.str s] H fun o H'=>(isS ts st s=true∧o = .ret (.tup [])∧PR ts H' pid (adv st) D∧Fr H D H' D)∨(isS ts st s=false∧o = .pan (flt1 24 (pos ts st))∧PR ts H' pid st D∧Fr H D H' D):=by
 refine DCallX.of_body (fn:=Tryd.f34) (by kernel_rfl) c34 (by kernel_rfl) (by simp [f34]) ?_
 unfold f34
 simp only []
 refine DRX.go rfl ?_
 simp -dsimp only [XZ,SZ,EZ,astep,aun,AVal.cells,seval]
 refine DCall.monoX (g45 (s:=s) hp ht) ?_
 rintro a H1 ⟨rfl,h1,f1⟩
 simp -dsimp only [XZ,SZ,EZ,astep,aun,AVal.cells,seval]
 cases hs:isS ts st s with
 | false=>
  rw [hs] at h1
  rw [if_neg (by simp)] at h1
  refine DRX.ye rfl rfl ?_
  refine DRX.go rfl ?_
  simp -dsimp only [XZ,SZ,EZ,astep,aun,AVal.cells,seval]
  refine DCall.monoX (g33 h1) ?_
  rintro a H2 ⟨rfl,h2⟩
  simp -dsimp only [XZ,SZ,EZ,astep,aun,AVal.cells,seval]
  refine (g36 H2 24 (pos ts st)).mono ?_
  rintro o H3 ⟨rfl,rfl⟩
  exact DLeave.pan' (.inr ⟨rfl,rfl,h1.gro h2,f1.trans (h2.fr _)⟩)
 | true=>
  rw [hs,if_pos rfl] at h1
  refine DRX.ne rfl rfl ?_
  refine DRX.nm rfl ?_
  exact DRX.donev ⟨_,by simp [aresult,ares,Env.get] <;> rfl,.inl ⟨rfl,rfl,h1,f1⟩⟩
theorem g35 {d:Int} (hp:PR ts H pid st D) (ht:TOk ts) (hd:d≠8):DCallX Tryd.prog 35 [.ptr pid 0,.int .i64 d] H fun o H'=>(((tk ts st.at_).k==d)=true∧o = .ret (.agg (tk ts st.at_).cells)∧PR ts H' pid (adv st) D∧Fr H D H' D)∨(((tk ts st.at_).k==d)=false∧o = .pan (flt1 24 (pos ts st))∧PR ts H' pid st D∧Fr H D H' D):=by
 refine DCallX.of_body (fn:=Tryd.f35) (by kernel_rfl) c35 (by kernel_rfl) (by simp [f35]) ?_
 unfold f35
 simp only []
 have hz:tok0=[.int .i64 0,.str ⟨#[]⟩,.int .i64 0,.flt .f64 0,.int .i64 0]:=rfl
 obtain ⟨H0,hH0,g0,n0,f0⟩:=psh H (.cells 31 tok0)
 have k0:Gro H H0:=by rw [hH0]; exact Gro.push _ _
 refine DRX.go rfl ?_
 simp -dsimp only [XZ,SZ,EZ,astep,aun,AVal.cells,seval,← hz,← hH0]
 refine DRX.go rfl ?_
 simp -dsimp only [XZ,SZ,EZ,astep,aun,AVal.cells,seval]
 refine DCall.monoX (g37 (hp.gro k0)) ?_
 rintro a H1 ⟨rfl,h1⟩
 simp -dsimp only [XZ,SZ,EZ,astep,aun,AVal.cells,seval]
 obtain ⟨H2,hH2,g2,n2,f2⟩:=psh H1 (.cells 31 tok0)
 have st2:=(res35 g2 rfl (tk ts st.at_).cells rfl rfl).1
 obtain ⟨H3,hH3,g3,n3,f3⟩:=upd g2 (.cells 31 (tk ts st.at_).cells)
 have a0:=load_cell g3 (o:=0) (v:=.int .i64 (tk ts st.at_).k) rfl
 have a4:=load_cell g3 (o:=4) (v:=.int .i64 (pos ts st)) rfl
 have h1n:=h1.1
 have h3:Gro H0 H3:=⟨by omega,fun j hj=>by rw [f3 j (by omega),f2 j (by omega),h1.2 j hj]⟩
 have p3:=hp.gro (k0.trans h3)
 simp -dsimp only [XZ,SZ,EZ,astep,aun,AVal.cells,seval,← hz,← hH2,st2,← hH3]
 cases hk:((tk ts st.at_).k==d) with
 | false=>
  have hk':((tk ts st.at_).k != d)=true:=by rw [bne,hk]; rfl
  refine DRX.go rfl ?_
  simp -dsimp only [XZ,SZ,EZ,astep,aun,AVal.cells,seval,a0,abin,hk']
  refine DRX.ye rfl rfl ?_
  refine DRX.go rfl ?_
  simp -dsimp only [XZ,SZ,EZ,astep,aun,AVal.cells,seval,a4]
  refine (g36 H3 24 (pos ts st)).mono ?_
  rintro o H4 ⟨rfl,rfl⟩
  exact DLeave.pan' (.inr ⟨rfl,rfl,p3,(k0.trans h3).fr _⟩)
 | true=>
  have hk':((tk ts st.at_).k != d)=false:=by rw [bne,hk]; rfl
  obtain ⟨l1,hw,H4,s4,p4,f4⟩:=p3.step ht (fun e=>hd (by rw [← eq_of_beq hk,e]))
  have nd:∀ j,H.next≤j→¬ D j:=fun j hj e=>by have:=hp.dlt j e; omega
  obtain ⟨g04,d04⟩:=f4.keep ((h3.2 H.next (by omega)).trans g0) (nd _ (Nat.le_refl _))
  obtain ⟨g34,d34⟩:=f4.keep g3 (nd _ (by omega))
  have l5:=load_all (n:=5) g34 rfl
  have st5:=(res35 g04 rfl (tk ts st.at_).cells rfl rfl).1
  obtain ⟨H5,hH5,g5,n5,f5⟩:=upd g04 (.cells 31 (tk ts st.at_).cells)
  have l6:=load_all (n:=5) g5 rfl
  refine DRX.go rfl ?_
  simp -dsimp only [XZ,SZ,EZ,astep,aun,AVal.cells,seval,a0,abin,hk']
  refine DRX.ne rfl rfl ?_
  refine DRX.go rfl ?_
  simp -dsimp only [XZ,SZ,EZ,astep,aun,AVal.cells,seval,l1,abin,hw,s4]
  refine DRX.go rfl ?_
  simp -dsimp only [XZ,SZ,EZ,astep,aun,AVal.cells,seval,l5,st5,← hH5]
  have p5:PR ts H5 pid (adv st) D:=by rw [hH5]; exact p4.set d04
  have f5':Fr H D H5 D:=by rw [hH5]; exact (((k0.trans h3).fr D).trans f4).own (Nat.le_refl _) _
  refine DRX.nm rfl ?_
  exact DRX.retv ⟨_,by simp [aresult,ares,Env.get,l6] <;> rfl,.inl ⟨rfl,rfl,p5,f5'⟩⟩
end
end Go.Am.Rl
namespace Go.Am.Rl
open Go.Proofs
def RowS (H:AHeap) (v:AVal) (l:List ByteArray):Prop:=∃ id c,v = .sl id 0 l.length c∧H.get id=some (.cells 9 (l.map .str))
theorem RowS.gro {H H':AHeap} {v:AVal} {l:List ByteArray} (h:RowS H v l) (g:Gro H H'):RowS H' v l:=by
 obtain ⟨id,c,rfl,h⟩:=h
 exact ⟨id,c,rfl,g.get h⟩
theorem RowS.fr {H H':AHeap} {D D':Nat→Prop} {v:AVal} {l:List ByteArray} (h:RowS H v l) (f:Fr H D H' D') (hd:∀ j,rid v=some j→¬ D j):RowS H' v l∧∀ j,rid v=some j→¬ D' j:=by
 obtain ⟨id,c,rfl,h⟩:=h
 obtain ⟨h1,h2⟩:=f.keep h (hd id rfl)
 exact ⟨⟨id,c,rfl,h1⟩,fun j hj=>by simp only [rid,Option.some.injEq] at hj; subst hj; exact h2⟩
section
variable {ts:List TK} {H:AHeap} {pid:Nat} {st:PS} {D:Nat→Prop}
theorem loop70 {v:AVal} {l:List ByteArray} {k k':List AItem} {Q:Env→AHeap→Prop} (hk:aexitTo 0 k=some k') (hlen:l.length < 1000000) :
  ∀ (d i:Nat) (H1:AHeap),i+d=l.length→PR ts H1 pid st D→RowS H1 v l→Gro H H1→(∀ H2,Gro H H2→Q [(4,.str (anyS ts st (l.drop i)))] H2)→(∀ H2,anyS ts st (l.drop i)=empty→Gro H H2→DR Tryd.prog (kof k70) 18 k' [(0,.ptr pid 0),(7,v),(8,.int .i64 (l.length:Nat)),(9,.int .i64 (l.length:Nat))] H2 Q)→
   DR Tryd.prog (kof k70) 18 (.code l70_0::.inLoop l70_0::k) [(0,.ptr pid 0),(7,v),(8,.int .i64 (l.length:Nat)),(9,.int .i64 (i:Nat))] H1 Q:=by
 intro d
 induction d with
 | zero=>
  intro i H1 hi hp hr hg hret hend
  have hc:decide ((i:Int) < (l.length:Int))=false:=decide_eq_false (by omega)
  obtain rfl:i=l.length:=by omega
  refine DR.go rfl ?_
  simp -dsimp only [SZ,EZ,astep,aun,AVal.cells,seval,abin,hc]
  refine DR.ne rfl rfl ?_
  refine DR.exit (k':=k') (by simpa [aexitTo] using hk) ?_
  exact DR.only [0,7,8,9] (hend H1 (by rw [List.drop_length]; rfl) hg)
 | succ d ih=>
  intro i H1 hi hp hr hg hret hend
  have hc:decide ((i:Int) < (l.length:Int))=true:=decide_eq_true (by omega)
  have hw:IntKind.i64.wrap ((i:Int)+1)=((i+1:Nat):Int):=wrap64 (n:=i+1) (by omega)
  obtain ⟨s,hs⟩:∃ s,l[i]? = some s:=⟨_,List.getElem?_eq_getElem (show i < l.length by omega)⟩
  have hdr:l.drop i=s::l.drop (i+1):=by
   rw [List.drop_eq_getElem_cons (by omega)]
   rw [List.getElem?_eq_getElem (show i < l.length by omega)] at hs; injection hs with hs; rw [hs]
  obtain ⟨id,c,rfl,hb⟩:=hr
  have hix:aiaddr H1 1 (.sl id 0 l.length c) (.int .i64 (i:Nat))=some (.ptr id i):=by
   simp only [aiaddr]
   rw [if_pos (by omega)]; simp
  have hld:=load_cell hb (o:=i) (v:=.str s) (by rw [List.getElem?_map,hs]; rfl)
  refine DR.go rfl ?_
  simp -dsimp only [SZ,EZ,astep,aun,AVal.cells,seval,abin,hc]
  refine DR.ye rfl rfl ?_
  refine DR.go rfl ?_
  simp -dsimp only [SZ,EZ,astep,aun,AVal.cells,seval,hix,hld]
  refine DR.go rfl ?_
  simp -dsimp only [SZ,EZ,astep,aun,AVal.cells,seval]
  refine (g53 (s:=s) hp).mono ?_
  rintro a H2 ⟨rfl,h2⟩
  simp -dsimp only [SZ,EZ,astep,aun,AVal.cells,seval]
  rw [hdr] at hret hend
  simp only [anyS] at hret hend
  cases he:isS ts st s with
  | true=>
   rw [he,if_pos rfl] at hret
   refine DR.ye rfl rfl ?_
   refine DR.go rfl ?_
   simp -dsimp only [SZ,EZ,astep,aun,AVal.cells,seval]
   refine DR.nm rfl ?_
   exact DR.ret (hret H2 (hg.trans h2))
  | false=>
   rw [he,if_neg (by simp)] at hret hend
   refine DR.ne rfl rfl ?_
   refine DR.nm rfl ?_
   refine DR.go rfl ?_
   simp -dsimp only [SZ,EZ,astep,aun,AVal.cells,seval,abin_addI,hw]
   refine DR.nm rfl ?_
   refine DR.inLoop ?_
   exact ih (i+1) H2 (by omega) (hp.gro h2) ⟨id,c,rfl,h2.get hb⟩ (hg.trans h2) hret hend
theorem g70 {v:AVal} {l:List ByteArray} (hp:PR ts H pid st D) (hr:RowS H v l) (hlen:l.length < 1000000):DCall Tryd.prog 70 [.ptr pid 0,v] H fun a H'=>a = .str (anyS ts st l)∧Gro H H':=by
 refine DCall.of_body (fn:=Tryd.f70) (by kernel_rfl) c70 (by kernel_rfl) (by simp [f70]) ?_
 unfold f70
 simp only []
 have hl:∀ H',alenT H' 1 v=some l.length:=by
  intro H'
  obtain ⟨id,c,rfl,_⟩:=hr
  rfl
 refine DR.go rfl ?_
 simp -dsimp only [SZ,EZ,astep,aun,AVal.cells,seval]
 refine DR.go rfl ?_
 simp -dsimp only [SZ,EZ,astep,aun,AVal.cells,seval,hl]
 refine DR.nm rfl ?_
 refine DR.loop ?_
 refine loop70 (H:=H) rfl hlen l.length 0 H (by omega) hp hr (Gro.refl _) (fun H2 h2=>⟨_,by simp [aresult,ares,Env.get] <;> rfl,rfl,h2⟩) ?_
 intro H2 he h2
 rw [List.drop_zero] at he
 refine DR.go rfl ?_
 simp -dsimp only [SZ,EZ,astep,aun,AVal.cells,seval]
 refine DR.nm rfl ?_
 exact DR.ret ⟨_,by simp [aresult,ares,Env.get] <;> rfl,by rw [he]; rfl,h2⟩
theorem ones_nd {H:AHeap} {v:AVal} {l:List Nat} (h:RowI H v l) (n:ND):ones (ndC v n)=true:=by
 rcases h with ⟨rfl,_⟩ | ⟨id,c,rfl,_⟩ <;> rfl
theorem g39 {v:AVal} {n:ND} (hp:PR ts H pid st D) (hv:RowI H v n.l) (hvd:∀ j,rid v=some j→¬ D j):DCallX Tryd.prog 39 [.ptr pid 0,.agg (ndC v n)] H fun o H'=>
  (st.nodes.length=16384∧o = .pan (flt1 2 n.p)∧PR ts H' pid st D∧Fr H D H' D)∨
  (st.nodes.length≠16384∧o = .ret (.int .i64 (st.nodes.length:Nat))∧∃ D',PR ts H' pid { st with nodes:=st.nodes++[n] } D'∧H.next≤H'.next∧(∀ j,j < H.next→¬ D j→H'.get j=H.get j)∧∀ j,D' j→D j∨rid v=some j∨H.next≤j):=by
 refine DCallX.of_body (fn:=Tryd.f39) (by kernel_rfl) c39 (by kernel_rfl) (by simp [f39]) ?_
 unfold f39
 simp only []
 obtain ⟨H1,hH1,g1,n1,f1⟩:=psh H (.cells 42 (ndC v n))
 have k1:Gro H H1:=by rw [hH1]; exact Gro.push _ _
 obtain ⟨⟨xt,xn,hb,htk,⟨vs,hvs,hgr,hrow⟩,hx,ho⟩,hdp,hdl,hlt,hd,hm⟩:=hp
 have plt:=AHeap.get_lt hb
 have b1:=k1.get hb
 have l1:=load_cell b1 (o:=3) (v:=xn) rfl
 have hlen:∀ H',alenT H' 1 xn=some st.nodes.length:=fun H'=>hgr.alenT
 have hcc:(AVal.agg (ndC v n)).cells=ndC v n:=rfl
 have lp:=load_cell g1 (o:=5) (v:=.int .i64 n.p) rfl
 refine DRX.go rfl ?_
 simp -dsimp only [XZ,SZ,EZ,astep,aun,AVal.cells,seval,hcc,← hH1]
 have hp1:PR ts H1 pid st D:=PR.gro ⟨⟨xt,xn,hb,htk,⟨vs,hvs,hgr,hrow⟩,hx,ho⟩,hdp,hdl,hlt,hd,hm⟩ k1
 cases hc:((st.nodes.length:Int)==16384) with
 | true=>
  have hc':st.nodes.length=16384:=by have:=eq_of_beq hc; omega
  refine DRX.go rfl ?_
  simp -dsimp only [XZ,SZ,EZ,astep,aun,AVal.cells,seval,l1,hlen,abin,hc]
  refine DRX.ye rfl rfl ?_
  refine DRX.go rfl ?_
  simp -dsimp only [XZ,SZ,EZ,astep,aun,AVal.cells,seval,lp]
  refine (g36 H1 2 n.p).mono ?_
  rintro o H2 ⟨rfl,rfl⟩
  exact DLeave.pan' (.inl ⟨hc',rfl,hp1,k1.fr D⟩)
 | false=>
  have hc':st.nodes.length≠16384:=fun e=>by rw [e] at hc; exact absurd hc (by decide)
  obtain ⟨H2,hH2,g2,n2,f2⟩:=psh H1 (.cells 42 (ndC v n))
  have k2:Gro H1 H2:=by rw [hH2]; exact Gro.push _ _
  have hgr2:Grow H2 42 6 xn st.nodes.length (List.zipWith ndC vs st.nodes).flatten:=(hgr.frame fun id hid=>k1.2 id (hgr.lt hid)).frame fun id hid=>k2.2 id (Nat.lt_of_lt_of_le (hgr.lt hid) k1.1)
  obtain ⟨x',H3,ha,hgr3,hn3,f3,hx3⟩:=hgr2.one g2 (by rfl) (ones_nd hv n) (by omega) (b:=72) (by omega) (by omega)
  have l2:=load_cell (k2.get b1) (o:=3) (v:=xn) rfl
  have l6:=load_all (n:=6) g1 rfl
  have hfill:afill [.int .i64 0,.str ⟨#[]⟩,.int .i64 0,.flt .f64 0,.nils,.int .i64 0] [(0,6,.agg (ndC v n))]=some (ndC v n):=rfl
  have b3:H3.get pid=some (.cells 61 [xt,.int .i64 (st.at_:Nat),.int .i64 (st.deep:Nat),xn]):=by
   rw [f3 pid (by omega) (fun e=>(ho pid e).2 rfl)]; exact k2.get b1
  have s3:astore H3 1 (.ptr pid 3) x'=some (H3.set pid (.cells 61 [xt,.int .i64 (st.at_:Nat),.int .i64 (st.deep:Nat),x'])):=by
   obtain ⟨_,⟨rfl,e⟩ | ⟨i',rfl,_⟩⟩:=hgr3
   ·omega
   ·simp only [astore,b3]
    rw [if_pos ⟨rfl,by show 4≤4; omega,rfl⟩]; rfl
  obtain ⟨H4,hH4,g4,n4,f4⟩:=upd b3 (.cells 61 [xt,.int .i64 (st.at_:Nat),.int .i64 (st.deep:Nat),x'])
  have l4:=load_cell g4 (o:=3) (v:=x') rfl
  have hlen4:∀ H',alenT H' 1 x'=some (st.nodes.length+1):=fun H'=>hgr3.alenT
  have hw:IntKind.i64.wrap (((st.nodes.length+1:Nat):Int) - 1)=((st.nodes.length:Nat):Int):=by
   rw [show (((st.nodes.length+1:Nat):Int) - 1)=((st.nodes.length:Nat):Int) by omega]
   exact wrap64 (by omega)
  have keep:∀ j,j < H.next→¬ (rid xn=some j)→j≠pid→H4.get j=H.get j:=fun j hj h1 h2=>by
   rw [f4 j h2,f3 j (by omega) h1,f2 j (by omega),f1 j hj]
  have hvs':(List.zipWith ndC vs st.nodes).flatten++ndC v n=(List.zipWith ndC (vs++[v]) (st.nodes++[n])).flatten:=by
   rw [List.zipWith_append hvs]; simp
  have hp4:PR ts H4 pid { st with nodes:=st.nodes++[n] } (fun j=>D j∨rid v=some j∨(H.next≤j∧j < H4.next)):=by
   have x3:∀ j,rid x'=some j→H.next≤j∧j < H4.next:=fun j hj=>by have:=hx3 j hj; have:=hgr3.lt hj; omega
   refine ⟨⟨xt,x',g4,htk.frame fun j hj=>keep j (hdl j (hx j hj).1) (hx j hj).2.2 (hx j hj).2.1,⟨vs++[v],by simp [hvs],?_,fun i m u hi hu=> ?_⟩,fun j hj=>⟨.inl (hx j hj).1,(hx j hj).2.1,fun e=>by have:=x3 j e; have:=hdl j (hx j hj).1; omega⟩,fun j hj=>⟨.inr (.inr (x3 j hj)),by have:=x3 j hj; omega⟩⟩,.inl hdp,fun j hj=> ?_,hlt,hd,by simp; omega⟩
   ·rw [← hvs',List.length_append,List.length_singleton]
    exact hgr3.frame fun id hid=>f4 id (by have:=x3 id hid; omega)
   ·rcases Nat.lt_or_ge i st.nodes.length with hlt' | hge
    ·rw [List.getElem?_append_left hlt'] at hi
     rw [List.getElem?_append_left (by omega)] at hu
     obtain ⟨r1,r2⟩:=hrow i m u hi hu
     exact ⟨r1.frame fun j hj=>keep j (hdl j (r2 j hj).1) (r2 j hj).2.2 (r2 j hj).2.1,fun j hj=>⟨.inl (r2 j hj).1,(r2 j hj).2.1,fun e=>by have:=x3 j e; have:=hdl j (r2 j hj).1; omega⟩⟩
    ·have hi':=(List.getElem?_eq_some_iff.mp hi).1
     rw [List.length_append,List.length_singleton] at hi'
     obtain rfl:i=st.nodes.length:=by omega
     rw [List.getElem?_append_right (Nat.le_refl _),Nat.sub_self] at hi
     rw [List.getElem?_append_right (by omega),hvs,Nat.sub_self] at hu
     injection hi with hi; injection hu with hu; subst hi; subst hu
     have nv:∀ j,rid v=some j→j≠pid∧rid xn≠some j:=fun j hj=>⟨fun e=>hvd j hj (by rw [e]; exact hdp),fun e=>hvd j hj (ho j e).1⟩
     exact ⟨hv.frame fun j hj=>keep j (hv.lt hj) (nv j hj).2 (nv j hj).1,fun j hj=>⟨.inr (.inl hj),(nv j hj).1,fun e=>by have:=x3 j e; have:=hv.lt hj; omega⟩⟩
   ·rcases hj with h | h | h
    ·have:=hdl j h; omega
    ·have:=hv.lt h; omega
    ·exact h.2
  refine DRX.go rfl ?_
  simp -dsimp only [XZ,SZ,EZ,astep,aun,AVal.cells,seval,l1,hlen,abin,hc]
  refine DRX.ne rfl rfl ?_
  refine DRX.nm rfl ?_
  refine DRX.draw (by kernel_rfl) d39_3 ?_
  simp -dsimp only [m39_3,YZ,XZ,SZ,EZ,astep,aun,AVal.cells,seval,DS_nil,DS_cons,seesAll,staysAll,abit,List.getD_cons_zero,List.getD_cons_succ,AOp.quiet,AOp.reads,true_and,and_true,decide_true,decide_false,and_self,l1,l2,l6,Env.parts,hfill,← hH2,ha,s3,← hH4]
  refine DRX.go rfl ?_
  simp -dsimp only [XZ,SZ,EZ,astep,aun,AVal.cells,seval,l4,hlen4,abin,hw]
  refine DRX.nm rfl ?_
  exact DRX.retv ⟨_,by simp [aresult,ares,Env.get] <;> rfl,.inr ⟨hc',rfl,_,hp4,by omega,fun j hj hjd=>keep j hj (fun e=>hjd (ho j e).1) (fun e=>hjd (by rw [e]; exact hdp)),fun j hj=>hj.imp id (Or.imp id And.left)⟩⟩
end
end Go.Am.Rl
namespace Go.Am.Rl
open Go.Proofs
section
variable {ts:List TK}
theorem Ev.t {c:Bool} {A B:IT} {o:Out1} (hc:c=true) (h:Ev ts A o):Ev ts (if c=true then A else B) o:=by rw [if_pos hc]; exact h
theorem Ev.f {c:Bool} {A B:IT} {o:Out1} (hc:c=false) (h:Ev ts B o):Ev ts (if c=true then A else B) o:=by rw [if_neg (by rw [hc]; simp)]; exact h
theorem Ev.must {st:PS} {s:ByteArray} {k:PS→IT} {o:Out1} (hs:isS ts st s=true) (h:Ev ts (k (adv st)) o):Ev ts (must ts st s k) o:=Ev.t hs h
theorem Ev.mustE {st:PS} {s:ByteArray} {k:PS→IT} (hs:isS ts st s=false):Ev ts (Rl.must ts st s k) (.err 24 (pos ts st)):=Ev.f hs .fail
theorem Ev.kind {st:PS} {d:Int} {k:TK→PS→IT} {o:Out1} (hs:((tk ts st.at_).k==d)=true) (h:Ev ts (k (tk ts st.at_) (adv st)) o):Ev ts (kind ts st d k) o:=Ev.t hs h
theorem Ev.kindE {st:PS} {d:Int} {k:TK→PS→IT} (hs:((tk ts st.at_).k==d)=false):Ev ts (Rl.kind ts st d k) (.err 24 (pos ts st)):=Ev.f hs .fail
theorem Ev.lay {st:PS} {n:ND} {k:Nat→PS→IT} {o:Out1} (hs:st.nodes.length≠16384) (h:Ev ts (k st.nodes.length { st with nodes:=st.nodes++[n] }) o):Ev ts (lay st n k) o:=by unfold Rl.lay; rw [if_neg hs]; exact h
theorem Ev.layE {st:PS} {n:ND} {k:Nat→PS→IT} (hs:st.nodes.length=16384):Ev ts (Rl.lay st n k) (.err 2 n.p):=by unfold Rl.lay; rw [if_pos hs]; exact .fail
theorem anyS_mid {st:PS}:∀ {l:List ByteArray},seq (anyS ts st l) empty=false→(tk ts st.at_).k≠8
 | [],h=>by simp [anyS,seq,empty] at h
 | s::r,h=>by
  simp only [anyS] at h
  split at h
  ·rename_i hs; exact isS_mid hs
  ·exact anyS_mid h
end
def rem (ts:List TK) (st:PS):Nat:=ts.length - st.at_
def Bad (ts:List TK) (pid:Nat) (H:AHeap) (D:Nat→Prop) (st:PS) (e p:Int) (o:AOut) (H':AHeap):Prop:=
 o = .pan (flt1 e p)∧∃ st' D',PR ts H' pid st' D'∧st'.deep=st.deep∧Fr H D H' D'
structure Good1 (ts:List TK) (pid:Nat) (H:AHeap) (D:Nat→Prop) (st st':PS) (H':AHeap) (D':Nat→Prop):Prop where
 pr:PR ts H' pid st' D'
 deep:st'.deep=st.deep
 at_:st.at_≤st'.at_
 fr:Fr H D H' D'
 nds:st.nodes.length≤st'.nodes.length
theorem Good1.refl {ts:List TK} {pid:Nat} {H:AHeap} {D:Nat→Prop} {st:PS} (h:PR ts H pid st D):Good1 ts pid H D st st H D:=⟨h,rfl,Nat.le_refl _,Fr.refl _ _,Nat.le_refl _⟩
theorem Good1.trans {ts:List TK} {pid:Nat} {H H1 H2:AHeap} {D D1 D2:Nat→Prop} {st st1 st2:PS} (h:Good1 ts pid H D st st1 H1 D1) (k:Good1 ts pid H1 D1 st1 st2 H2 D2):Good1 ts pid H D st st2 H2 D2:=
 ⟨k.pr,k.deep.trans h.deep,Nat.le_trans h.at_ k.at_,h.fr.trans k.fr,Nat.le_trans h.nds k.nds⟩
theorem Good1.gro {ts:List TK} {pid:Nat} {H H1 H2:AHeap} {D D1:Nat→Prop} {st st1:PS} (h:Good1 ts pid H D st st1 H1 D1) (g:Gro H1 H2):Good1 ts pid H D st st1 H2 D1:=
 ⟨h.pr.gro g,h.deep,h.at_,h.fr.trans (g.fr _),h.nds⟩
theorem Good1.adv {ts:List TK} {pid:Nat} {H H1 H2:AHeap} {D D1:Nat→Prop} {st st1:PS} (h:Good1 ts pid H D st st1 H1 D1) (p:PR ts H2 pid (adv st1) D1) (f:Fr H1 D1 H2 D1):Good1 ts pid H D st (adv st1) H2 D1:=
 ⟨p,h.deep,Nat.le_trans h.at_ (Nat.le_succ _),h.fr.trans f,h.nds⟩
theorem Good1.bad {ts:List TK} {pid:Nat} {H H1 H2:AHeap} {D D1:Nat→Prop} {st st1:PS} {e p:Int} {o:AOut} (h:Good1 ts pid H D st st1 H1 D1) (b:Bad ts pid H1 D1 st1 e p o H2):Bad ts pid H D st e p o H2:=by
 obtain ⟨b1,st2,D2,b2,b3,b4⟩:=b
 exact ⟨b1,st2,D2,b2,b3.trans h.deep,h.fr.trans b4⟩
theorem Good1.lay {ts:List TK} {pid:Nat} {H H1 H2:AHeap} {D D1 D2:Nat→Prop} {st st1:PS} {v:AVal} {n:ND} (h:Good1 ts pid H D st st1 H1 D1) (hv:∀ j,rid v=some j→H.next≤j) (p:PR ts H2 pid { st1 with nodes:=st1.nodes++[n] } D2) (f1:H1.next≤H2.next) (f2:∀ j,j < H1.next→¬ D1 j→H2.get j=H1.get j) (f3:∀ j,D2 j→D1 j∨rid v=some j∨H1.next≤j) :
  Good1 ts pid H D st { st1 with nodes:=st1.nodes++[n] } H2 D2:=by
 have g:=h.fr
 have gn:=g.1
 refine ⟨p,h.deep,h.at_,⟨by omega,fun j hj hd=> ?_,fun j hj=> ?_⟩,by have:=h.nds; simp; omega⟩
 ·rw [f2 j (by omega) (fun e=>(g.2.2 j e).elim hd (by omega)),g.2.1 j hj hd]
 ·rcases f3 j hj with e | e | e
  ·exact g.2.2 j e
  ·exact .inr (hv j e)
  ·exact .inr (by omega)
def PostN (ts:List TK) (pid:Nat) (H:AHeap) (D:Nat→Prop) (st:PS) (t:IT) (o:AOut) (H':AHeap):Prop:=
 (∃ e p,Ev ts t (.err e p)∧Bad ts pid H D st e p o H')∨
 ∃ i st' D',Ev ts t (.ok (.n i) st')∧o = .ret (.int .i64 (i:Nat))∧i < st'.nodes.length∧Good1 ts pid H D st st' H' D'
def CN (ts:List TK) (pid:Nat) (f:FuncId) (args:List AVal) (c:NT) (st:PS):Prop:=∀ H D,PR ts H pid st D→DCallX Tryd.prog f args H (PostN ts pid H D st (rule ts c st))
section
variable {ts:List TK} {H:AHeap} {pid:Nat} {st:PS} {D:Nat→Prop}
theorem row2v {H:AHeap} {x:List Nat} (hx:x≠[]) {H':AHeap} (h:H.push (.cells 3 (intsC x))=H'):RowI H' (.sl H.next 0 x.length (some x.length)) x∧Gro H H':=by
 subst h
 exact ⟨.inr ⟨H.next,_,rfl,by rw [AHeap.get_push,if_pos rfl]⟩,Gro.push _ _⟩
theorem Good1.fresh {H0:AHeap} {D0:Nat→Prop} {st0:PS} (g:Good1 ts pid H0 D0 st0 st H D) {n c:Nat} (hn:H.next≤n):(∀ j,rid (.sl n 0 c (some c))=some j→H0.next≤j)∧∀ j,rid (.sl n 0 c (some c))=some j→¬ D j:=by
 have:=g.fr.1
 refine ⟨fun j hj=> ?_,fun j hj e=> ?_⟩
 ·simp only [rid,Option.some.injEq] at hj; omega
 ·simp only [rid,Option.some.injEq] at hj
  have:=g.pr.dlt j e; omega
theorem g71 {x y:NT} {fx fy:FuncId} {signs:List ByteArray} {sv:AVal} (ht:TOk ts) (hs:signs.length < 1000000) (hx:CN ts pid fx [.ptr pid 0] x st) (hy:∀ st',rem ts st' < rem ts st→CN ts pid fy [.ptr pid 0] y st') (hp:PR ts H pid st D) (hsv:RowS H sv signs) (hsd:∀ j,rid sv=some j→¬ D j) :
  DCallX Tryd.prog 71 [.ptr pid 0,.fn (.func fx) [.ptr pid 0] [],.fn (.func fy) [.ptr pid 0] [],sv] H (PostN ts pid H D st (rule ts (.right x y signs) st)):=by
 refine DCallX.of_body (fn:=Tryd.f71) (by kernel_rfl) c71 (by kernel_rfl) (by simp [f71]) ?_
 unfold f71
 simp only []
 have q0:=Good1.refl hp
 have w0:=fun o (h:Ev ts (rule ts (.right x y signs) st) o)=>h
 refine DRX.go rfl ?_
 simp -dsimp only [XZ,SZ,EZ,astep,aun,AVal.cells,seval]
 refine DRX.go rfl ?_
 simp -dsimp only [XZ,SZ,EZ,astep,aun,AVal.cells,seval]
 refine DCall.monoX (g33 q0.pr) ?_
 rintro a H1 ⟨rfl,h1⟩
 simp -dsimp only [XZ,SZ,EZ,astep,aun,AVal.cells,seval]
 have q1:=q0.gro h1
 have w1:=w0
 refine DRX.go rfl ?_
 simp -dsimp only [XZ,SZ,EZ,astep,aun,AVal.cells,seval,LZ]
 refine (hx _ _ q1.pr).mono ?_
 rintro o H2 (⟨e,p,ev2,rfl,b⟩ | ⟨a2,s2,D2,ev2,rfl,ha2,g2⟩)
 ·exact DLeave.pan' (.inl ⟨e,p,w1 _ (Ev.callE ev2),q1.bad ⟨rfl,b⟩⟩)
 have q2:=q1.trans g2
 have w2:=fun o h=>w1 o (Ev.call ev2 h)
 simp -dsimp only [XZ,SZ,EZ,astep,aun,AVal.cells,seval]
 obtain ⟨hsv2,hsd2⟩:=(hsv.gro h1).fr g2.fr hsd
 refine DRX.go rfl ?_
 simp -dsimp only [XZ,SZ,EZ,astep,aun,AVal.cells,seval]
 refine DCall.monoX (g70 q2.pr hsv2 hs) ?_
 rintro a H3 ⟨rfl,h3⟩
 simp -dsimp only [XZ,SZ,EZ,astep,aun,AVal.cells,seval]
 have q3:=q2.gro h3
 have w3:=w2
 cases hc:seq (anyS ts s2 signs) empty with
 | true=>
  have hc':((anyS ts s2 signs).toList==(⟨#[]⟩:ByteArray).toList)=true:=hc
  refine DRX.go rfl ?_
  simp -dsimp only [XZ,SZ,EZ,astep,aun,AVal.cells,seval,abin,hc']
  refine DRX.ye rfl rfl ?_
  refine DRX.go rfl ?_
  simp -dsimp only [XZ,SZ,EZ,astep,aun,AVal.cells,seval]
  refine DRX.nm rfl ?_
  exact DRX.retv ⟨_,by simp [aresult,ares,Env.get] <;> rfl,.inr ⟨a2,s2,D2,w3 _ (Ev.t hc .done),rfl,ha2,q3⟩⟩
 | false=>
  have hc':((anyS ts s2 signs).toList==(⟨#[]⟩:ByteArray).toList)=false:=hc
  have w3:=fun o h=>w3 o (Ev.f hc h)
  refine DRX.go rfl ?_
  simp -dsimp only [XZ,SZ,EZ,astep,aun,AVal.cells,seval,abin,hc']
  refine DRX.ne rfl rfl ?_
  obtain ⟨l4,hw4,H4,e4,p4,f4⟩:=q3.pr.step ht (anyS_mid hc)
  have q4:=q3.adv p4 f4
  have w4:=w3
  refine DRX.go rfl ?_
  simp -dsimp only [XZ,SZ,EZ,astep,aun,AVal.cells,seval,l4,abin,hw4,e4]
  refine DRX.go rfl ?_
  simp -dsimp only [XZ,SZ,EZ,astep,aun,AVal.cells,seval,LZ]
  have hr4:rem ts (adv s2) < rem ts st:=by
   have h1:s2.at_+1 < ts.length:=q4.pr.lt
   have:=q3.at_
   show ts.length - (s2.at_+1) < ts.length - st.at_
   omega
  refine (hy _ hr4 _ _ q4.pr).mono ?_
  rintro o H5 (⟨e,p,ev5,rfl,b⟩ | ⟨a5,s5,D5,ev5,rfl,ha5,g5⟩)
  ·exact DLeave.pan' (.inl ⟨e,p,w4 _ (Ev.callE ev5),q4.bad ⟨rfl,b⟩⟩)
  have q5:=q4.trans g5
  have w5:=fun o h=>w4 o (Ev.call ev5 h)
  simp -dsimp only [XZ,SZ,EZ,astep,aun,AVal.cells,seval]
  obtain ⟨H6,e6⟩:∃ H6,H5.push (.cells 3 [.int .i64 (a2:Nat),.int .i64 (a5:Nat)])=H6:=⟨_,rfl⟩
  obtain ⟨hr6,k6⟩:=row2v (x:=[a2,a5]) (by simp) e6
  have hf1:afill [.int .i64 0,.int .i64 0] [(0,1,.int .i64 (a2:Nat)),(1,1,.int .i64 (a5:Nat))]=some [.int .i64 (a2:Nat),.int .i64 (a5:Nat)]:=rfl
  have hf2:afill [.int .i64 0,.str ⟨#[]⟩,.int .i64 0,.flt .f64 0,.nils,.int .i64 0] [(0,1,.int .i64 9),(1,1,.str (anyS ts s2 signs)),(4,1,.sl H5.next 0 2 (some 2)),(5,1,.int .i64 (pos ts st))]=some (ndC (.sl H5.next 0 2 (some 2)) ⟨9,anyS ts s2 signs,0,0,[a2,a5],pos ts st⟩):=rfl
  have q6:=q5.gro k6
  have w6:=w5
  simp -dsimp only [XZ,SZ,EZ,astep,aun,AVal.cells,seval,Env.parts,hf1,e6,hf2]
  refine (g39 (v:=.sl H5.next 0 2 (some 2)) (n:=⟨9,anyS ts s2 signs,0,0,[a2,a5],pos ts st⟩) q6.pr (hr6) (q5.fresh (c:=2) (Nat.le_refl _)).2).mono ?_
  rintro o H7 (⟨m7,rfl,p7,f7⟩ | ⟨m7,rfl,D7,p7,n7,f7,d7⟩)
  ·exact DLeave.pan' (.inl ⟨2,_,w6 _ (Ev.layE m7),q6.bad ⟨rfl,_,_,p7,rfl,f7⟩⟩)
  have q7:=q6.lay (q5.fresh (c:=2) (Nat.le_refl _)).1 p7 n7 f7 d7
  have w7:=fun o h=>w6 o (Ev.lay m7 h)
  simp -dsimp only [XZ,SZ,EZ,astep,aun,AVal.cells,seval]
  refine DRX.nm rfl ?_
  exact DRX.retv ⟨_,by simp [aresult,ares,Env.get] <;> rfl,.inr ⟨_,_,D7,w7 _ .done,rfl,by simp,q7⟩⟩
end
end Go.Am.Rl
namespace Go.Am
theorem DRX.only {P:Program} {ks:Keeps} {nt:Nat} {k:List AItem} {ds:List ADef} {T:Env} {H:AHeap} {Q:AEnd→List ADef→Env→AHeap→Prop} (l:List Nat) (h:DRX P ks nt k ds (T.keep l) H Q):DRX P ks nt k ds T H Q:=
 h.lift fun K h items hc w ro μ a hg hT hs hd b cs=>h items hc w ro μ a hg (hT.keep l) hs hd b cs
end Go.Am
namespace Go.Am.Rl
open Go.Proofs
section
variable {ts:List TK} {H:AHeap} {pid:Nat} {st:PS} {D:Nat→Prop}
theorem loop76 {x:NT} {fx:FuncId} {signs:List ByteArray} {sv:AVal} {p:Int} {t:IT} {k k':List AItem} {Q:AEnd→List ADef→Env→AHeap→Prop} (hk:aexitTo 0 k=some k') (ht:TOk ts) (hs:signs.length < 1000000) (hp:PR ts H pid st D) (hx:∀ st',rem ts st'≤rem ts st→CN ts pid fx [.ptr pid 0] x st')
  (hbad:∀ T v H',(∃ e p,v=flt1 e p∧Ev ts t (.err e p)∧Bad ts pid H D st e p (.pan v) H')→Q (.pan v) [] T H')
  (hend:∀ H' D' s a,Good1 ts pid H D st s H' D'→a < s.nodes.length→Ev ts t (.ok (.n a) s)→DRX Tryd.prog (kof k76) 39 k' [] [(8,.int .i64 (a:Nat))] H' Q) :
  ∀ (n:Nat) (H1:AHeap) (D1:Nat→Prop) (s0:PS) (a0:Nat),rem ts s0≤n→Good1 ts pid H D st s0 H1 D1→a0 < s0.nodes.length→RowS H1 sv signs→(∀ j,rid sv=some j→¬ D1 j)→(∀ o,Ev ts (rule ts (.leftL x signs a0 p) s0) o→Ev ts t o)→
   DRX Tryd.prog (kof k76) 39 (.code l76_0::.inLoop l76_0::k) [] [(0,.ptr pid 0),(1,.fn (.func fx) [.ptr pid 0] []),(2,sv),(7,.int .i64 p),(8,.int .i64 (a0:Nat)),(9,.str (anyS ts s0 signs))] H1 Q:=by
 intro n
 induction n with
 | zero=>
  intro H1 D1 s0 a0 hr q
  have:=q.pr.lt
  unfold rem at hr; omega
 | succ n ih=>
  intro H1 D1 s0 a0 hr q0 ha hsv hsd w0
  cases hc:seq (anyS ts s0 signs) empty with
  | true=>
   have hc':((anyS ts s0 signs).toList==(⟨#[]⟩:ByteArray).toList)=true:=hc
   refine DRX.go rfl ?_
   simp -dsimp only [XZ,SZ,EZ,astep,aun,AVal.cells,seval,abin,hc']
   refine DRX.ne rfl rfl ?_
   refine DRX.exit (k':=k') (by simpa [aexitTo] using hk) ?_
   exact DRX.only [8] (hend H1 D1 s0 a0 q0 ha (w0 _ (Ev.t hc .done)))
  | false=>
   have hc':((anyS ts s0 signs).toList==(⟨#[]⟩:ByteArray).toList)=false:=hc
   have w0:=fun o h=>w0 o (Ev.f hc h)
   refine DRX.go rfl ?_
   simp -dsimp only [XZ,SZ,EZ,astep,aun,AVal.cells,seval,abin,hc']
   refine DRX.ye rfl rfl ?_
   obtain ⟨l4,hw4,H4,e4,p4,f4⟩:=q0.pr.step ht (anyS_mid hc)
   have q4:=q0.adv p4 f4
   have w4:=w0
   refine DRX.go rfl ?_
   simp -dsimp only [XZ,SZ,EZ,astep,aun,AVal.cells,seval,l4,abin,hw4,e4]
   obtain ⟨hsv4,hsd4⟩:=hsv.fr f4 hsd
   have h1:s0.at_+1 < ts.length:=q4.pr.lt
   have hat:=q0.at_
   have hx4:=hx (adv s0) (by show ts.length - (s0.at_+1)≤ts.length - st.at_; omega)
   refine DRX.go rfl ?_
   simp -dsimp only [XZ,SZ,EZ,astep,aun,AVal.cells,seval,LZ]
   refine (hx4 _ _ q4.pr).mono ?_
   rintro o H5 (⟨e,p',ev5,rfl,b⟩ | ⟨a5,s5,D5,ev5,rfl,ha5,g5⟩)
   ·exact hbad _ _ _ ⟨e,p',rfl,w4 _ (Ev.callE ev5),q4.bad ⟨rfl,b⟩⟩
   have q5:=q4.trans g5
   have w5:=fun o h=>w4 o (Ev.call ev5 h)
   obtain ⟨hsv5,hsd5⟩:=hsv4.fr g5.fr hsd4
   obtain ⟨H6,e6⟩:∃ H6,H5.push (.cells 3 [.int .i64 (a0:Nat),.int .i64 (a5:Nat)])=H6:=⟨_,rfl⟩
   obtain ⟨hr6,k6⟩:=row2v (x:=[a0,a5]) (by simp) e6
   have hf1:afill [.int .i64 0,.int .i64 0] [(0,1,.int .i64 (a0:Nat)),(1,1,.int .i64 (a5:Nat))]=some [.int .i64 (a0:Nat),.int .i64 (a5:Nat)]:=rfl
   have hf2:afill [.int .i64 0,.str ⟨#[]⟩,.int .i64 0,.flt .f64 0,.nils,.int .i64 0] [(0,1,.int .i64 9),(1,1,.str (anyS ts s0 signs)),(4,1,.sl H5.next 0 2 (some 2)),(5,1,.int .i64 p)]=some (ndC (.sl H5.next 0 2 (some 2)) ⟨9,anyS ts s0 signs,0,0,[a0,a5],p⟩):=rfl
   have q6:=q5.gro k6
   have f6:=q5.fresh (n:=H5.next) (c:=2) (Nat.le_refl _)
   simp -dsimp only [XZ,SZ,EZ,astep,aun,AVal.cells,seval,Env.parts,hf1,e6,hf2]
   refine (g39 (v:=.sl H5.next 0 2 (some 2)) (n:=⟨9,anyS ts s0 signs,0,0,[a0,a5],p⟩) q6.pr hr6 f6.2).mono ?_
   rintro o H7 (⟨m7,rfl,p7,f7⟩ | ⟨m7,rfl,D7,p7,n7,f7,d7⟩)
   ·exact hbad _ _ _ ⟨2,_,rfl,w5 _ (Ev.layE m7),q6.bad ⟨rfl,_,_,p7,rfl,f7⟩⟩
   have q7:=q6.lay f6.1 p7 n7 f7 d7
   have w7:=fun o h=>w5 o (Ev.lay m7 h)
   simp -dsimp only [XZ,SZ,EZ,astep,aun,AVal.cells,seval]
   have hsv6:=hsv5.gro k6
   have hsv7:RowS H7 sv signs∧∀ j,rid sv=some j→¬ D7 j:=by
    obtain ⟨id,c,rfl,hb⟩:=hsv6
    have hid:=AHeap.get_lt hb
    have hlt5:id < H5.next:=by
     obtain ⟨id',c',e,hb'⟩:=hsv5
     cases e; exact AHeap.get_lt hb'
    refine ⟨⟨id,c,rfl,(f7 id hid (hsd5 id rfl)).trans hb⟩,fun j hj=> ?_⟩
    simp only [rid,Option.some.injEq] at hj; subst hj
    intro e
    rcases d7 id e with e | e | e
    ·exact hsd5 id rfl e
    ·simp only [rid,Option.some.injEq] at e; omega
    ·omega
   refine DRX.go rfl ?_
   simp -dsimp only [XZ,SZ,EZ,astep,aun,AVal.cells,seval]
   refine DCall.monoX (g70 q7.pr hsv7.1 hs) ?_
   rintro a H8 ⟨rfl,h8⟩
   simp -dsimp only [XZ,SZ,EZ,astep,aun,AVal.cells,seval]
   refine DRX.nm rfl ?_
   refine DRX.inLoop ?_
   exact ih H8 D7 _ _ (by have:=g5.at_; unfold rem at hr ⊢; simp only [adv] at this ⊢; omega) (q7.gro h8) (by simp) (hsv7.1.gro h8) hsv7.2 (fun o h=>w7 o (Ev.pass h))
theorem g76 {x:NT} {fx:FuncId} {signs:List ByteArray} {sv:AVal} (ht:TOk ts) (hs:signs.length < 1000000) (hx:∀ st',rem ts st'≤rem ts st→CN ts pid fx [.ptr pid 0] x st') (hp:PR ts H pid st D) (hsv:RowS H sv signs) (hsd:∀ j,rid sv=some j→¬ D j) :
  DCallX Tryd.prog 76 [.ptr pid 0,.fn (.func fx) [.ptr pid 0] [],sv] H (PostN ts pid H D st (rule ts (.left x signs) st)):=by
 refine DCallX.of_body (fn:=Tryd.f76) (by kernel_rfl) c76 (by kernel_rfl) (by simp [f76]) ?_
 unfold f76
 simp only []
 have q0:=Good1.refl hp
 have w0:=fun o (h:Ev ts (rule ts (.left x signs) st) o)=>h
 refine DRX.go rfl ?_
 simp -dsimp only [XZ,SZ,EZ,astep,aun,AVal.cells,seval]
 refine DRX.go rfl ?_
 simp -dsimp only [XZ,SZ,EZ,astep,aun,AVal.cells,seval]
 refine DCall.monoX (g33 q0.pr) ?_
 rintro a H1 ⟨rfl,h1⟩
 simp -dsimp only [XZ,SZ,EZ,astep,aun,AVal.cells,seval]
 have q1:=q0.gro h1
 have w1:=w0
 refine DRX.go rfl ?_
 simp -dsimp only [XZ,SZ,EZ,astep,aun,AVal.cells,seval,LZ]
 refine (hx st (Nat.le_refl _) _ _ q1.pr).mono ?_
 rintro o H2 (⟨e,p,ev2,rfl,b⟩ | ⟨a2,s2,D2,ev2,rfl,ha2,g2⟩)
 ·exact DLeave.pan' (.inl ⟨e,p,w1 _ (Ev.callE ev2),q1.bad ⟨rfl,b⟩⟩)
 have q2:=q1.trans g2
 have w2:=fun o h=>w1 o (Ev.call ev2 h)
 simp -dsimp only [XZ,SZ,EZ,astep,aun,AVal.cells,seval]
 obtain ⟨hsv2,hsd2⟩:=(hsv.gro h1).fr g2.fr hsd
 refine DRX.go rfl ?_
 simp -dsimp only [XZ,SZ,EZ,astep,aun,AVal.cells,seval]
 refine DCall.monoX (g70 q2.pr hsv2 hs) ?_
 rintro a H3 ⟨rfl,h3⟩
 simp -dsimp only [XZ,SZ,EZ,astep,aun,AVal.cells,seval]
 have q3:=q2.gro h3
 have w3:=w2
 refine DRX.nm rfl ?_
 refine DRX.loop ?_
 refine loop76 (t:=rule ts (.left x signs) st) rfl ht hs hp hx ?_ ?_ _ H3 D2 s2 a2 (Nat.le_refl _) q3 ha2 (hsv2.gro h3) hsd2 (fun o h=>w3 o (Ev.pass h))
 ·rintro T v H' ⟨e,p,rfl,ev,b⟩
  exact DLeave.pan' (.inl ⟨e,p,ev,b⟩)
 ·intro H' D' s a q ha ev
  refine DRX.go rfl ?_
  simp -dsimp only [XZ,SZ,EZ,astep,aun,AVal.cells,seval]
  refine DRX.nm rfl ?_
  exact DRX.retv ⟨_,by simp [aresult,ares,Env.get] <;> rfl,.inr ⟨a,s,D',ev,rfl,ha,q⟩⟩
theorem PostN.pass {H0:AHeap} {D0:Nat→Prop} {c:NT} {o:AOut} {H':AHeap} (g:Good1 ts pid H0 D0 st st H D) (h:PostN ts pid H D st (rule ts c st) o H'):PostN ts pid H0 D0 st (pass1 c st) o H':=by
 rcases h with ⟨e,p,h1,h2⟩ | ⟨i,st',D',h1,h2,h3,h4⟩
 ·exact .inl ⟨e,p,h1.pass,g.bad h2⟩
 ·exact .inr ⟨i,st',D',h1.pass,h2,h3,g.trans h4⟩
theorem rowS {H:AHeap} {l:List ByteArray} {H':AHeap} (h:H.push (.cells 9 (l.map .str))=H'):RowS H' (.sl H.next 0 l.length (some l.length)) l∧Gro H H':=by
 subst h
 exact ⟨⟨H.next,_,rfl,by rw [AHeap.get_push,if_pos rfl]⟩,Gro.push _ _⟩
end
end Go.Am.Rl
namespace Go.Am.Rl
open Go.Proofs
section
variable {ts:List TK} {H:AHeap} {pid:Nat} {st:PS} {D:Nat→Prop}
def Upto (ts:List TK) (pid:Nat) (f:FuncId) (c:NT) (n:Nat):Prop:=∀ st,rem ts st≤n→CN ts pid f [.ptr pid 0] c st
theorem Upto.less {f:FuncId} {c:NT} {n m:Nat} (h:Upto ts pid f c n) (hm:m≤n):Upto ts pid f c m:=fun st hs=>h st (by omega)
theorem u74 {N:Nat} (ht:TOk ts) (hx:Upto ts pid 75 .add N):∀ n,n≤N→Upto ts pid 74 .append n:=by
 intro n
 induction n with
 | zero=>
  intro hN st hr H D hp
  have:=hp.lt
  unfold rem at hr; omega
 | succ n ih=>
  intro hN st hr H D hp
  refine DCallX.of_body (fn:=Tryd.f74) (by kernel_rfl) c74 (by kernel_rfl) (by simp [f74]) ?_
  unfold f74
  simp only []
  obtain ⟨H1,e1⟩:∃ H1,H.push (.cells 9 [.str ⟨#[43,43]⟩])=H1:=⟨_,rfl⟩
  obtain ⟨hs1,k1⟩:=rowS (l:=[w_cat]) e1
  have hf1:afill [.str ⟨#[]⟩] [(0,1,.str ⟨#[43,43]⟩)]=some [.str ⟨#[43,43]⟩]:=rfl
  have q1:=(Good1.refl hp).gro k1
  refine DRX.go rfl ?_
  simp -dsimp only [XZ,SZ,EZ,astep,aun,AVal.cells,seval]
  refine DRX.go rfl ?_
  simp -dsimp only [XZ,SZ,EZ,astep,aun,AVal.cells,seval,Env.vals,Env.parts,hf1,e1]
  refine (g71 (x:=.add) (y:=.append) (signs:=[w_cat]) ht (by decide) (hx st (by omega)) (fun st' h=>ih (by omega) st' (by omega)) q1.pr hs1 ((Good1.refl hp).fresh (n:=H.next) (c:=1) (Nat.le_refl _)).2).mono ?_
  rintro o H2 ho
  rcases ho.pass q1 with ⟨e,p,ev,rfl,b⟩ | ⟨i,st',D',ev,rfl,hi,g⟩
  ·exact DLeave.pan' (.inl ⟨e,p,ev,rfl,b⟩)
  simp -dsimp only [XZ,SZ,EZ,astep,aun,AVal.cells,seval]
  refine DRX.nm rfl ?_
  exact DRX.retv ⟨_,by simp [aresult,ares,Env.get] <;> rfl,.inr ⟨i,st',D',ev,rfl,hi,g⟩⟩
theorem u73 {N:Nat} (ht:TOk ts) (hx:Upto ts pid 74 .append N):Upto ts pid 73 .compare N:=by
 intro st hr H D hp
 refine DCallX.of_body (fn:=Tryd.f73) (by kernel_rfl) c73 (by kernel_rfl) (by simp [f73]) ?_
 unfold f73
 simp only []
 obtain ⟨H1,e1⟩:∃ H1,H.push (.cells 9 [.str ⟨#[61,61]⟩,.str ⟨#[47,61]⟩,.str ⟨#[61,60]⟩,.str ⟨#[60]⟩,.str ⟨#[62,61]⟩,.str ⟨#[62]⟩,.str ⟨#[61,58,61]⟩,.str ⟨#[61,47,61]⟩])=H1:=⟨_,rfl⟩
 obtain ⟨hs1,k1⟩:=rowS (l:=[w_eqeq,w_ne,w_le,w_lt,w_ge,w_gt,w_same,w_nsame]) e1
 have hf1:afill [.str ⟨#[]⟩,.str ⟨#[]⟩,.str ⟨#[]⟩,.str ⟨#[]⟩,.str ⟨#[]⟩,.str ⟨#[]⟩,.str ⟨#[]⟩,.str ⟨#[]⟩] [(0,1,.str ⟨#[61,61]⟩),(1,1,.str ⟨#[47,61]⟩),(2,1,.str ⟨#[61,60]⟩),(3,1,.str ⟨#[60]⟩),(4,1,.str ⟨#[62,61]⟩),(5,1,.str ⟨#[62]⟩),(6,1,.str ⟨#[61,58,61]⟩),(7,1,.str ⟨#[61,47,61]⟩)]=some [.str ⟨#[61,61]⟩,.str ⟨#[47,61]⟩,.str ⟨#[61,60]⟩,.str ⟨#[60]⟩,.str ⟨#[62,61]⟩,.str ⟨#[62]⟩,.str ⟨#[61,58,61]⟩,.str ⟨#[61,47,61]⟩]:=rfl
 have q1:=(Good1.refl hp).gro k1
 refine DRX.go rfl ?_
 simp -dsimp only [XZ,SZ,EZ,astep,aun,AVal.cells,seval]
 refine DRX.go rfl ?_
 simp -dsimp only [XZ,SZ,EZ,astep,aun,AVal.cells,seval,Env.vals,Env.parts,hf1,e1]
 refine (g71 (x:=.append) (y:=.append) (signs:=[w_eqeq,w_ne,w_le,w_lt,w_ge,w_gt,w_same,w_nsame]) ht (by decide) (hx st hr) (fun st' h=>hx st' (by omega)) q1.pr hs1 ((Good1.refl hp).fresh (n:=H.next) (c:=8) (Nat.le_refl _)).2).mono ?_
 rintro o H2 ho
 rcases ho.pass q1 with ⟨e,p,ev,rfl,b⟩ | ⟨i,st',D',ev,rfl,hi,g⟩
 ·exact DLeave.pan' (.inl ⟨e,p,ev,rfl,b⟩)
 simp -dsimp only [XZ,SZ,EZ,astep,aun,AVal.cells,seval]
 refine DRX.nm rfl ?_
 exact DRX.retv ⟨_,by simp [aresult,ares,Env.get] <;> rfl,.inr ⟨i,st',D',ev,rfl,hi,g⟩⟩
theorem u72 {N:Nat} (ht:TOk ts) (hx:Upto ts pid 73 .compare N):∀ n,n≤N→Upto ts pid 72 .both n:=by
 intro n
 induction n with
 | zero=>
  intro hN st hr H D hp
  have:=hp.lt
  unfold rem at hr; omega
 | succ n ih=>
  intro hN st hr H D hp
  refine DCallX.of_body (fn:=Tryd.f72) (by kernel_rfl) c72 (by kernel_rfl) (by simp [f72]) ?_
  unfold f72
  simp only []
  obtain ⟨H1,e1⟩:∃ H1,H.push (.cells 9 [.str ⟨#[97,110,100,97,108,115,111]⟩])=H1:=⟨_,rfl⟩
  obtain ⟨hs1,k1⟩:=rowS (l:=[w_andalso]) e1
  have hf1:afill [.str ⟨#[]⟩] [(0,1,.str ⟨#[97,110,100,97,108,115,111]⟩)]=some [.str ⟨#[97,110,100,97,108,115,111]⟩]:=rfl
  have q1:=(Good1.refl hp).gro k1
  refine DRX.go rfl ?_
  simp -dsimp only [XZ,SZ,EZ,astep,aun,AVal.cells,seval]
  refine DRX.go rfl ?_
  simp -dsimp only [XZ,SZ,EZ,astep,aun,AVal.cells,seval,Env.vals,Env.parts,hf1,e1]
  refine (g71 (x:=.compare) (y:=.both) (signs:=[w_andalso]) ht (by decide) (hx st (by omega)) (fun st' h=>ih (by omega) st' (by omega)) q1.pr hs1 ((Good1.refl hp).fresh (n:=H.next) (c:=1) (Nat.le_refl _)).2).mono ?_
  rintro o H2 ho
  rcases ho.pass q1 with ⟨e,p,ev,rfl,b⟩ | ⟨i,st',D',ev,rfl,hi,g⟩
  ·exact DLeave.pan' (.inl ⟨e,p,ev,rfl,b⟩)
  simp -dsimp only [XZ,SZ,EZ,astep,aun,AVal.cells,seval]
  refine DRX.nm rfl ?_
  exact DRX.retv ⟨_,by simp [aresult,ares,Env.get] <;> rfl,.inr ⟨i,st',D',ev,rfl,hi,g⟩⟩
theorem u69 {N:Nat} (ht:TOk ts) (hx:Upto ts pid 72 .both N):∀ n,n≤N→Upto ts pid 69 .either n:=by
 intro n
 induction n with
 | zero=>
  intro hN st hr H D hp
  have:=hp.lt
  unfold rem at hr; omega
 | succ n ih=>
  intro hN st hr H D hp
  refine DCallX.of_body (fn:=Tryd.f69) (by kernel_rfl) c69 (by kernel_rfl) (by simp [f69]) ?_
  unfold f69
  simp only []
  obtain ⟨H1,e1⟩:∃ H1,H.push (.cells 9 [.str ⟨#[111,114,101,108,115,101]⟩])=H1:=⟨_,rfl⟩
  obtain ⟨hs1,k1⟩:=rowS (l:=[w_orelse]) e1
  have hf1:afill [.str ⟨#[]⟩] [(0,1,.str ⟨#[111,114,101,108,115,101]⟩)]=some [.str ⟨#[111,114,101,108,115,101]⟩]:=rfl
  have q1:=(Good1.refl hp).gro k1
  refine DRX.go rfl ?_
  simp -dsimp only [XZ,SZ,EZ,astep,aun,AVal.cells,seval]
  refine DRX.go rfl ?_
  simp -dsimp only [XZ,SZ,EZ,astep,aun,AVal.cells,seval,Env.vals,Env.parts,hf1,e1]
  refine (g71 (x:=.both) (y:=.either) (signs:=[w_orelse]) ht (by decide) (hx st (by omega)) (fun st' h=>ih (by omega) st' (by omega)) q1.pr hs1 ((Good1.refl hp).fresh (n:=H.next) (c:=1) (Nat.le_refl _)).2).mono ?_
  rintro o H2 ho
  rcases ho.pass q1 with ⟨e,p,ev,rfl,b⟩ | ⟨i,st',D',ev,rfl,hi,g⟩
  ·exact DLeave.pan' (.inl ⟨e,p,ev,rfl,b⟩)
  simp -dsimp only [XZ,SZ,EZ,astep,aun,AVal.cells,seval]
  refine DRX.nm rfl ?_
  exact DRX.retv ⟨_,by simp [aresult,ares,Env.get] <;> rfl,.inr ⟨i,st',D',ev,rfl,hi,g⟩⟩
theorem u75 {N:Nat} (ht:TOk ts) (hx:Upto ts pid 77 .mul N):Upto ts pid 75 .add N:=by
 intro st hr H D hp
 refine DCallX.of_body (fn:=Tryd.f75) (by kernel_rfl) c75 (by kernel_rfl) (by simp [f75]) ?_
 unfold f75
 simp only []
 obtain ⟨H1,e1⟩:∃ H1,H.push (.cells 9 [.str ⟨#[43]⟩,.str ⟨#[45]⟩])=H1:=⟨_,rfl⟩
 obtain ⟨hs1,k1⟩:=rowS (l:=[w_plus,w_minus]) e1
 have hf1:afill [.str ⟨#[]⟩,.str ⟨#[]⟩] [(0,1,.str ⟨#[43]⟩),(1,1,.str ⟨#[45]⟩)]=some [.str ⟨#[43]⟩,.str ⟨#[45]⟩]:=rfl
 have q1:=(Good1.refl hp).gro k1
 refine DRX.go rfl ?_
 simp -dsimp only [XZ,SZ,EZ,astep,aun,AVal.cells,seval]
 refine DRX.go rfl ?_
 simp -dsimp only [XZ,SZ,EZ,astep,aun,AVal.cells,seval,Env.vals,Env.parts,hf1,e1]
 refine (g76 (x:=.mul) (signs:=[w_plus,w_minus]) ht (by decide) (fun st' h=>hx st' (by omega)) q1.pr hs1 ((Good1.refl hp).fresh (n:=H.next) (c:=2) (Nat.le_refl _)).2).mono ?_
 rintro o H2 ho
 rcases ho.pass q1 with ⟨e,p,ev,rfl,b⟩ | ⟨i,st',D',ev,rfl,hi,g⟩
 ·exact DLeave.pan' (.inl ⟨e,p,ev,rfl,b⟩)
 simp -dsimp only [XZ,SZ,EZ,astep,aun,AVal.cells,seval]
 refine DRX.nm rfl ?_
 exact DRX.retv ⟨_,by simp [aresult,ares,Env.get] <;> rfl,.inr ⟨i,st',D',ev,rfl,hi,g⟩⟩
theorem u77 {N:Nat} (ht:TOk ts) (hx:Upto ts pid 78 .unary N):Upto ts pid 77 .mul N:=by
 intro st hr H D hp
 refine DCallX.of_body (fn:=Tryd.f77) (by kernel_rfl) c77 (by kernel_rfl) (by simp [f77]) ?_
 unfold f77
 simp only []
 obtain ⟨H1,e1⟩:∃ H1,H.push (.cells 9 [.str ⟨#[42]⟩,.str ⟨#[47]⟩,.str ⟨#[100,105,118]⟩,.str ⟨#[114,101,109]⟩])=H1:=⟨_,rfl⟩
 obtain ⟨hs1,k1⟩:=rowS (l:=[w_star,w_slash,w_div,w_rem]) e1
 have hf1:afill [.str ⟨#[]⟩,.str ⟨#[]⟩,.str ⟨#[]⟩,.str ⟨#[]⟩] [(0,1,.str ⟨#[42]⟩),(1,1,.str ⟨#[47]⟩),(2,1,.str ⟨#[100,105,118]⟩),(3,1,.str ⟨#[114,101,109]⟩)]=some [.str ⟨#[42]⟩,.str ⟨#[47]⟩,.str ⟨#[100,105,118]⟩,.str ⟨#[114,101,109]⟩]:=rfl
 have q1:=(Good1.refl hp).gro k1
 refine DRX.go rfl ?_
 simp -dsimp only [XZ,SZ,EZ,astep,aun,AVal.cells,seval]
 refine DRX.go rfl ?_
 simp -dsimp only [XZ,SZ,EZ,astep,aun,AVal.cells,seval,Env.vals,Env.parts,hf1,e1]
 refine (g76 (x:=.unary) (signs:=[w_star,w_slash,w_div,w_rem]) ht (by decide) (fun st' h=>hx st' (by omega)) q1.pr hs1 ((Good1.refl hp).fresh (n:=H.next) (c:=4) (Nat.le_refl _)).2).mono ?_
 rintro o H2 ho
 rcases ho.pass q1 with ⟨e,p,ev,rfl,b⟩ | ⟨i,st',D',ev,rfl,hi,g⟩
 ·exact DLeave.pan' (.inl ⟨e,p,ev,rfl,b⟩)
 simp -dsimp only [XZ,SZ,EZ,astep,aun,AVal.cells,seval]
 refine DRX.nm rfl ?_
 exact DRX.retv ⟨_,by simp [aresult,ares,Env.get] <;> rfl,.inr ⟨i,st',D',ev,rfl,hi,g⟩⟩
end
end Go.Am.Rl
namespace Go.Am.Rl
open Go.Proofs
def GI (H:AHeap) (v:AVal) (l:List Nat):Prop:=(v = .nils∧l=[])∨∃ id c,v = .sl id 0 l.length c∧(c=none∨c=some l.length)∧H.get id=some (.cells 3 (intsC l))
theorem GI.row {H:AHeap} {v:AVal} {l:List Nat} (h:GI H v l):RowI H v l:=by
 rcases h with h | ⟨id,c,h1,_,h2⟩
 ·exact .inl h
 ·exact .inr ⟨id,c,h1,h2⟩
theorem GI.frame {H H':AHeap} {v:AVal} {l:List Nat} (h:GI H v l) (hf:∀ j,rid v=some j→H'.get j=H.get j):GI H' v l:=by
 rcases h with h | ⟨id,c,rfl,hc,h⟩
 ·exact .inl h
 ·exact .inr ⟨id,c,rfl,hc,(hf id rfl).trans h⟩
theorem GI.gro {H H':AHeap} {v:AVal} {l:List Nat} (h:GI H v l) (g:Gro H H'):GI H' v l:=h.frame fun j hj=>g.2 j (h.row.lt hj)
theorem GI.fr {H H':AHeap} {D D':Nat→Prop} {v:AVal} {l:List Nat} (h:GI H v l) (f:Fr H D H' D') (hd:∀ j,rid v=some j→¬ D j):GI H' v l∧∀ j,rid v=some j→¬ D' j:=
 ⟨h.frame fun j hj=>f.2.1 j (h.row.lt hj) (hd j hj),fun j hj e=>(f.2.2 j e).elim (hd j hj) fun e=>by have:=h.row.lt hj; omega⟩
theorem GI.alen {H H':AHeap} {v:AVal} {l:List Nat} (h:GI H v l):alenT H' 1 v=some l.length:=by
 rcases h with ⟨rfl,rfl⟩ | ⟨id,c,rfl,_,_⟩ <;> rfl
theorem ones_ints (l:List Nat):ones (intsC l)=true:=by
 simp [ones,intsC,AVal.one]
theorem RowI.cells {H:AHeap} {v:AVal} {l:List Nat} (h:RowI H v l):sliceCells H 1 v=some (intsC l)∧alen v=some l.length:=by
 rcases h with ⟨rfl,rfl⟩ | ⟨id,c,rfl,h⟩
 ·exact ⟨rfl,rfl⟩
 ·refine ⟨?_,rfl⟩
  have hl:(intsC l).length=l.length:=by simp [intsC]
  simp only [sliceCells,h]
  rw [if_pos (by omega),List.drop_zero,Nat.mul_one,← hl,List.take_length]
theorem GI.app {H:AHeap} {v y:AVal} {l m:List Nat} (h:GI H v l) (hy:RowI H y m) (hl:l.length+m.length < 1000000) :
  ∃ v' H',aapp 3 1 8 H v y=some (v',H')∧GI H' v' (l++m)∧H.next≤H'.next∧(∀ j,j < H.next→rid v≠some j→H'.get j=H.get j)∧∀ j,rid v'=some j→rid v=some j∨H.next≤j:=by
 obtain ⟨c1,c2⟩:=hy.cells
 have hm:(intsC m).length=m.length:=by simp [intsC]
 have hll:(intsC l).length=l.length:=by simp [intsC]
 have hno:¬ (ones (intsC m)=false∨1=0∨(intsC m).length≠m.length * 1):=by
  rw [ones_ints]; simp; omega
 by_cases h0:m.length=0
 ·have hm0:m=[]:=List.eq_nil_of_length_eq_zero h0
  subst hm0
  rw [List.append_nil]
  rcases h with ⟨rfl,rfl⟩ | ⟨id,c,rfl,hc,hb⟩
  ·exact ⟨.nils,H,by simp only [aapp,c1,c2,if_neg hno]; rfl,.inl ⟨rfl,rfl⟩,Nat.le_refl _,fun _ _ _=>rfl,fun j hj=>.inl hj⟩
  ·exact ⟨_,H,by simp only [aapp,c1,c2,if_neg hno]; rfl,.inr ⟨id,c,rfl,hc,hb⟩,Nat.le_refl _,fun _ _ _=>rfl,fun j hj=>.inl hj⟩
 ·rcases h with ⟨rfl,rfl⟩ | ⟨id,c,rfl,hc,hb⟩
  ·refine ⟨.sl H.next 0 m.length none,H.push (.cells 3 (intsC m)),?_,.inr ⟨H.next,none,rfl,.inl rfl,by rw [AHeap.get_push,if_pos rfl]; rfl⟩,by simp,fun j hj _=>by rw [AHeap.get_push,if_neg (by omega)],fun j hj=> ?_⟩
   ·simp only [aapp,c1,c2,if_neg hno]
    rw [if_neg h0,if_pos ⟨by omega,by omega⟩]
   ·simp only [rid,Option.some.injEq] at hj; exact .inr (by omega)
  ·have hcat:intsC l++intsC m=intsC (l++m):=by simp [intsC]
   rcases hc with rfl | rfl
   ·refine ⟨.sl H.next 0 (l.length+m.length) none,(H.del id).push (.cells 3 (intsC l++intsC m)),?_,.inr ⟨H.next,none,by rw [List.length_append],.inl rfl,by
     have h1':(H.del id).next=H.next:=rfl
     rw [AHeap.get_push,h1',if_pos rfl,hcat]⟩,by simp [AHeap.push,AHeap.del],fun j hj hne=> ?_,fun j hj=> ?_⟩
    ·simp only [aapp,c1,c2,if_neg hno,hb]
     rw [if_neg h0,if_pos ⟨by omega,by omega,by omega,trivial⟩,if_neg (by omega),if_pos (by omega),List.drop_zero,Nat.mul_one,← hll,List.take_length]
    ·have h1':(H.del id).next=H.next:=rfl
     rw [AHeap.get_push,h1',if_neg (by omega),AHeap.get_del,if_neg (fun e=>hne (by simp [rid,e]))]
    ·simp only [rid,Option.some.injEq] at hj; exact .inr (by omega)
   ·refine ⟨.sl H.next 0 (l.length+m.length) none,H.push (.cells 3 (intsC l++intsC m)),?_,.inr ⟨H.next,none,by rw [List.length_append],.inl rfl,by rw [AHeap.get_push,if_pos rfl,hcat]⟩,by simp,fun j hj hne=>by rw [AHeap.get_push,if_neg (by omega)],fun j hj=> ?_⟩
    ·simp only [aapp,c1,c2,if_neg hno,hb]
     rw [if_neg h0,if_pos ⟨by omega,by omega,by omega,trivial⟩,if_neg (by omega),List.drop_zero,Nat.mul_one,← hll,List.take_length]
    ·simp only [rid,Option.some.injEq] at hj; exact .inr (by omega)
def PostL (ts:List TK) (pid:Nat) (H:AHeap) (D:Nat→Prop) (st:PS) (t:IT) (o:AOut) (H':AHeap):Prop:=
 (∃ e p,Ev ts t (.err e p)∧Bad ts pid H D st e p o H')∨
 ∃ l st' D',Ev ts t (.ok (.l l) st')∧∃ v,o = .ret v∧GI H' v l∧(∀ j,rid v=some j→H.next≤j)∧(∀ j,rid v=some j→¬ D' j)∧l.length≤st'.at_+1∧Good1 ts pid H D st st' H' D'
def CL (ts:List TK) (pid:Nat) (f:FuncId) (args:List AVal) (c:NT) (st:PS):Prop:=∀ H D,PR ts H pid st D→DCallX Tryd.prog f args H (PostL ts pid H D st (rule ts c st))
section
variable {ts:List TK} {H:AHeap} {pid:Nat} {st:PS} {D:Nat→Prop}
theorem PostL.pass {H0:AHeap} {D0:Nat→Prop} {c:NT} {o:AOut} {H':AHeap} (g:Good1 ts pid H0 D0 st st H D) (h:PostL ts pid H D st (rule ts c st) o H'):PostL ts pid H0 D0 st (pass1 c st) o H':=by
 rcases h with ⟨e,p,h1,h2⟩ | ⟨l,st',D',h1,v,h2,h3,h4,h5,h6,h7⟩
 ·exact .inl ⟨e,p,h1.pass,g.bad h2⟩
 ·exact .inr ⟨l,st',D',h1.pass,v,h2,h3,fun j hj=>Nat.le_trans g.fr.1 (h4 j hj),h5,h6,g.trans h7⟩
theorem TOk.at_ (ht:TOk ts) (hp:PR ts H pid st D):st.at_ < 70000:=Nat.lt_of_lt_of_le hp.lt ht.short
theorem loop60 {N:Nat} {most:Int} {t:IT} {k k':List AItem} {Q:AEnd→List ADef→Env→AHeap→Prop} (hk:aexitTo 0 k=some k') (ht:TOk ts) (hp:PR ts H pid st D) (hx:Upto ts pid 67 .expr N) (hN:rem ts st≤N)
  (hbad:∀ T v H',(∃ e p,v=flt1 e p∧Ev ts t (.err e p)∧Bad ts pid H D st e p (.pan v) H')→Q (.pan v) [] T H')
  (hend:∀ H' D' s l v,Good1 ts pid H D st s H' D'→Ev ts t (.ok (.l l) s)→GI H' v l→(∀ j,rid v=some j→H.next≤j)→(∀ j,rid v=some j→¬ D' j)→l.length≤s.at_+1→DRX Tryd.prog (kof k60) 28 k' [] [(5,v)] H' Q) :
  ∀ (n:Nat) (H1:AHeap) (D1:Nat→Prop) (s0:PS) (l:List Nat) (v:AVal),rem ts s0≤n→Good1 ts pid H D st s0 H1 D1→GI H1 v l→(∀ j,rid v=some j→H.next≤j)→(∀ j,rid v=some j→¬ D1 j)→l.length≤s0.at_+1→(∀ o,Ev ts (rule ts (.someL most l) s0) o→Ev ts t o)→
   DRX Tryd.prog (kof k60) 28 (.code l60_0::.inLoop l60_0::k) [] [(0,.ptr pid 0),(1,.int .i64 most),(5,v)] H1 Q:=by
 intro n
 induction n with
 | zero=>
  intro H1 D1 s0 l v hr q
  have:=q.pr.lt
  unfold rem at hr; omega
 | succ n ih=>
  intro H1 D1 s0 l v hr q0 hv hvn hvd hll w0
  refine DRX.go rfl ?_
  simp -dsimp only [XZ,SZ,EZ,astep,aun,AVal.cells,seval]
  refine DCall.monoX (g45 (s:=w_comma) q0.pr ht) ?_
  rintro a H2 ⟨rfl,p2,f2⟩
  simp -dsimp only [XZ,SZ,EZ,astep,aun,AVal.cells,seval]
  obtain ⟨hv2,hvd2⟩:=hv.fr f2 hvd
  cases hc:isS ts s0 w_comma with
  | false=>
   rw [hc,if_neg (by simp)] at p2
   refine DRX.ne rfl rfl ?_
   refine DRX.exit (k':=k') (by simpa [aexitTo] using hk) ?_
   exact DRX.only [5] (hend H2 D1 s0 l v ⟨p2,q0.deep,q0.at_,q0.fr.trans f2,q0.nds⟩ (w0 _ (Ev.f hc .done)) hv2 hvn hvd2 hll)
  | true=>
   rw [hc,if_pos rfl] at p2
   have q2:=q0.adv p2 f2
   have w2:=fun o h=>w0 o (Ev.t hc h)
   have hlen:=fun H'=>hv.alen (H':=H')
   have h1:s0.at_+1 < ts.length:=p2.lt
   have hs:=ht.short
   refine DRX.ye rfl rfl ?_
   have key:(decide (most > 0)&&((l.length:Int)==most))=true∨(decide (most > 0)&&((l.length:Int)==most))=false:=by cases (decide (most > 0)&&((l.length:Int)==most)) <;> simp
   rcases key with hm | hm
   ·have w3:=fun o h=>w2 o (Ev.t hm h)
    rw [Bool.and_eq_true] at hm
    refine DRX.go rfl ?_
    simp -dsimp only [XZ,SZ,EZ,astep,aun,AVal.cells,seval,abin,hm.1,hlen,hm.2]
    refine DRX.ye rfl rfl ?_
    refine DRX.go rfl ?_
    simp -dsimp only [XZ,SZ,EZ,astep,aun,AVal.cells,seval]
    refine DCall.monoX (g33 q2.pr) ?_
    rintro a H3 ⟨rfl,h3⟩
    simp -dsimp only [XZ,SZ,EZ,astep,aun,AVal.cells,seval]
    refine (g36 H3 2 _).mono ?_
    rintro o H4 ⟨rfl,rfl⟩
    exact hbad _ _ _ ⟨2,_,rfl,w3 _ .fail,(q2.gro h3).bad ⟨rfl,_,_,(q2.gro h3).pr,rfl,Fr.refl _ _⟩⟩
   ·have w3:=fun o h=>w2 o (Ev.f hm h)
    have go:DRX Tryd.prog (kof k60) 28 (.code (.region false r60_5 [0,1,5])::.inBlock 1::.inLoop l60_0::k) [] [(0,.ptr pid 0),(1,.int .i64 most),(5,v)] H2 Q:=by
     refine DRX.go rfl ?_
     simp -dsimp only [XZ,SZ,EZ,astep,aun,AVal.cells,seval]
     refine (hx (adv s0) (by have:=q0.at_; unfold rem at hN ⊢; simp only [adv] at *; omega) _ _ q2.pr).mono ?_
     rintro o H5 (⟨e,p',ev5,rfl,b⟩ | ⟨a5,s5,D5,ev5,rfl,ha5,g5⟩)
     ·exact hbad _ _ _ ⟨e,p',rfl,w3 _ (Ev.callE ev5),q2.bad ⟨rfl,b⟩⟩
     have q5:=q2.trans g5
     have w5:=fun o h=>w3 o (Ev.call ev5 h)
     obtain ⟨hv5,hvd5⟩:=hv2.fr g5.fr hvd2
     obtain ⟨H6,e6⟩:∃ H6,H5.push (.cells 3 [.int .i64 (a5:Nat)])=H6:=⟨_,rfl⟩
     obtain ⟨hr6,k6⟩:RowI H6 (.sl H5.next 0 1 (some 1)) [a5]∧Gro H5 H6:=row2v (x:=[a5]) (by simp) e6
     have hf1:afill [.int .i64 0] [(0,1,.int .i64 (a5:Nat))]=some [.int .i64 (a5:Nat)]:=rfl
     have hat5:=TOk.at_ ht q5.pr
     have hg5:s0.at_+1≤s5.at_:=g5.at_
     obtain ⟨v',H7,ha7,hv7,hn7,f7,hx7⟩:=(hv5.gro k6).app hr6 (by simp; omega)
     have hlt5:∀ j,rid v=some j→j < H5.next:=fun j hj=>hv5.row.lt hj
     have p7:PR ts H7 pid s5 D5:=(q5.pr.gro k6).frame hn7 fun j hj=>f7 j (by have:=q5.pr.dlt j hj; have:=k6.1; omega) (fun e=>hvd5 j e hj)
     have f7':Fr H D H7 D5:=by
      have n5:=q5.fr.1
      have n6:=k6.1
      exact ⟨by omega,fun j hj hd=>by rw [f7 j (by omega) (fun e=>by have:=hvn j e; omega),k6.2 j (by omega),q5.fr.2.1 j hj hd],q5.fr.2.2⟩
     simp -dsimp only [XZ,SZ,EZ,astep,aun,AVal.cells,seval,Env.parts,hf1,e6,ha7]
     refine DRX.nm rfl ?_
     refine DRX.inLoop ?_
     refine ih H7 D5 s5 (l++[a5]) v' (by unfold rem at hr ⊢; omega) ⟨p7,q5.deep,q5.at_,f7',q5.nds⟩ hv7 (fun j hj=> ?_) (fun j hj e=> ?_) (by simp; omega) (fun o h=>w5 o (Ev.pass h))
     ·rcases hx7 j hj with e | e
      ·exact hvn j e
      ·have:=q5.fr.1; have:=k6.1; omega
     ·rcases hx7 j hj with e' | e'
      ·exact hvd5 j e' e
      ·have:=q5.pr.dlt j e; have:=k6.1; omega
    cases hm1:decide (most > 0) with
    | false=>
     refine DRX.go rfl ?_
     simp -dsimp only [XZ,SZ,EZ,astep,aun,AVal.cells,seval,abin,hm1]
     refine DRX.ne rfl rfl ?_
     refine DRX.nm rfl ?_
     exact DRX.only [0,1,5] go
    | true=>
     have hm2:((l.length:Int)==most)=false:=by rw [hm1,Bool.true_and] at hm; exact hm
     refine DRX.go rfl ?_
     simp -dsimp only [XZ,SZ,EZ,astep,aun,AVal.cells,seval,abin,hm1,hlen,hm2]
     refine DRX.ne rfl rfl ?_
     refine DRX.nm rfl ?_
     exact DRX.only [0,1,5] go
theorem u60 {N:Nat} {most:Int} (ht:TOk ts) (hx:Upto ts pid 67 .expr N) (hN:rem ts st≤N):CL ts pid 60 [.ptr pid 0,.int .i64 most] (.some most) st:=by
 intro H D hp
 refine DCallX.of_body (fn:=Tryd.f60) (by kernel_rfl) c60 (by kernel_rfl) (by simp [f60]) ?_
 unfold f60
 simp only []
 have q0:=Good1.refl hp
 have w0:=fun o (h:Ev ts (rule ts (.some most) st) o)=>h
 refine DRX.go rfl ?_
 simp -dsimp only [XZ,SZ,EZ,astep,aun,AVal.cells,seval]
 refine DRX.go rfl ?_
 simp -dsimp only [XZ,SZ,EZ,astep,aun,AVal.cells,seval]
 refine (hx st hN _ _ q0.pr).mono ?_
 rintro o H1 (⟨e,p,ev1,rfl,b⟩ | ⟨a1,s1,D1,ev1,rfl,ha1,g1⟩)
 ·exact DLeave.pan' (.inl ⟨e,p,w0 _ (Ev.callE ev1),q0.bad ⟨rfl,b⟩⟩)
 have q1:=q0.trans g1
 have w1:=fun o h=>w0 o (Ev.call ev1 h)
 simp -dsimp only [XZ,SZ,EZ,astep,aun,AVal.cells,seval]
 obtain ⟨H2,e2⟩:∃ H2,H1.push (.cells 3 [.int .i64 (a1:Nat)])=H2:=⟨_,rfl⟩
 obtain ⟨hr2,k2⟩:RowI H2 (.sl H1.next 0 1 (some 1)) [a1]∧Gro H1 H2:=row2v (x:=[a1]) (by simp) e2
 have hg2:GI H2 (.sl H1.next 0 1 (some 1)) [a1]:=.inr ⟨H1.next,some 1,rfl,.inr rfl,by rw [← e2,AHeap.get_push,if_pos rfl]; rfl⟩
 have hf1:afill [.int .i64 0] [(0,1,.int .i64 (a1:Nat))]=some [.int .i64 (a1:Nat)]:=rfl
 have f1:=q1.fresh (n:=H1.next) (c:=1) (Nat.le_refl _)
 simp -dsimp only [XZ,SZ,EZ,astep,aun,AVal.cells,seval,Env.parts,hf1,e2]
 refine DRX.nm rfl ?_
 refine DRX.loop ?_
 refine loop60 (t:=rule ts (.some most) st) (N:=N) rfl ht hp hx hN ?_ ?_ _ H2 D1 s1 [a1] _ (Nat.le_refl _) (q1.gro k2) hg2 f1.1 f1.2 (by simp) (fun o h=>w1 o (Ev.pass h))
 ·rintro T v H' ⟨e,p,rfl,ev,b⟩
  exact DLeave.pan' (.inl ⟨e,p,ev,b⟩)
 ·intro H' D' s l v q ev hv hvn hvd hl
  refine DRX.go rfl ?_
  simp -dsimp only [XZ,SZ,EZ,astep,aun,AVal.cells,seval]
  refine DRX.nm rfl ?_
  exact DRX.retv ⟨_,by simp [aresult,ares,Env.get] <;> rfl,.inr ⟨l,s,D',ev,v,rfl,hv,hvn,hvd,hl,q⟩⟩
theorem u61 {N:Nat} (ht:TOk ts) (hx:Upto ts pid 67 .expr N) (hN:rem ts st≤N):CL ts pid 61 [.ptr pid 0] .exprs st:=by
 intro H D hp
 refine DCallX.of_body (fn:=Tryd.f61) (by kernel_rfl) c61 (by kernel_rfl) (by simp [f61]) ?_
 unfold f61
 simp only []
 refine DRX.go rfl ?_
 simp -dsimp only [XZ,SZ,EZ,astep,aun,AVal.cells,seval]
 refine DRX.go rfl ?_
 simp -dsimp only [XZ,SZ,EZ,astep,aun,AVal.cells,seval]
 refine (u60 (most:=0) ht hx hN H D hp).mono ?_
 rintro o H2 ho
 rcases ho.pass (Good1.refl hp) with ⟨e,p,ev,rfl,b⟩ | ⟨l,st',D',ev,v,rfl,hv,hvn,hvd,hl,g⟩
 ·exact DLeave.pan' (.inl ⟨e,p,ev,rfl,b⟩)
 simp -dsimp only [XZ,SZ,EZ,astep,aun,AVal.cells,seval]
 refine DRX.nm rfl ?_
 exact DRX.retv ⟨_,by simp [aresult,ares,Env.get] <;> rfl,.inr ⟨l,st',D',ev,v,rfl,hv,hvn,hvd,hl,g⟩⟩
theorem u54 {N:Nat} {s:ByteArray} {most:Int} (ht:TOk ts) (hx:Upto ts pid 67 .expr N) (hN:rem ts st≤N):CL ts pid 54 [.ptr pid 0,.str s,.int .i64 most] (.list s most) st:=by
 intro H D hp
 refine DCallX.of_body (fn:=Tryd.f54) (by kernel_rfl) c54 (by kernel_rfl) (by simp [f54]) ?_
 unfold f54
 simp only []
 have q0:=Good1.refl hp
 have w0:=fun o (h:Ev ts (rule ts (.list s most) st) o)=>h
 refine DRX.go rfl ?_
 simp -dsimp only [XZ,SZ,EZ,astep,aun,AVal.cells,seval]
 refine DRX.go rfl ?_
 simp -dsimp only [XZ,SZ,EZ,astep,aun,AVal.cells,seval]
 refine DCall.monoX (g45 (s:=s) hp ht) ?_
 rintro a H1 ⟨rfl,p1,f1⟩
 simp -dsimp only [XZ,SZ,EZ,astep,aun,AVal.cells,seval]
 cases hc:isS ts st s with
 | true=>
  rw [hc,if_pos rfl] at p1
  have q1:=q0.adv p1 f1
  refine DRX.ye rfl rfl ?_
  refine DRX.go rfl ?_
  simp -dsimp only [XZ,SZ,EZ,astep,aun,AVal.cells,seval]
  refine DRX.nm rfl ?_
  exact DRX.retv ⟨_,by simp [aresult,ares,Env.get] <;> rfl,.inr ⟨[],adv st,D,w0 _ (Ev.t hc .done),.nils,rfl,.inl ⟨rfl,rfl⟩,fun j hj=>(by cases hj),fun j hj=>(by cases hj),Nat.zero_le _,q1⟩⟩
 | false=>
  rw [hc,if_neg (by simp)] at p1
  have q1:Good1 ts pid H D st st H1 D:=⟨p1,rfl,Nat.le_refl _,f1,Nat.le_refl _⟩
  have w1:=fun o h=>w0 o (Ev.f hc h)
  refine DRX.ne rfl rfl ?_
  refine DRX.go rfl ?_
  simp -dsimp only [XZ,SZ,EZ,astep,aun,AVal.cells,seval]
  refine (u60 (most:=most) ht hx hN _ _ q1.pr).mono ?_
  rintro o H2 (⟨e,p,ev2,rfl,b⟩ | ⟨a2,s2,D2,ev2,v2,rfl,hv2,hvn2,hvd2,hl2,g2⟩)
  ·exact DLeave.pan' (.inl ⟨e,p,w1 _ (Ev.callE ev2),q1.bad ⟨rfl,b⟩⟩)
  have q2:=q1.trans g2
  have w2:=fun o h=>w1 o (Ev.call ev2 h)
  simp -dsimp only [XZ,SZ,EZ,astep,aun,AVal.cells,seval]
  refine DRX.go rfl ?_
  simp -dsimp only [XZ,SZ,EZ,astep,aun,AVal.cells,seval]
  refine (g34 (s:=s) q2.pr ht).mono ?_
  rintro o H3 (⟨m3,rfl,p3,f3⟩ | ⟨m3,rfl,p3,f3⟩)
  rotate_left
  ·exact DLeave.pan' (.inl ⟨24,_,w2 _ (Ev.mustE m3),q2.bad ⟨rfl,_,_,p3,rfl,f3⟩⟩)
  have q3:=q2.adv p3 f3
  have w3:=fun o h=>w2 o (Ev.must m3 h)
  simp -dsimp only [XZ,SZ,EZ,astep,aun,AVal.cells,seval]
  obtain ⟨hv3,hvd3⟩:=hv2.fr f3 hvd2
  refine DRX.go rfl ?_
  simp -dsimp only [XZ,SZ,EZ,astep,aun,AVal.cells,seval]
  refine DRX.nm rfl ?_
  exact DRX.retv ⟨_,by simp [aresult,ares,Env.get] <;> rfl,.inr ⟨a2,_,_,w3 _ .done,v2,rfl,hv3,fun j hj=>Nat.le_trans f1.1 (hvn2 j hj),hvd3,by simp only [adv]; omega,q3⟩⟩
theorem u62 {N:Nat} (ht:TOk ts) (hx:Upto ts pid 67 .expr N):Upto ts pid 62 .body N:=by
 intro st hN H D hp
 refine DCallX.of_body (fn:=Tryd.f62) (by kernel_rfl) c62 (by kernel_rfl) (by simp [f62]) ?_
 unfold f62
 simp only []
 have q0:=Good1.refl hp
 have w0:=fun o (h:Ev ts (rule ts (.body) st) o)=>h
 refine DRX.go rfl ?_
 simp -dsimp only [XZ,SZ,EZ,astep,aun,AVal.cells,seval]
 refine DRX.go rfl ?_
 simp -dsimp only [XZ,SZ,EZ,astep,aun,AVal.cells,seval]
 refine DCall.monoX (g33 q0.pr) ?_
 rintro a H1 ⟨rfl,h1⟩
 simp -dsimp only [XZ,SZ,EZ,astep,aun,AVal.cells,seval]
 have q1:=q0.gro h1
 have w1:=w0
 refine DRX.go rfl ?_
 simp -dsimp only [XZ,SZ,EZ,astep,aun,AVal.cells,seval]
 refine (u61 ht hx hN _ _ q1.pr).mono ?_
 rintro o H2 (⟨e,p,ev2,rfl,b⟩ | ⟨a2,s2,D2,ev2,v2,rfl,hv2,hvn2,hvd2,hl2,g2⟩)
 ·exact DLeave.pan' (.inl ⟨e,p,w1 _ (Ev.callE ev2),q1.bad ⟨rfl,b⟩⟩)
 have q2:=q1.trans g2
 have w2:=fun o h=>w1 o (Ev.call ev2 h)
 simp -dsimp only [XZ,SZ,EZ,astep,aun,AVal.cells,seval]
 have hf2:afill [.int .i64 0,.str ⟨#[]⟩,.int .i64 0,.flt .f64 0,.nils,.int .i64 0] [(0,1,.int .i64 19),(4,1,v2),(5,1,.int .i64 (pos ts st))]=some (ndC v2 (node 19 a2 (pos ts st))):=by
  rcases hv2.row with ⟨rfl,_⟩ | ⟨id,c,rfl,_⟩ <;> rfl
 have vn:(∀ j,rid v2=some j→H.next≤j)∧∀ j,rid v2=some j→¬ D2 j:=⟨fun j hj=>Nat.le_trans h1.1 (hvn2 j hj),hvd2⟩
 simp -dsimp only [XZ,SZ,EZ,astep,aun,AVal.cells,seval,Env.parts,hf2]
 refine (g39 (v:=v2) (n:=node 19 a2 (pos ts st)) q2.pr (hv2.row) (vn).2).mono ?_
 rintro o H3 (⟨m3,rfl,p3,f3⟩ | ⟨m3,rfl,D3,p3,n3,f3,d3⟩)
 ·exact DLeave.pan' (.inl ⟨2,_,w2 _ (Ev.layE m3),q2.bad ⟨rfl,_,_,p3,rfl,f3⟩⟩)
 have q3:=q2.lay (vn).1 p3 n3 f3 d3
 have w3:=fun o h=>w2 o (Ev.lay m3 h)
 simp -dsimp only [XZ,SZ,EZ,astep,aun,AVal.cells,seval]
 refine DRX.nm rfl ?_
 exact DRX.retv ⟨_,by simp [aresult,ares,Env.get] <;> rfl,.inr ⟨_,_,D3,w3 _ .done,rfl,by simp,q3⟩⟩
end
end Go.Am.Rl
namespace Go.Am.Rl
open Go.Proofs
theorem RowI.fr {H H':AHeap} {D D':Nat→Prop} {v:AVal} {l:List Nat} (h:RowI H v l) (f:Fr H D H' D') (hd:∀ j,rid v=some j→¬ D j):RowI H' v l∧∀ j,rid v=some j→¬ D' j:=
 ⟨h.frame fun j hj=>f.2.1 j (h.lt hj) (hd j hj),fun j hj e=>(f.2.2 j e).elim (hd j hj) fun e=>by have:=h.lt hj; omega⟩
theorem RowI.alen {H H':AHeap} {v:AVal} {l:List Nat} (h:RowI H v l):alenT H' 1 v=some l.length:=by
 rcases h with ⟨rfl,rfl⟩ | ⟨id,c,rfl,_⟩ <;> rfl
theorem Good1.own {ts:List TK} {pid:Nat} {H H1:AHeap} {D D1:Nat→Prop} {st st1:PS} (g:Good1 ts pid H D st st1 H1 D1) {i:Nat} (hi:H.next≤i) (hd:¬ D1 i) (b:ABlk):Good1 ts pid H D st st1 (H1.set i b) D1:=
 ⟨g.pr.set hd,g.deep,g.at_,g.fr.own hi b,g.nds⟩
theorem ndC_fill {v:AVal} {H:AHeap} {l:List Nat} (h:RowI H v l) (k p:Int):afill [.int .i64 0,.str ⟨#[]⟩,.int .i64 0,.flt .f64 0,.nils,.int .i64 0] [(0,1,.int .i64 k),(4,1,v),(5,1,.int .i64 p)]=some (ndC v (node k l p)):=by
 rcases h with ⟨rfl,_⟩ | ⟨id,c,rfl,_⟩ <;> rfl
section
variable {ts:List TK} {H:AHeap} {pid:Nat} {st:PS} {D:Nat→Prop}
theorem Good1.priv {H1 H2:AHeap} {D1:Nat→Prop} {s1:PS} (g:Good1 ts pid H D st s1 H1 D1) (hn:H1.next≤H2.next) (hf:∀ j,j < H1.next→(j < H.next∨D1 j)→H2.get j=H1.get j):Good1 ts pid H D st s1 H2 D1:=by
 have h1:=g.fr.1
 exact ⟨g.pr.frame hn fun j hj=>hf j (g.pr.dlt j hj) (.inr hj),g.deep,g.at_,⟨by omega,fun j hj hd=>by rw [hf j (by omega) (.inl hj),g.fr.2.1 j hj hd],g.fr.2.2⟩,g.nds⟩
theorem tail7 {N:Nat} {n:ND} {l:List Nat} {lv:AVal} {b4 gi:Nat} {t:IT} {H6:AHeap} {D6:Nat→Prop} {s6:PS} (ht:TOk ts) (hx:Upto ts pid 67 .expr N) (hN:rem ts st≤N) (q6:Good1 ts pid H D st s6 H6 D6) (hl6:RowI H6 lv l) (hld6:∀ j,rid lv=some j→¬ D6 j) (hlen:l.length≤70001)
  (g6:H6.get b4=some (.cells 42 (ndC .nils { n with n:=(l.length:Nat) }))) (d6:¬ D6 b4) (hb4:H.next≤b4) (w6:∀ o,Ev ts (must ts s6 w_arrow fun st1=>callN .body st1 fun b st2=>lay st2 { n with n:=(l.length:Nat),l:=l++[gi,b] } fun i st3=>.done (.n i) st3) o→Ev ts t o) :
  DRX Tryd.prog (kof k55) 41 [.code (.seq (.region false r55_7 [0,2,4,7]) (.seq (.region false r55_8 [0,4]) (.seq (.region false r55_9 [6]) .ret)))] [] [(0,.ptr pid 0),(2,lv),(4,.ptr b4 0),(7,.int .i64 (gi:Nat))] H6 (fun e ds T' H'=>DLeave Tryd.prog [.tmp 6] ds e T' H' (PostN ts pid H D st t)):=by
 refine DRX.go rfl ?_
 simp -dsimp only [XZ,SZ,EZ,astep,aun,AVal.cells,seval]
 refine (g34 (s:=w_arrow) q6.pr ht).mono ?_
 rintro o H7 (⟨m7,rfl,p7,f7⟩ | ⟨m7,rfl,p7,f7⟩)
 rotate_left
 ·exact DLeave.pan' (.inl ⟨24,_,w6 _ (Ev.mustE m7),q6.bad ⟨rfl,_,_,p7,rfl,f7⟩⟩)
 have q7:=q6.adv p7 f7
 have w7:=fun o h=>w6 o (Ev.must m7 h)
 simp -dsimp only [XZ,SZ,EZ,astep,aun,AVal.cells,seval]
 obtain ⟨g7,d7⟩:=f7.keep g6 d6
 obtain ⟨hl7,hld7⟩:=hl6.fr f7 hld6
 obtain ⟨H8,e8⟩:∃ H8,H7.push (.cells 3 [])=H8:=⟨_,rfl⟩
 have k8:Gro H7 H8:=by rw [← e8]; exact Gro.push _ _
 have hg8:GI H8 (.sl H7.next 0 0 (some 0)) []:=.inr ⟨H7.next,some 0,rfl,.inr rfl,by rw [← e8,AHeap.get_push,if_pos rfl]; rfl⟩
 have n8:H8.next=H7.next+1:=by rw [← e8]; rfl
 obtain ⟨v9,H9,a9,hv9,n9,f9,hx9⟩:=hg8.app ((hl7.gro k8)) (by simp; omega)
 have k9:Gro H7 H9:=⟨by omega,fun j hj=>by rw [f9 j (by omega) (fun e=>by simp only [rid,Option.some.injEq] at e; omega),k8.2 j hj]⟩
 have hvn9:∀ j,rid v9=some j→H7.next≤j:=fun j hj=>(hx9 j hj).elim (fun e=>by simp only [rid,Option.some.injEq] at e; omega) (fun e=>by omega)
 have hvd9:∀ j,rid v9=some j→¬ D6 j:=fun j hj e=>by have:=q7.pr.dlt j e; have:=hvn9 j hj; omega
 rw [List.nil_append] at hv9
 have q9:=q7.gro k9
 have w9:=w7
 have g9:=k9.get g7
 have hf0:afill ([]:List AVal) []=some []:=rfl
 refine DRX.go rfl ?_
 simp -dsimp only [XZ,SZ,EZ,astep,aun,AVal.cells,seval,Env.parts,hf0,e8,a9]
 refine (u62 ht hx _ (by have:=q7.at_; have:=hN; unfold rem at *; simp only [adv] at *; omega) _ _ q9.pr).mono ?_
 rintro o H10 (⟨e,p,ev10,rfl,b⟩ | ⟨a10,s10,D10,ev10,rfl,ha10,g10⟩)
 ·exact DLeave.pan' (.inl ⟨e,p,w9 _ (Ev.callE ev10),q9.bad ⟨rfl,b⟩⟩)
 have q10:=q9.trans g10
 have w10:=fun o h=>w9 o (Ev.call ev10 h)
 simp -dsimp only [XZ,SZ,EZ,astep,aun,AVal.cells,seval]
 obtain ⟨g10',d10⟩:=g10.fr.keep g9 d7
 obtain ⟨hv10,hvd10⟩:=hv9.fr g10.fr hvd9
 obtain ⟨H11,e11⟩:∃ H11,H10.push (.cells 3 [.int .i64 (gi:Nat),.int .i64 (a10:Nat)])=H11:=⟨_,rfl⟩
 obtain ⟨hr11,k11⟩:RowI H11 (.sl H10.next 0 2 (some 2)) [gi,a10]∧Gro H10 H11:=row2v (x:=[gi,a10]) (by simp) e11
 have hf1:afill [.int .i64 0,.int .i64 0] [(0,1,.int .i64 (gi:Nat)),(1,1,.int .i64 (a10:Nat))]=some [.int .i64 (gi:Nat),.int .i64 (a10:Nat)]:=rfl
 obtain ⟨v12,H12,a12,hv12,n12,f12,hx12⟩:=(hv10.gro k11).app hr11 (by simp; omega)
 have n7:=q7.fr.1
 have n910:=g10.fr.1
 have n1011:=k11.1
 have hv10lt:∀ j,rid v9=some j→j < H10.next:=fun j hj=>hv10.row.lt hj
 have hne:∀ j,(j < H7.next∨D10 j)→rid v9≠some j:=fun j hj e=>hj.elim (fun h=>by have:=hvn9 j e; omega) (fun h=>hvd10 j e h)
 have b4lt:b4 < H7.next:=AHeap.get_lt g7
 have g12:H12.get b4=some (.cells 42 (ndC .nils { n with n:=(l.length:Nat) })):=by
  rw [f12 b4 (by have:=k9.1; omega) (hne b4 (.inl b4lt))]; exact k11.get g10'
 have s13:astore H12 1 (.ptr b4 4) v12=some (H12.set b4 (.cells 42 (ndC v12 { n with n:=(l.length:Nat) }))):=by
  have hone:v12.cells=[v12]∧ones [v12]=true:=by
   rcases hv12 with ⟨rfl,_⟩ | ⟨id,c,rfl,_,_⟩ <;> exact ⟨rfl,rfl⟩
  simp only [astore,g12,hone.1,hone.2]
  rw [if_pos ⟨rfl,by show 5≤6; omega,trivial⟩]; rfl
 obtain ⟨H13,hH13,g13,n13,f13⟩:=upd g12 (.cells 42 (ndC v12 { n with n:=(l.length:Nat) }))
 have l13:=load_all (n:=6) g13 rfl
 have q12:Good1 ts pid H D st s10 H12 D10:=(q10.gro k11).priv n12 fun j hj h=>f12 j hj (fun e=>by
  rcases h with h | h
  ·exact hne j (.inl (by omega)) e
  ·exact hne j (.inr h) e)
 have q13:Good1 ts pid H D st s10 H13 D10:=by rw [hH13]; exact q12.own hb4 d10 _
 have v12n:∀ j,rid v12=some j→H7.next≤j∧¬ D10 j:=fun j hj=>(hx12 j hj).elim (fun e=>⟨hvn9 j e,hvd10 j e⟩) (fun e=>⟨by have:=k9.1; omega,fun h=>by have:=q10.pr.dlt j h; omega⟩)
 have hv13:RowI H13 v12 (l++[gi,a10]):=hv12.row.frame fun j hj=>f13 j (by have:=v12n j hj; omega)
 have vn:(∀ j,rid v12=some j→H.next≤j)∧∀ j,rid v12=some j→¬ D10 j:=⟨fun j hj=>by have:=v12n j hj; omega,fun j hj=>(v12n j hj).2⟩
 have w13:=w10
 simp -dsimp only [XZ,SZ,EZ,astep,aun,AVal.cells,seval,Env.parts,hf1,e11,a12,s13,← hH13]
 refine DRX.go rfl ?_
 simp -dsimp only [XZ,SZ,EZ,astep,aun,AVal.cells,seval,l13]
 refine (g39 (v:=v12) (n:={ n with n:=(l.length:Nat),l:=l++[gi,a10] }) q13.pr (hv13) (vn).2).mono ?_
 rintro o H14 (⟨m14,rfl,p14,f14⟩ | ⟨m14,rfl,D14,p14,n14,f14,d14⟩)
 ·exact DLeave.pan' (.inl ⟨2,_,w13 _ (Ev.layE m14),q13.bad ⟨rfl,_,_,p14,rfl,f14⟩⟩)
 have q14:=q13.lay (vn).1 p14 n14 f14 d14
 have w14:=fun o h=>w13 o (Ev.lay m14 h)
 simp -dsimp only [XZ,SZ,EZ,astep,aun,AVal.cells,seval]
 refine DRX.nm rfl ?_
 exact DRX.retv ⟨_,by simp [aresult,ares,Env.get] <;> rfl,.inr ⟨_,_,D14,w14 _ .done,rfl,by simp,q14⟩⟩
theorem u55 {N:Nat} {n:ND} {l:List Nat} {lv:AVal} (ht:TOk ts) (hx:Upto ts pid 67 .expr N) (hN:rem ts st≤N) (hp:PR ts H pid st D) (hl:RowI H lv l) (hld:∀ j,rid lv=some j→¬ D j) (hlen:l.length≤70001) :
  DCallX Tryd.prog 55 [.ptr pid 0,.agg (ndC .nils n),lv] H (PostN ts pid H D st (rule ts (.tail n l) st)):=by
 refine DCallX.of_body (fn:=Tryd.f55) (by kernel_rfl) c55 (by kernel_rfl) (by simp [f55]) ?_
 unfold f55
 simp only []
 have q0:=Good1.refl hp
 have w0:=fun o (h:Ev ts (rule ts (.tail n l) st) o)=>h
 obtain ⟨H1,hH1,g1,n1,f1⟩:=psh H (.cells 42 (ndC .nils n))
 have k1:Gro H H1:=by rw [hH1]; exact Gro.push _ _
 have hcc:(AVal.agg (ndC .nils n)).cells=ndC .nils n:=rfl
 have nd:∀ j,H.next≤j→¬ D j:=fun j hj e=>by have:=hp.dlt j e; omega
 have s2:astore H1 1 (.ptr H.next 2) (.int .i64 (l.length:Nat))=some (H1.set H.next (.cells 42 (ndC .nils { n with n:=(l.length:Nat) }))):=by
  simp only [astore,g1]
  rw [if_pos ⟨rfl,by show 3≤6; omega,rfl⟩]; rfl
 obtain ⟨H2,hH2,g2,n2,f2⟩:=upd g1 (.cells 42 (ndC .nils { n with n:=(l.length:Nat) }))
 have q1:=q0.gro k1
 have q2:Good1 ts pid H D st st H2 D:=by rw [hH2]; exact q1.own (Nat.le_refl _) (nd _ (Nat.le_refl _)) _
 have hl2:RowI H2 lv l:=(hl.gro k1).frame fun j hj=>f2 j (by have:=hl.lt hj; omega)
 have hla:=fun H'=>hl.alen (H':=H')
 refine DRX.go rfl ?_
 simp -dsimp only [XZ,SZ,EZ,astep,aun,AVal.cells,seval,hcc,← hH1]
 refine DRX.go rfl ?_
 simp -dsimp only [XZ,SZ,EZ,astep,aun,AVal.cells,seval,hla,s2,← hH2]
 refine DRX.go rfl ?_
 simp -dsimp only [XZ,SZ,EZ,astep,aun,AVal.cells,seval]
 refine DRX.go rfl ?_
 simp -dsimp only [XZ,SZ,EZ,astep,aun,AVal.cells,seval]
 refine DCall.monoX (g45 (s:=w_when) q2.pr ht) ?_
 rintro a H3 ⟨rfl,p3,f3⟩
 simp -dsimp only [XZ,SZ,EZ,astep,aun,AVal.cells,seval]
 obtain ⟨g3,d3⟩:=f3.keep g2 (nd _ (Nat.le_refl _))
 obtain ⟨hl3,hld3⟩:=hl2.fr f3 hld
 cases hc:isS ts st w_when with
 | true=>
  rw [hc,if_pos rfl] at p3
  have q3:=q2.adv p3 f3
  have w3:=fun o h=>w0 o (Ev.t hc h)
  refine DRX.ye rfl rfl ?_
  refine DRX.go rfl ?_
  simp -dsimp only [XZ,SZ,EZ,astep,aun,AVal.cells,seval]
  refine DCall.monoX (g33 q3.pr) ?_
  rintro a H4 ⟨rfl,h4⟩
  simp -dsimp only [XZ,SZ,EZ,astep,aun,AVal.cells,seval]
  have q4:=q3.gro h4
  have w4:=w3
  refine DRX.go rfl ?_
  simp -dsimp only [XZ,SZ,EZ,astep,aun,AVal.cells,seval]
  refine (u61 ht hx (by unfold rem at hN ⊢; simp only [adv]; omega) _ _ q4.pr).mono ?_
  rintro o H5 (⟨e,p,ev5,rfl,b⟩ | ⟨a5,s5,D5,ev5,v5,rfl,hv5,hvn5,hvd5,hl5,g5⟩)
  ·exact DLeave.pan' (.inl ⟨e,p,w4 _ (Ev.callE ev5),q4.bad ⟨rfl,b⟩⟩)
  have q5:=q4.trans g5
  have w5:=fun o h=>w4 o (Ev.call ev5 h)
  simp -dsimp only [XZ,SZ,EZ,astep,aun,AVal.cells,seval]
  have vn:(∀ j,rid v5=some j→H.next≤j)∧∀ j,rid v5=some j→¬ D5 j:=⟨fun j hj=>Nat.le_trans q4.fr.1 (hvn5 j hj),hvd5⟩
  have hf5:=ndC_fill hv5.row 22 (pos ts (adv st))
  simp -dsimp only [XZ,SZ,EZ,astep,aun,AVal.cells,seval,Env.parts,hf5]
  refine (g39 (v:=v5) (n:=node 22 a5 (pos ts (adv st))) q5.pr (hv5.row) (vn).2).mono ?_
  rintro o H6 (⟨m6,rfl,p6,f6⟩ | ⟨m6,rfl,D6,p6,n6,f6,d6⟩)
  ·exact DLeave.pan' (.inl ⟨2,_,w5 _ (Ev.layE m6),q5.bad ⟨rfl,_,_,p6,rfl,f6⟩⟩)
  have q6:=q5.lay (vn).1 p6 n6 f6 d6
  have w6:=fun o h=>w5 o (Ev.lay m6 h)
  simp -dsimp only [XZ,SZ,EZ,astep,aun,AVal.cells,seval]
  obtain ⟨g4',d4'⟩:H4.get H.next=some (.cells 42 (ndC .nils { n with n:=(l.length:Nat) }))∧¬ D H.next:=⟨h4.get g3,d3⟩
  obtain ⟨g5',d5'⟩:=g5.fr.keep g4' d4'
  obtain ⟨hl5',hld5'⟩:=(hl3.gro h4).fr g5.fr hld3
  have g6':H6.get H.next=some (.cells 42 (ndC .nils { n with n:=(l.length:Nat) }))∧¬ D6 H.next:=⟨(f6 _ (AHeap.get_lt g5') d5').trans g5',fun e=>by
   rcases d6 _ e with e | e | e
   ·exact d5' e
   ·have:=hvn5 _ e; have:=q4.fr.1; have:=h4.1; have:=AHeap.get_lt g3; omega
   ·have:=AHeap.get_lt g5'; omega⟩
  have hl6:RowI H6 lv l∧∀ j,rid lv=some j→¬ D6 j:=⟨hl5'.frame fun j hj=>f6 j (hl5'.lt hj) (hld5' j hj),fun j hj e=>by
   rcases d6 _ e with e | e | e
   ·exact hld5' j hj e
   ·have:=hvn5 _ e; have:=hl.lt hj; have:=q4.fr.1; omega
   ·have:=hl5'.lt hj; omega⟩
  exact tail7 ht hx hN q6 hl6.1 hl6.2 hlen g6'.1 g6'.2 (Nat.le_refl _) w6
 | false=>
  rw [hc,if_neg (by simp)] at p3
  have q3:Good1 ts pid H D st st H3 D:=⟨p3,rfl,Nat.le_refl _,q2.fr.trans f3,Nat.le_refl _⟩
  have w3:=fun o h=>w0 o (Ev.f hc h)
  refine DRX.ne rfl rfl ?_
  refine DRX.go rfl ?_
  simp -dsimp only [XZ,SZ,EZ,astep,aun,AVal.cells,seval]
  refine DCall.monoX (g33 q3.pr) ?_
  rintro a H4 ⟨rfl,h4⟩
  simp -dsimp only [XZ,SZ,EZ,astep,aun,AVal.cells,seval]
  have q4:=q3.gro h4
  have w4:=w3
  have hf5:afill [.int .i64 0,.str ⟨#[]⟩,.int .i64 0,.flt .f64 0,.nils,.int .i64 0] [(0,1,.int .i64 22),(5,1,.int .i64 (pos ts st))]=some (ndC .nils (node 22 [] (pos ts st))):=rfl
  have vn:(∀ j,rid .nils=some j→H.next≤j)∧∀ j,rid .nils=some j→¬ D j:=⟨fun j hj=>(by cases hj),fun j hj=>(by cases hj)⟩
  simp -dsimp only [XZ,SZ,EZ,astep,aun,AVal.cells,seval,Env.parts,hf5]
  refine (g39 (v:=.nils) (n:=node 22 [] (pos ts st)) q4.pr (.inl ⟨rfl,rfl⟩) (vn).2).mono ?_
  rintro o H6 (⟨m6,rfl,p6,f6⟩ | ⟨m6,rfl,D6,p6,n6,f6,d6⟩)
  ·exact DLeave.pan' (.inl ⟨2,_,w4 _ (Ev.layE m6),q4.bad ⟨rfl,_,_,p6,rfl,f6⟩⟩)
  have q6:=q4.lay (vn).1 p6 n6 f6 d6
  have w6:=fun o h=>w4 o (Ev.lay m6 h)
  simp -dsimp only [XZ,SZ,EZ,astep,aun,AVal.cells,seval]
  obtain ⟨g4',d4'⟩:H4.get H.next=some (.cells 42 (ndC .nils { n with n:=(l.length:Nat) }))∧¬ D H.next:=⟨h4.get g3,d3⟩
  have hl4:=hl3.gro h4
  have g6':H6.get H.next=some (.cells 42 (ndC .nils { n with n:=(l.length:Nat) }))∧¬ D6 H.next:=⟨(f6 _ (AHeap.get_lt g4') d4').trans g4',fun e=>by
   rcases d6 _ e with e | e | e
   ·exact d4' e
   ·cases e
   ·have:=AHeap.get_lt g4'; omega⟩
  have hl6:RowI H6 lv l∧∀ j,rid lv=some j→¬ D6 j:=⟨hl4.frame fun j hj=>f6 j (hl4.lt hj) (hld3 j hj),fun j hj e=>by
   rcases d6 _ e with e | e | e
   ·exact hld3 j hj e
   ·cases e
   ·have:=hl4.lt hj; omega⟩
  exact tail7 ht hx hN q6 hl6.1 hl6.2 hlen g6'.1 g6'.2 (Nat.le_refl _) w6
end
end Go.Am.Rl
