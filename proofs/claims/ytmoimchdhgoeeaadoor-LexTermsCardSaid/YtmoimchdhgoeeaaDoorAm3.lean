/- From the model's operations to the abstract machine's. -/
import Derived.Test.YtmoimchdhgoeeaaDoorAm2
import Derived.Laws.Cells
import Derived.Laws.Append
import Derived.WalkKit
set_option linter.unusedVariables false
set_option linter.unusedSimpArgs false
namespace Go.Am
def cvl:Nat→Value→Option AVal
 | _,.bool b=>some (.bool b)
 | _,.int k n=>some (.int k n)
 | _,.float k n=>some (.flt k n)
 | _,.string s=>some (.str s)
 | _,.pointer none=>some .nilp
 | _,.slice none 0 0=>some .nils
 | _,.map none=>some .nilm
 | _,.nilFunc=>some .nilf
 | _,.nilIface=>some .nili
 | n+1,.iface t v=>(cvl n v).map (.ifc t)
 | n+1,.agg cs=>(go n cs.toList).map .agg
 | n+1,.tuple cs=>(go n cs.toList).map .tup
 | _,.func f fs cs=>if fs.size=0∧cs.size=0 then some (.fn f [] []) else none
 | _,_=>none
where go (n:Nat):List Value→Option (List AVal)
 | []=>some []
 | c::r=>do
  let a ← cvl n c
  let as ← go n r
  pure (a::as)
def copd:Operand→Option AOpnd
 | .tmp t=>some (.t t)
 | .const v=>(cvl 3 v).map .c
 | .func f=>some (.c (.fn (.func f) [] []))
 | .global g=>(laidAt g).map fun cs=>.c (.rop cs)
def copds:List Operand→Option (List AOpnd)
 | []=>some []
 | x::r=>do
  let a ← copd x
  let as ← copds r
  pure (a::as)
def copdo:Option Operand→Option (Option AOpnd)
 | none=>some none
 | some x=>(copd x).map some
def cparts (place:Nat→Option (Nat × Nat)):List (Nat × Operand)→Option (List (Nat × Nat × AOpnd))
 | []=>some []
 | (i,x)::r=>do
  let p ← place i
  let a ← copd x
  let as ← cparts place r
  pure ((p.1,p.2,a)::as)
def szOf (P:Program) (t:TypeId):Option Nat:=(P.info? t).map (·.size)
def zeroOf (P:Program) (t:TypeId):Option AVal:=do
 let i ← P.info? t
 let z ← i.zero
 cvl 3 z
def loadKind (P:Program) (t:TypeId):Option (Option Nat):=
 match P.underlying t with
 | none=>none
 | some (.struct _) | some (.array _ _)=>(szOf P t).map some
 | some _=>some none
def isConstO:Operand→Bool
 | .const _=>true
 | _=>false
def isEqOp:BinOp→Bool
 | .eql | .neq=>true
 | _=>false
def isNeqOp:BinOp→Bool
 | .neq=>true
 | _=>false
def eqTags (P:Program):Nat→List Field→Option (List Nat)
 | _,[]=>some []
 | i,f::r=>do
  let ts ← eqTags P (i+1) r
  if f.name ≠ "_" ∧ f.offset = i then
   match P.underlying f.type with
   | some .bool=>some (0::ts)
   | some (.int _)=>some (1::ts)
   | some .string=>some (2::ts)
   | _=>none
  else none
def keyTag (P:Program) (t:TypeId):Option Nat:=
 match P.underlying t with
 | some .string=>some 0
 | some (.int _)=>some 1
 | some .bool=>some 2
 | _=>none
def extNo (n:String):Option Nat:=
 if n == "math.Float64bits" then some 0 else if n == "math.Float64frombits" then some 1 else if n == "internal/bytealg.IndexByteString" then some 2
 else if n == "math.archTrunc" then some 3 else if n == "math.archFloor" then some 4 else if n == "math.archCeil" then some 5
 else if n == "internal/bytealg.abigen_runtime_cmpstring" then some 7 else none
def ccall (P:Program) (c:Call):Option AOp:=
 match c.callee with
 | .value (.func f)=>
  match P.funcs[f]? with
  | some fn => if fn.body.isSome && fn.name != "runtime.NumGoroutine" then (copds c.args.toList).map (.callF f)
   else if fn.body.isNone && fn.origin == "" then (match extNo fn.name with
    | some k=>(copds c.args.toList).map (.ext k)
    | none=>none) else none
  | none=>none
 | .value x=>do
  let f ← copd x
  let as ← copds c.args.toList
  pure (.callV f as)
 | .invoke r name=>do
  let r ← copd r
  let as ← copds c.args.toList
  pure (.callI r name as)
 | .builtin .len=>
  match c.args.toList,c.argTypes[0]? with
  | [x],some t=>match P.underlying t with
   | some .string=>(copd x).map (.len 0)
   | some (.slice _)=>(copd x).map (.len 1)
   | some (.map _ _)=>(copd x).map (.len 2)
   | _=>none
  | _,_=>none
 | .builtin .cap=>
  match c.args.toList,c.argTypes[0]? with
  | [x],some t=>match P.underlying t with
   | some (.slice _)=>(copd x).map (.len 3)
   | _=>none
  | _,_=>none
 | .builtin .append=>
  match c.args.toList,c.argTypes.toList with
  | [x,y],[s,t]=>match P.underlying s,P.underlying t with
   | some (.slice e),some (.slice _) | some (.slice e),some .string=>do
    let i ← P.info? e
    let z ← i.zero
    if z.cells.size=i.size∧i.size≠0 then do
     let x ← copd x
     let y ← copd y
     pure (.app e i.size i.bytes x y)
    else none
   | some (.slice e),some (.int _)=>do
    let i ← P.info? e
    let z ← zeroOf P e
    if z.cells.length=i.size then do
     let x ← copd x
     let y ← copd y
     pure (.appN e z.cells i.bytes x y)
    else none
   | _,_=>none
  | _,_=>none
 | .builtin .copy=>
  match c.args.toList,c.argTypes[0]? with
  | [x,y],some s=>match P.underlying s with
   | some (.slice e)=>do
    let n ← szOf P e
    let x ← copd x
    let y ← copd y
    pure (.copy n x y)
   | _=>none
  | _,_=>none
 | .builtin .delete=>
  match c.args.toList,c.argTypes[0]? with
  | [x,y],some s=>match P.underlying s with
   | some (.map k _)=>do
    let g ← keyTag P k
    let x ← copd x
    let y ← copd y
    pure (.del g x y)
   | _=>none
  | _,_=>none
 | .builtin .recover=>if c.args.size=0 then some .recov else none
 | .builtin .max=>
  match c.args.toList with
  | [x,y]=>do
   let x ← copd x
   let y ← copd y
   pure (.ext 6 [x,y])
  | _=>none
 | _=>none
def cop (P:Program) (o:Op):Option AOp:=
 match o with
 | .move x | .assign x=>(copd x).map .mv
 | .pick c a b=>do
  let c ← copd c
  let a ← copd a
  let b ← copd b
  pure (.pick c a b)
 | .alloc e=>do
  let z ← zeroOf P e
  pure (.alloc e z)
 | .box e x=>(copd x).map (.box e)
 | .build t ps=>do
  let z ← zeroOf P t
  match P.underlying t with
  | some (.struct fs)=>do
   let ps ← cparts (fun i=>do
    let f ← fs[i]?
    let n ← szOf P f.type
    pure (f.offset,n)) ps.toList
   if fs.all (fun f=>(szOf P f.type).isSome) then pure (.build z.cells ps) else none
  | some (.array _ e)=>do
   let n ← szOf P e
   let ps ← cparts (fun i=>some (i * n,n)) ps.toList
   pure (.build z.cells ps)
  | _=>none
 | .buildSlice t len ps=>
  match P.underlying t with
  | some (.slice e)=>do
   let n ← szOf P e
   let z ← zeroOf P e
   let ps ← cparts (fun i=>some (i * n,n)) ps.toList
   if len * n≤2 ^ 24∧z.cells.length=n∧n≠0 then pure (.bslice e len (List.replicate len z.cells).flatten ps) else none
  | _=>none
 | .load t a=>do
  let n ← loadKind P t
  let a ← copd a
  pure (.load n a)
 | .store t a x=>do
  let n ← szOf P t
  let a ← copd a
  let x ← copd x
  pure (.store n a x)
 | .nilCheck x=>(copd x).map .nilchk
 | .binOp op t x y _=>do
  let x' ← copd x
  let y' ← copd y
  match P.underlying t with
  | some (.struct fs)=>do
   let ts ← eqTags P 0 fs.toList
   if isEqOp op&& !P.stoodInHeld t&& !P.eqGuardType P.depth t then some (.eqAgg ts (isNeqOp op) x' y') else none
  | some (.int _) | some (.float _) | some .string=>some (.bin op x' y')
  | some .bool=>if isEqOp op=true then some (.eqB (isNeqOp op) x' y') else none
  | some (.pointer e)=>if isEqOp op=true then some (.eqN 0 (isNeqOp op) x' y') else none
  | some (.slice _)=>if isEqOp op=true then some (.eqN 1 (isNeqOp op) x' y') else none
  | some (.map _ _)=>if isEqOp op=true then some (.eqN 2 (isNeqOp op) x' y') else none
  | some (.func _ _ _)=>if isEqOp op=true then some (.eqN 3 (isNeqOp op) x' y') else none
  | some (.interface _)=>if isEqOp op&&(isConstO x || isConstO y) then some (.eqN 4 (isNeqOp op) x' y') else none
  | _=>none
 | .unOp op _ x=>(copd x).map (.un op)
 | .convert s d x=>do
  let x ← copd x
  match P.underlying s,P.underlying d with
  | some (.int _),some (.int k)=>some (.conv (.toInt k) x)
  | some (.int _),some (.float k)=>some (.conv (.toFlt k) x)
  | some .string,some .string=>some (.conv .strstr x)
  | some .string,some (.slice e)=>match P.underlying e with
   | some (.int .u8)=>if szOf P e=some 1 then some (.conv (.strBytes e) x) else none
   | _=>none
  | some (.slice e),some .string=>match P.underlying e with
   | some (.int .u8)=>some (.conv .bytesStr x)
   | _=>none
  | some (.float s),some (.int k)=>some (.conv (.fltInt s k) x)
  | _,_=>none
 | .makeInterface t x=>match P.underlying t with
  | some (.interface _) | none=>none
  | some _=>(copd x).map (.mkifc t)
 | .makeFunc f a b=>do
  let a ← copds a.toList
  let b ← copds b.toList
  pure (.mkfn f a b)
 | .makeMap t none=>some .mkmap
 | .makeMap t (some x)=>none
 | .makeSlice t x y=>match P.underlying t with
  | some (.slice e)=>do
   let i ← P.info? e
   let z ← zeroOf P e
   let x ← copd x
   let y ← copd y
   if z.cells.length=i.size then pure (.mkslice e z.cells i.bytes x y) else none
  | _=>none
 | .slice t x lo hi mx=>do
  let x ← copd x
  let lo' ← copdo lo
  let hi' ← copdo hi
  let mx' ← copdo mx
  match P.underlying t with
  | some .string=>if mx.isNone then pure (.slcS x lo' hi') else none
  | some (.slice e)=>do
   let n ← szOf P e
   if n≠0∧(hi.isSome || mx.isNone) then pure (.slc e n x lo' hi' mx') else none
  | _=>none
 | .fieldAddr s x f=>do
  let x ← copd x
  match P.underlying s with
  | some (.struct fs)=>do
   let fd ← fs[f]?
   let n ← szOf P fd.type
   if n≠0 then pure (.faddr fd.offset x) else none
  | _=>none
 | .field s x f=>do
  let x ← copd x
  match P.underlying s with
  | some (.struct fs)=>do
   let fd ← fs[f]?
   let n ← loadKind P fd.type
   pure (.fld fd.offset n x)
  | _=>none
 | .indexAddr t x i=>do
  let x ← copd x
  let i ← copd i
  match P.underlying t with
  | some (.slice e)=>do
   let n ← szOf P e
   pure (.iaddr n x i)
  | some (.array len e)=>do
   let n ← szOf P e
   pure (.iaddrA len n x i)
  | _=>none
 | .index t x i=>do
  let x ← copd x
  let i ← copd i
  match P.underlying t with
  | some .string=>pure (.idxS x i)
  | _=>none
 | .lookup t m k ok=>match P.underlying t with
  | some (.map kt e)=>do
   let g ← keyTag P kt
   let z ← zeroOf P e
   let m ← copd m
   let k ← copd k
   pure (.lookup g z ok m k)
  | _=>none
 | .mapEntry t m k=>match P.underlying t with
  | some (.map kt e)=>do
   let g ← keyTag P kt
   let z ← zeroOf P e
   let m ← copd m
   let k ← copd k
   pure (.mapent g z m k)
  | _=>none
 | .entryStore _ m s x=>do
  let m ← copd m
  let s ← copd s
  let x ← copd x
  pure (.entst m s x)
 | .range t x=>match P.underlying t with
  | some .string=>(copd x).map .rngS
  | some (.map _ _)=>(copd x).map .rngM
  | _=>none
 | .next x true=>(copd x).map .nxtS
 | .next x false=>(copd x).map .nxtM
 | .entry x=>(copd x).map .entM
 | .extract x i=>(copd x).map fun x=>.extract x i
 | .typeAssert x _ t ok=>match P.underlying t with
  | none | some (.interface _)=>none
  | some _=>do
   let z ← zeroOf P t
   let x ← copd x
   pure (.tassert t z ok x)
 | .call c=>ccall P c
 | .panic x=>(copd x).map .pan
 | .defer c=>match c.callee with
  | .value (.func _)=>none
  | .value x=>do
   let f ← copd x
   let as ← copds c.args.toList
   pure (.dfr f as)
  | _=>none
 | _=>none
def cguard (ops:Array Oper):Option (Nat × Bool)→Option (Option (Nat × Bool))
 | none=>some none
 | some (j,b)=>match (ops[j]?).bind (·.dst) with
  | some d=>some (some (d,b))
  | none=>none
def dstOk (nt:Nat):Option Tmp→Bool
 | some d=>decide (d < nt)
 | none=>true
def coper (P:Program) (nt:Nat) (ops:Array Oper) (o:Oper):Option AOper:=do
 let op ← cop P o.op
 let g ← cguard ops o.guard
 if dstOk nt o.dst=false then none else
 pure { dst:=o.dst,op,guard:=g,after:=(o.after.toList.filter (Region.binds .any)).map (·.on) }
def copers (P:Program) (nt:Nat) (ops:Array Oper):List Oper→Option (List AOper)
 | []=>some []
 | o::r=>do
  let a ← coper P nt ops o
  let as ← copers P nt ops r
  pure (a::as)
abbrev Keeps:=Nat→List Nat
def ccode (P:Program) (ks:Keeps) (nt:Nat):Code→Option ACode
 | .skip=>some .skip
 | .region id ops draw=>do
  let l ← copers P nt ops ops.toList
  pure (.region draw l (ks id))
 | .seq a b=>do
  let x ← ccode P ks nt a
  let y ← ccode P ks nt b
  pure (.seq x y)
 | .cond c a b=>do
  let c ← copd c
  let x ← ccode P ks nt a
  let y ← ccode P ks nt b
  pure (.cond c x y)
 | .block id a=>(ccode P ks nt a).map (.block id)
 | .loop a=>(ccode P ks nt a).map .loop
 | .exit id=>some (.exit id)
 | .scope a=>(ccode P ks nt a).map .scope
 | .label l=>some (.label l)
 | .goto l=>some (.goto l)
 | .ret=>some .ret
 | .rangeFunc .. =>none
 | .refuse _=>none
def cres (P:Program):List ResultVar→Option (List ARes)
 | []=>some []
 | .tmp t::r=>(cres P r).map (.tmp t:: ·)
 | .cell a t::r=>do
  let n ← loadKind P t
  let l ← cres P r
  pure (.cell a n::l)
def cfunc (P:Program) (ks:Keeps) (f:Func):Option AFunc:=do
 if f.name = "runtime.NumGoroutine" then none else
 let b ← f.body
 let b ← ccode P ks f.ntmps b
 let r ← cres P f.results.toList
 pure { ntmps:=f.ntmps,results:=r,body:=b }
theorem cvl_sound {P:Program} {w:World} {ro:Nat→Prop} {μ:Mu}:∀ (n:Nat),
  (∀ (v:Value) (a:AVal),cvl n v=some a→VR P w ro μ a v):=by
 intro n
 induction n with
 | zero=>
  intro v a h
  cases v <;> (try simp only [cvl] at h) <;> (try (injection h with h; subst h; simp [VR])) <;> (try cases h)
  case pointer x=>cases x <;> simp only [cvl] at h <;> cases h; simp [VR]
  case slice x l c=>
   by_cases hh:x=none∧l=0∧c=0
   ·obtain ⟨rfl,rfl,rfl⟩:=hh
    simp only [cvl] at h; injection h with h; subst h; simp [VR]
   ·exfalso
    unfold cvl at h
    split at h <;> simp_all
  case map x=>cases x <;> simp only [cvl] at h <;> cases h; simp [VR]
  case func f fs cs=>
   split at h
   ·rename_i hh; injection h with h; subst h
    refine ⟨fs,cs,rfl,?_,?_⟩ <;> simp [VRs] <;> exact Array.eq_empty_of_size_eq_zero (by omega)
   ·cases h
 | succ n ih=>
  have hgo:∀ (l:List Value) (as:List AVal),cvl.go n l=some as→VRs P w ro μ as l:=by
   intro l
   induction l with
   | nil=>intro as h; simp only [cvl.go] at h; injection h with h; subst h; simp [VRs]
   | cons c r ihl=>
    intro as h
    simp only [cvl.go] at h
    cases hc:cvl n c with
    | none=>rw [hc] at h; cases h
    | some a=>
     rw [hc] at h
     cases hr:cvl.go n r with
     | none=>rw [hr] at h; cases h
     | some as'=>
      rw [hr] at h
      injection h with h; subst h
      exact ⟨c,r,rfl,ih c a hc,ihl as' hr⟩
  intro v a h
  cases v <;> (try simp only [cvl] at h) <;> (try (injection h with h; subst h; simp [VR])) <;> (try cases h)
  case pointer x=>cases x <;> simp only [cvl] at h <;> cases h; simp [VR]
  case slice x l c=>
   by_cases hh:x=none∧l=0∧c=0
   ·obtain ⟨rfl,rfl,rfl⟩:=hh
    simp only [cvl] at h; injection h with h; subst h; simp [VR]
   ·exfalso
    unfold cvl at h
    split at h <;> simp_all
  case map x=>cases x <;> simp only [cvl] at h <;> cases h; simp [VR]
  case func f fs cs=>
   split at h
   ·rename_i hh; injection h with h; subst h
    refine ⟨fs,cs,rfl,?_,?_⟩ <;> simp [VRs] <;> exact Array.eq_empty_of_size_eq_zero (by omega)
   ·cases h
  case iface t v=>
   cases hc:cvl n v with
   | none=>rw [hc] at h; cases h
   | some a'=>rw [hc] at h; injection h with h; subst h; exact ⟨v,rfl,ih v a' hc⟩
  case agg cs=>
   cases hc:cvl.go n cs.toList with
   | none=>rw [hc] at h; cases h
   | some as=>rw [hc] at h; injection h with h; subst h; exact ⟨cs,rfl,hgo _ _ hc⟩
  case tuple cs=>
   cases hc:cvl.go n cs.toList with
   | none=>rw [hc] at h; cases h
   | some as=>rw [hc] at h; injection h with h; subst h; exact ⟨cs,rfl,hgo _ _ hc⟩
end Go.Am
