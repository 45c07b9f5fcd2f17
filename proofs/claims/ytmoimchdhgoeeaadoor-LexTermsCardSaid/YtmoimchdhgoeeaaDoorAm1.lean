/- The abstract machine: values, numbered blocks, operations (all computable, no world in sight). -/
import GoSem.Dispatch
namespace Go.Am
inductive AVal where
 | bool (b:Bool)
 | int (k:IntKind) (n:Int)
 | flt (k:FloatKind) (n:Nat)
 | str (s:ByteArray)
 | nilp | nils | nilm | nilf | nili
 | ptr (id off:Nat)
 | rop (cs:List AVal)
 | sl (id off len:Nat) (cap:Option Nat)
 | ros (cs:List AVal) (len:Nat)
 | map (id:Nat)
 | fn (f:Fn) (first cap:List AVal)
 | ifc (t:TypeId) (v:AVal)
 | agg (cs:List AVal)
 | tup (vs:List AVal)
 | nan (k:FloatKind)
 deriving Inhabited
structure AEntry where
 key:AVal
 val:AVal
 born:Nat
 deriving Inhabited
inductive ABlk where
 | cells (elem:TypeId) (cs:List AVal)
 | map (es:List AEntry) (clock:Nat)
 | siter (s:ByteArray) (pos:Nat)
 | miter (m since:Nat) (seen:List Nat) (last:Nat)
 deriving Inhabited
inductive Tr (α:Type) where
 | e
 | n (v:Option α) (l r:Tr α)
def Tr.get {α:Type}:Tr α→Nat→Option α
 | .e,_=>none
 | .n v l r,k=>if k=0 then v else if k % 2=1 then l.get (k / 2) else r.get (k / 2 - 1)
def Tr.set {α:Type} (x:Option α):Nat→Tr α→Nat→Tr α
 | 0,t,_=>t
 | f+1,.e,k=>if k=0 then .n x .e .e else if k % 2=1 then .n none (Tr.set x f .e (k / 2)) .e else .n none .e (Tr.set x f .e (k / 2 - 1))
 | f+1,.n v l r,k=>if k=0 then .n x l r else if k % 2=1 then .n v (Tr.set x f l (k / 2)) r else .n v l (Tr.set x f r (k / 2 - 1))
theorem Tr.get_set {α:Type} (x:Option α):∀ (f:Nat) (t:Tr α) (i j:Nat),i < f→(Tr.set x f t i).get j=if j=i then x else t.get j:=by
 intro f
 induction f with
 | zero=>intro t i j h; omega
 | succ f ih=>
  intro t i j h
  have h1:i % 2=1→i / 2 < f:=by omega
  have h2:i≠0→i % 2≠1→i / 2 - 1 < f:=by omega
  cases t with
  | e=>
   simp only [Tr.set]
   split
   ·subst_vars; simp only [Tr.get]; split <;> simp_all
   ·split
    ·simp only [Tr.get]
     split
     ·rename_i h0 _ hj; subst hj; rw [if_neg (by omega)]
     ·split
      ·rw [ih _ _ _ (h1 ‹_›)]
       by_cases hij:j=i
       ·rw [if_pos hij,if_pos (by omega)]
       ·rw [if_neg hij,if_neg (by omega)]; rfl
      ·rw [if_neg (by omega)]
    ·simp only [Tr.get]
     split
     ·rename_i h0 _ hj; subst hj; rw [if_neg (by omega)]
     ·split
      ·rw [if_neg (by omega)]
      ·rw [ih _ _ _ (h2 ‹_› ‹_›)]
       by_cases hij:j=i
       ·rw [if_pos hij,if_pos (by omega)]
       ·rw [if_neg hij,if_neg (by omega)]; rfl
  | n v l r=>
   simp only [Tr.set]
   split
   ·subst_vars; simp only [Tr.get]; split <;> simp_all
   ·split
    ·simp only [Tr.get]
     split
     ·rename_i h0 _ hj; subst hj; rw [if_neg (by omega)]
     ·split
      ·rw [ih _ _ _ (h1 ‹_›)]
       by_cases hij:j=i
       ·rw [if_pos hij,if_pos (by omega)]
       ·rw [if_neg hij,if_neg (by omega)]
      ·rw [if_neg (by omega)]
    ·simp only [Tr.get]
     split
     ·rename_i h0 _ hj; subst hj; rw [if_neg (by omega)]
     ·split
      ·rw [if_neg (by omega)]
      ·rw [ih _ _ _ (h2 ‹_› ‹_›)]
       by_cases hij:j=i
       ·rw [if_pos hij,if_pos (by omega)]
       ·rw [if_neg hij,if_neg (by omega)]
structure AHeap where
 tr:Tr ABlk
 next:Nat
def AHeap.get (H:AHeap) (i:Nat):Option ABlk:=if i < H.next then H.tr.get i else none
def AHeap.set (H:AHeap) (i:Nat) (b:ABlk):AHeap:={ H with tr:=Tr.set (some b) (i+1) H.tr i }
def AHeap.del (H:AHeap) (i:Nat):AHeap:={ H with tr:=Tr.set none (i+1) H.tr i }
def AHeap.push (H:AHeap) (b:ABlk):AHeap:={ tr:=Tr.set (some b) (H.next+1) H.tr H.next,next:=H.next+1 }
def AHeap.empty:AHeap:={ tr:=.e,next:=0 }
@[simp] theorem AHeap.next_set (H:AHeap) (i:Nat) (b:ABlk):(H.set i b).next=H.next:=rfl
@[simp] theorem AHeap.next_del (H:AHeap) (i:Nat):(H.del i).next=H.next:=rfl
@[simp] theorem AHeap.next_push (H:AHeap) (b:ABlk):(H.push b).next=H.next+1:=rfl
theorem AHeap.get_set (H:AHeap) (i:Nat) (b:ABlk) (j:Nat):(H.set i b).get j=if j=i then (if i < H.next then some b else none) else H.get j:=by
 simp only [AHeap.get,AHeap.set,Tr.get_set _ _ _ _ _ (Nat.lt_succ_self i)]
 by_cases hj:j=i <;> simp [hj]
theorem AHeap.get_del (H:AHeap) (i:Nat) (j:Nat):(H.del i).get j=if j=i then none else H.get j:=by
 simp only [AHeap.get,AHeap.del,Tr.get_set _ _ _ _ _ (Nat.lt_succ_self i)]
 by_cases hj:j=i <;> simp [hj]
theorem AHeap.get_push (H:AHeap) (b:ABlk) (j:Nat):(H.push b).get j=if j=H.next then some b else H.get j:=by
 simp only [AHeap.get,AHeap.push,Tr.get_set _ _ _ _ _ (Nat.lt_succ_self H.next)]
 by_cases hj:j=H.next
 ·simp [hj]
 ·by_cases hl:j < H.next
  ·simp [hj,hl,show j < H.next+1 by omega]
  ·simp [hj,hl,show ¬ j < H.next+1 by omega]
theorem AHeap.get_lt {H:AHeap} {i:Nat} {b:ABlk} (h:H.get i=some b):i < H.next:=by
 unfold AHeap.get at h
 split at h
 ·assumption
 ·cases h
abbrev Env:=List (Nat × AVal)
def Env.get:Env→Nat→Option AVal
 | [],_=>none
 | (k,v)::r,s=>if s=k then some v else Env.get r s
def Env.set:Env→Nat→AVal→Env
 | [],s,v=>[(s,v)]
 | (k,u)::r,s,v=>if s=k then (k,v)::r else (k,u)::Env.set r s v
def Env.keep (T:Env):List Nat→Env
 | []=>[]
 | s::r=>match T.get s with
  | some v=>(s,v)::Env.keep T r
  | none=>Env.keep T r
def Env.put (T:Env):Option Nat→AVal→Env
 | some d,v=>T.set d v
 | none,_=>T
inductive AOpnd where
 | t (n:Nat)
 | c (v:AVal)
 deriving Inhabited
def Env.val (T:Env):AOpnd→Option AVal
 | .t n=>T.get n
 | .c v=>some v
def Env.vals (T:Env):List AOpnd→Option (List AVal)
 | []=>some []
 | x::r=>do
  let v ← T.val x
  let vs ← T.vals r
  pure (v::vs)
inductive AConv where
 | toInt (k:IntKind)
 | toFlt (k:FloatKind)
 | fltInt (s:FloatKind) (k:IntKind)
 | strstr
 | strBytes (elem:TypeId)
 | bytesStr
 deriving Inhabited
inductive AOp where
 | mv (x:AOpnd)
 | pick (c a b:AOpnd)
 | bin (op:BinOp) (x y:AOpnd)
 | eqB (neq:Bool) (x y:AOpnd)
 | eqN (tag:Nat) (neq:Bool) (x y:AOpnd)
 | eqAgg (tags:List Nat) (neq:Bool) (x y:AOpnd)
 | un (op:UnOp) (x:AOpnd)
 | conv (c:AConv) (x:AOpnd)
 | box (elem:TypeId) (x:AOpnd)
 | alloc (elem:TypeId) (zero:AVal)
 | build (zero:List AVal) (parts:List (Nat × Nat × AOpnd))
 | bslice (elem:TypeId) (len:Nat) (zero:List AVal) (parts:List (Nat × Nat × AOpnd))
 | load (n:Option Nat) (a:AOpnd)
 | store (n:Nat) (a x:AOpnd)
 | nilchk (x:AOpnd)
 | faddr (off:Nat) (x:AOpnd)
 | fld (off:Nat) (n:Option Nat) (x:AOpnd)
 | iaddr (size:Nat) (x i:AOpnd)
 | iaddrA (len size:Nat) (x i:AOpnd)
 | idxS (x i:AOpnd)
 | slcS (x:AOpnd) (lo hi:Option AOpnd)
 | slc (elem:TypeId) (size:Nat) (x:AOpnd) (lo hi mx:Option AOpnd)
 | mkmap
 | mkslice (elem:TypeId) (zero:List AVal) (bytes:Nat) (x y:AOpnd)
 | mkfn (f:Fn) (first cap:List AOpnd)
 | mkifc (t:TypeId) (x:AOpnd)
 | lookup (tag:Nat) (zero:AVal) (ok:Bool) (m k:AOpnd)
 | mapent (tag:Nat) (zero:AVal) (m k:AOpnd)
 | entst (m s x:AOpnd)
 | rngS (x:AOpnd)
 | nxtS (x:AOpnd)
 | rngM (x:AOpnd)
 | nxtM (x:AOpnd)
 | entM (x:AOpnd)
 | extract (x:AOpnd) (i:Nat)
 | len (tag:Nat) (x:AOpnd)
 | app (elem:TypeId) (size bytes:Nat) (x y:AOpnd)
 | appN (elem:TypeId) (zero:List AVal) (bytes:Nat) (x y:AOpnd)
 | copy (size:Nat) (x y:AOpnd)
 | del (tag:Nat) (m k:AOpnd)
 | tassert (t:TypeId) (zero:AVal) (ok:Bool) (x:AOpnd)
 | callF (f:FuncId) (args:List AOpnd)
 | callV (f:AOpnd) (args:List AOpnd)
 | callI (recv:AOpnd) (name:String) (args:List AOpnd)
 | ext (k:Nat) (args:List AOpnd)
 | pan (x:AOpnd)
 | dfr (f:AOpnd) (args:List AOpnd)
 | recov
 deriving Inhabited
structure AOper where
 dst:Option Nat
 op:AOp
 guard:Option (Nat × Bool)
 after:List Nat
 deriving Inhabited
abbrev LA:=List AOper
abbrev oo (d:Nat) (op:AOp) (l:List Nat):AOper:=⟨some d,op,none,l⟩
abbrev og (d:Nat) (op:AOp) (g:Nat) (b:Bool) (l:List Nat):AOper:=⟨some d,op,some (g,b),l⟩
abbrev on (op:AOp) (l:List Nat):AOper:=⟨none,op,none,l⟩
abbrev zA (d t:Nat) (l:List Nat):AOper:=oo d (.alloc t (.agg [.int .i64 0,.int .i64 0,.flt .f64 0,.str ⟨#[]⟩,.nils])) l
abbrev zB (d:Nat) (p:List (Nat × Nat × AOpnd)) (l:List Nat):AOper:=oo d (.build [.int .i64 0,.int .i64 0,.flt .f64 0,.str ⟨#[]⟩,.nils] p) l
abbrev zm (d n:Nat) (l:List Nat):AOper:=oo d (.mv (.t n)) l
abbrev zi (d:Nat) (k:Int) (l:List Nat):AOper:=oo d (.mv (.c (.int .i64 k))) l
abbrev zf (d o n:Nat) (l:List Nat):AOper:=oo d (.faddr o (.t n)) l
abbrev zl (d n:Nat) (l:List Nat):AOper:=oo d (.load none (.t n)) l
abbrev zr (d k n:Nat) (l:List Nat):AOper:=oo d (.load (some k) (.t n)) l
abbrev zn (d n:Nat) (l:List Nat):AOper:=oo d (.nilchk (.t n)) l
abbrev zk (d:Nat) (g:FuncId) (n:Nat) (l:List Nat):AOper:=oo d (.callF g [.t n]) l
abbrev zq (d:Nat) (g:FuncId) (n m:Nat) (l:List Nat):AOper:=oo d (.callF g [.t n,.t m]) l
abbrev za (d n:Nat) (k:Int) (l:List Nat):AOper:=oo d (.bin .add (.t n) (.c (.int .i64 k))) l
abbrev ze (d n:Nat) (k:Int) (l:List Nat):AOper:=oo d (.bin .eql (.t n) (.c (.int .i64 k))) l
abbrev zx (d n i:Nat) (l:List Nat):AOper:=oo d (.extract (.t n) i) l
abbrev zL (d g n:Nat) (l:List Nat):AOper:=oo d (.len g (.t n)) l
abbrev zd (d g n m:Nat) (l:List Nat):AOper:=oo d (.iaddr g (.t n) (.t m)) l
abbrev zp (d n m:Nat) (l:List Nat):AOper:=oo d (.pick (.t n) (.t m) (.c (.bool false))) l
abbrev zo (d n m:Nat) (l:List Nat):AOper:=oo d (.pick (.t n) (.c (.bool true)) (.t m)) l
abbrev zs (k n m:Nat) (l:List Nat):AOper:=on (.store k (.t n) (.t m)) l
abbrev ym (d n g:Nat) (b:Bool) (l:List Nat):AOper:=og d (.mv (.t n)) g b l
abbrev yf (d o n g:Nat) (b:Bool) (l:List Nat):AOper:=og d (.faddr o (.t n)) g b l
abbrev yl (d n g:Nat) (b:Bool) (l:List Nat):AOper:=og d (.load none (.t n)) g b l
abbrev yn (d n g:Nat) (b:Bool) (l:List Nat):AOper:=og d (.nilchk (.t n)) g b l
inductive ACode where
 | skip
 | region (draw:Bool) (ops:List AOper) (keep:List Nat)
 | seq (a b:ACode)
 | cond (c:AOpnd) (x y:ACode)
 | block (id:Nat) (body:ACode)
 | loop (body:ACode)
 | exit (id:Nat)
 | scope (body:ACode)
 | label (l:Nat)
 | goto (l:Nat)
 | ret
 deriving Inhabited
inductive ARes where
 | tmp (t:Nat)
 | cell (a:Nat) (n:Option Nat)
 deriving Inhabited
structure AFunc where
 ntmps:Nat
 results:List ARes
 body:ACode
 deriving Inhabited
def AVal.one:AVal→Bool
 | .agg _ | .tup _=>false
 | _=>true
def AVal.cells:AVal→List AVal
 | .agg cs=>cs
 | v=>[v]
def aundef:AVal:=.tup []
def ones (l:List AVal):Bool:=l.all AVal.one
def flOr (k:FloatKind):Option Nat→AVal
 | some r=>.flt k r
 | none=>.nan k
def nanCmp:BinOp→Option AVal
 | .eql | .lss | .leq | .gtr | .geq=>some (.bool false)
 | .neq=>some (.bool true)
 | _=>none
def abin (op:BinOp):AVal→AVal→Option AVal
 | .int k x,.int k' y=>
  match op with
  | .shl=>if y < 0 then none else some (.int k (k.wrap (x * 2 ^ (min y.toNat k.bits))))
  | .shr=>if y < 0 then none else some (.int k (x.fdiv (2 ^ (min y.toNat k.bits))))
  | .add=>if k=k' then some (.int k (k.wrap (x+y))) else none
  | .sub=>if k=k' then some (.int k (k.wrap (x - y))) else none
  | .mul=>if k=k' then some (.int k (k.wrap (x * y))) else none
  | .quo=>if k=k' then (if y=0 then none else some (.int k (k.wrap (x.tdiv y)))) else none
  | .rem=>if k=k' then (if y=0 then none else some (.int k (x.tmod y))) else none
  | .and=>if k=k' then some (.int k (k.wrap (BitVec.ofInt k.bits x &&&BitVec.ofInt k.bits y).toNat)) else none
  | .or=>if k=k' then some (.int k (k.wrap (BitVec.ofInt k.bits x ||| BitVec.ofInt k.bits y).toNat)) else none
  | .xor=>if k=k' then some (.int k (k.wrap (BitVec.ofInt k.bits x ^^^ BitVec.ofInt k.bits y).toNat)) else none
  | .andNot=>if k=k' then some (.int k (k.wrap (BitVec.ofInt k.bits x &&& ~~~ BitVec.ofInt k.bits y).toNat)) else none
  | .eql=>if k=k' then some (.bool (x==y)) else none
  | .neq=>if k=k' then some (.bool (x != y)) else none
  | .lss=>if k=k' then some (.bool (decide (x < y))) else none
  | .leq=>if k=k' then some (.bool (decide (x≤y))) else none
  | .gtr=>if k=k' then some (.bool (decide (x > y))) else none
  | .geq=>if k=k' then some (.bool (decide (x ≥ y))) else none
 | .flt k x,.flt k' y=>
  if k=k' then
   match op with
   | .add=>some (flOr k (k.format.add x y))
   | .sub=>some (flOr k (k.format.sub x y))
   | .mul=>some (flOr k (k.format.mul x y))
   | .quo=>some (flOr k (k.format.div x y))
   | .eql=>some (.bool (k.format.order x y==some .eq))
   | .neq=>some (.bool (k.format.order x y != some .eq))
   | .lss=>some (.bool (k.format.order x y==some .lt))
   | .leq=>some (.bool (k.format.order x y==some .lt || k.format.order x y==some .eq))
   | .gtr=>some (.bool (k.format.order x y==some .gt))
   | .geq=>some (.bool (k.format.order x y==some .gt || k.format.order x y==some .eq))
   | _=>none
  else none
 | .nan k,.flt k' _=>if k=k' then nanCmp op else none
 | .flt k _,.nan k'=>if k=k' then nanCmp op else none
 | .nan k,.nan k'=>if k=k' then nanCmp op else none
 | .str x,.str y=>
  match op with
  | .add=>if ((x.size+y.size:Nat):Int) > IntKind.i64.max then none else some (.str (x++y))
  | .eql=>some (.bool (x.toList==y.toList))
  | .neq=>some (.bool !(x.toList==y.toList))
  | .lss=>some (.bool (Op.bytesLess x.toList y.toList))
  | .leq=>some (.bool (Op.bytesLess x.toList y.toList || x.toList==y.toList))
  | .gtr=>some (.bool !(Op.bytesLess x.toList y.toList || x.toList==y.toList))
  | .geq=>some (.bool !Op.bytesLess x.toList y.toList)
  | _=>none
 | _,_=>none
def anil:Nat→AVal→AVal→Option Bool
 | 0,.nilp,.nilp | 1,.nils,.nils | 2,.nilm,.nilm | 3,.nilf,.nilf | 4,.nili,.nili=>some true
 | 0,.nilp,.ptr .. | 0,.nilp,.rop _ | 0,.ptr ..,.nilp | 0,.rop _,.nilp=>some false
 | 1,.nils,.sl .. | 1,.nils,.ros .. | 1,.sl ..,.nils | 1,.ros ..,.nils=>some false
 | 2,.nilm,.map _ | 2,.map _,.nilm=>some false
 | 3,.nilf,.fn .. | 3,.fn ..,.nilf=>some false
 | 4,.nili,.ifc .. | 4,.ifc ..,.nili=>some false
 | _,_,_=>none
def aeqs:List Nat→List AVal→List AVal→Option Bool
 | [],[],[]=>some true
 | 0::t,.bool x::r,.bool y::s=>if x==y then aeqs t r s else some false
 | 1::t,.int k x::r,.int k' y::s=>if k=k' then (if x==y then aeqs t r s else some false) else none
 | 2::t,.str x::r,.str y::s=>if x.toList==y.toList then aeqs t r s else some false
 | _,_,_=>none
def aun (op:UnOp):AVal→Option AVal
 | .int k n=>match op with
  | .neg=>some (.int k (k.wrap (0 - n)))
  | .xor=>some (.int k (k.wrap (BitVec.ofInt k.bits (if k.signed then -1 else k.max) ^^^ BitVec.ofInt k.bits n).toNat))
  | _=>none
 | .flt k b=>match op with
  | .neg=>some (.flt k (Op.negFloat k b))
  | _=>none
 | .bool b=>match op with
  | .not=>some (.bool !b)
  | _=>none
 | _=>none
def afill:List AVal→List (Nat × Nat × AVal)→Option (List AVal)
 | cs,[]=>some cs
 | cs,(off,n,v)::r=>
  if v.cells.length=n∧off+n≤cs.length then afill (cs.take off++v.cells++cs.drop (off+n)) r else none
def Env.parts (T:Env):List (Nat × Nat × AOpnd)→Option (List (Nat × Nat × AVal))
 | []=>some []
 | (o,n,x)::r=>do
  let v ← T.val x
  let vs ← T.parts r
  pure ((o,n,v)::vs)
def cellsAt (H:AHeap):AVal→Option (List AVal)
 | .ptr id off=>match H.get id with
  | some (.cells _ cs)=>if off≤cs.length then some (cs.drop off) else none
  | _=>none
 | .rop cs=>some cs
 | _=>none
def aload (H:AHeap) (n:Option Nat) (a:AVal):Option AVal:=
 match cellsAt H a,n with
 | some (c::_),none=>some c
 | some cs,some n=>if n≤cs.length then some (.agg (cs.take n)) else none
 | _,_=>none
def aput (cs:List AVal) (off:Nat) (new:List AVal):List AVal:=cs.take off++new++cs.drop (off+new.length)
def astore (H:AHeap) (n:Nat) (a x:AVal):Option AHeap:=
 match a with
 | .ptr id off=>
  match H.get id with
  | some (.cells e cs)=>if x.cells.length=n∧off+n≤cs.length∧ones x.cells=true then some (H.set id (.cells e (aput cs off x.cells))) else none
  | _=>none
 | _=>none
def sliceCells (H:AHeap) (size:Nat):AVal→Option (List AVal)
 | .nils=>some []
 | .ros cs n=>if n * size≤cs.length then some (cs.take (n * size)) else none
 | .sl id off n _=>match H.get id with
  | some (.cells _ cs)=>if off+n * size≤cs.length then some ((cs.drop off).take (n * size)) else none
  | _=>none
 | .str s=>some (s.data.toList.map fun b=>.int .u8 b.toNat)
 | _=>none
def alen:AVal→Option Nat
 | .nils=>some 0
 | .ros _ n=>some n
 | .sl _ _ n _=>some n
 | .str s=>some s.size
 | _=>none
def alenT (H:AHeap):Nat→AVal→Option Nat
 | 0,.str s=>some s.size
 | 1,.nils=>some 0
 | 1,.ros _ n=>some n
 | 1,.sl _ _ n _=>some n
 | 2,.nilm=>some 0
 | 2,.map id=>match H.get id with
  | some (.map es _)=>some es.length
  | _=>none
 | 3,.nils=>some 0
 | _,_=>none
def aapp (elem:TypeId) (size bytes:Nat) (H:AHeap) (x y:AVal):Option (AVal × AHeap):=
 match alen y,sliceCells H size y with
 | some n,some new=>
  if ones new=false∨size=0∨new.length≠n * size then none else
  match x with
  | .nils=>
   if n=0 then some (.nils,H)
   else if n * bytes≤140737488355328∧n < 9223372036854775808 then some (.sl H.next 0 n none,H.push (.cells elem new)) else none
  | .sl id off len cap=>
   if n=0 then some (.sl id off len cap,H) else
   match H.get id with
   | some (.cells e cs)=>
    if off+len * size≤cs.length∧(len+n) * bytes≤140737488355328∧len+n < 9223372036854775808∧e=elem then
     match cap with
     | some c=>
      if len+n≤c then
       (if off+(len+n) * size≤cs.length then some (.sl id off (len+n) (some c),H.set id (.cells e (aput cs (off+len * size) new))) else none)
      else some (.sl H.next 0 (len+n) none,H.push (.cells elem ((cs.drop off).take (len * size)++new)))
     | none=>
      if off+(len+n) * size≤cs.length then some (.sl id off (len+n) none,H.set id (.cells e (aput cs (off+len * size) new)))
      else if off+len * size=cs.length then some (.sl H.next 0 (len+n) none,(H.del id).push (.cells elem ((cs.drop off).take (len * size)++new)))
      else none
    else none
   | _=>none
  | .ros cs len=>if n=0 then some (.ros cs len,H) else none
  | _=>none
 | _,_=>none
def aappN (elem:TypeId) (z:List AVal) (bytes:Nat) (H:AHeap) (x y:AVal):Option (AVal × AHeap):=
 match x,y with
 | .nils,.int .i64 m=>
  if 0 < m∧bytes * m≤140737488355328∧m < 9223372036854775808∧z.length≠0 then
   some (.sl H.next 0 m.toNat none,H.push (.cells elem (List.replicate m.toNat z).flatten))
  else none
 | _,_=>none
def isStr:AVal→Bool
 | .str _=>true
 | _=>false
def acopy (size:Nat) (H:AHeap) (x y:AVal):Option (AVal × AHeap):=
 if isStr y=true then none else
 match alen y,sliceCells H size y,x with
 | some n,some new,.sl id off len _=>
  match H.get id with
  | some (.cells e cs)=>
   if ones new=true∧new.length=n * size∧off+len * size≤cs.length then
    some (.int .i64 (Nat.min n len),H.set id (.cells e (aput cs off (new.take (Nat.min n len * size)))))
   else none
  | _=>none
 | some _,some _,.nils=>some (.int .i64 0,H)
 | _,_,_=>none
def keyEq:AVal→AVal→Option Bool
 | .int k a,.int k' b=>if k=k' then some (a==b) else none
 | .str a,.str b=>some (a==b)
 | .bool a,.bool b=>some (a==b)
 | _,_=>none
def findE (k:AVal):List AEntry→Nat→Option (Option (Nat × AEntry))
 | [],_=>some none
 | e::r,i=>match keyEq k e.key with
  | some true=>some (some (i,e))
  | some false=>findE k r (i+1)
  | none=>none
def simpleKey:AVal→Bool
 | .int .. | .str _ | .bool _=>true
 | _=>false
def keyOk:Nat→AVal→Bool
 | 0,.str _ | 1,.int .. | 2,.bool _=>true
 | _,_=>false
def aok (ok:Bool) (v:AVal) (b:Bool):AVal:=if ok then .tup [v,.bool b] else v
def alookup (H:AHeap) (tag:Nat) (zero:AVal) (ok:Bool) (m k:AVal):Option AVal:=
 if keyOk tag k=false then none else
 match m with
 | .nilm=>some (aok ok zero false)
 | .map id=>match H.get id with
  | some (.map es _)=>match findE k es 0 with
   | some (some (_,e))=>some (aok ok e.val true)
   | some none=>some (aok ok zero false)
   | none=>none
  | _=>none
 | _=>none
def amapent (H:AHeap) (tag:Nat) (zero m k:AVal):Option (AVal × AHeap):=
 if keyOk tag k=false then none else
 match m with
 | .map id=>match H.get id with
  | some (.map es clock)=>match findE k es 0 with
   | some (some (_,e))=>some (.tup [e.val,.int .i64 e.born],H)
   | some none=>some (.tup [zero,.int .i64 clock],H.set id (.map (es++[⟨k,zero,clock⟩]) (clock+1)))
   | none=>none
  | _=>none
 | _=>none
def setBorn (b:Int) (x:AVal):List AEntry→Option (List AEntry)
 | []=>none
 | e::r=>if (e.born:Int)==b then some ({ e with val:=x }::r) else (setBorn b x r).map (e:: ·)
def aentst (H:AHeap) (m s x:AVal):Option AHeap:=
 match m,s with
 | .map id,.int _ b=>match H.get id with
  | some (.map es clock)=>(setBorn b x es).map fun es'=>H.set id (.map es' clock)
  | _=>none
 | _,_=>none
def adel (H:AHeap) (tag:Nat) (m k:AVal):Option AHeap:=
 if keyOk tag k=false then none else
 match m with
 | .nilm=>some H
 | .map id=>match H.get id with
  | some (.map es clock)=>match findE k es 0 with
   | some (some (i,_))=>some (H.set id (.map (es.eraseIdx i) clock))
   | some none=>some H
   | none=>none
  | _=>none
 | _=>none
def abound (T:Env) (dflt top:Nat):Option AOpnd→Option Nat
 | none=>some dflt
 | some x=>match T.val x with
  | some (.int _ i)=>if 0≤i∧i≤(top:Int) then some i.toNat else none
  | _=>none
def aslc (size:Nat) (T:Env) (x:AVal) (lo hi mx:Option AOpnd):Option AVal:=
 match x with
 | .nils=>do
  let m ← abound T 0 0 mx
  let h ← abound T 0 m hi
  let l ← abound T 0 h lo
  if l=0 then some .nils else none
 | .ros cs n=>do
  if mx.isSome then none
  let h ← abound T n n hi
  let l ← abound T 0 h lo
  if n * size≤cs.length then some (.ros ((cs.drop (l * size)).take ((h - l) * size)) (h - l)) else none
 | .sl id off n (some c)=>do
  let m ← abound T c c mx
  let h ← abound T n m hi
  let l ← abound T 0 h lo
  if m=l then some (.ros [] 0) else some (.sl id (off+l * size) (h - l) (some (m - l)))
 | .sl id off n none=>do
  match mx with
  | none=>
   let h ← abound T n n hi
   let l ← abound T 0 h lo
   if l=n then some (.ros [] 0) else some (.sl id (off+l * size) (h - l) none)
  | some _=>
   let m ← abound T 0 n mx
   let h ← abound T n m hi
   let l ← abound T 0 h lo
   if m=l then some (.ros [] 0) else some (.sl id (off+l * size) (h - l) (some (m - l)))
 | _=>none
def rowOf (H:AHeap) (e:TypeId):AVal→Bool
 | .sl id _ _ none=>match H.get id with
  | some (.cells e' _)=>e'==e
  | _=>false
 | _=>true
def aslcS (T:Env) (x:AVal) (lo hi:Option AOpnd):Option AVal:=
 match x with
 | .str s=>do
  let h ← abound T s.size s.size hi
  let l ← abound T 0 h lo
  some (.str (s.extract l h))
 | _=>none
def aiaddr (_H:AHeap) (size:Nat):AVal→AVal→Option AVal
 | .sl id off n _,.int _ i=>if 0≤i∧i < (n:Int) then some (.ptr id (off+i.toNat * size)) else none
 | .ros cs n,.int _ i=>if 0≤i∧i < (n:Int)∧n * size≤cs.length then some (.rop (cs.drop (i.toNat * size))) else none
 | _,_=>none
def aiaddrA (len size:Nat):AVal→AVal→Option AVal
 | .ptr id off,.int _ i=>if 0≤i∧i < (len:Int) then some (.ptr id (off+i.toNat * size)) else none
 | .rop cs,.int _ i=>if 0≤i∧i < (len:Int) then some (.rop (cs.drop (i.toNat * size))) else none
 | _,_=>none
def afaddr (off:Nat):AVal→Option AVal
 | .ptr id o=>some (.ptr id (o+off))
 | .rop cs=>some (.rop (cs.drop off))
 | _=>none
def afld (off:Nat) (n:Option Nat):AVal→Option AVal
 | .agg cs=>match n with
  | none=>cs[off]?
  | some n=>if off+n≤cs.length then some (.agg ((cs.drop off).take n)) else none
 | _=>none
def aidxS:AVal→AVal→Option AVal
 | .str s,.int _ i=>if 0≤i then (s[i.toNat]?).map fun b=>.int .u8 b.toNat else none
 | _,_=>none
def bytesOf:List AVal→Option (List UInt8)
 | []=>some []
 | .int .u8 n::r=>(bytesOf r).map (UInt8.ofNat n.toNat:: ·)
 | _=>none
def abytesStr (H:AHeap) (v:AVal):Option AVal:=
 if isStr v=true then none else
 match alen v,sliceCells H 1 v with
 | some _,some cs=>(bytesOf cs).map fun bs=>.str ⟨bs.toArray⟩
 | _,_=>none
def atassert (t:TypeId) (z:AVal) (ok:Bool):AVal→Option AVal
 | .ifc u v=>if u=t then some (if ok then .tup [v,.bool true] else v) else if ok then some (.tup [z,.bool false]) else none
 | .nili=>if ok then some (.tup [z,.bool false]) else none
 | _=>none
def rowq:List AVal→Bool
 | [.int .u8 _]=>true
 | _=>false
inductive ANext where
 | value (v:AVal) (H:AHeap)
 | enter (f:FuncId) (args:List AVal)
 | anyOf (l:List (AVal × AHeap))
 | pan (v:AVal)
 | dfr (f:FuncId) (args:List AVal)
def anext (es:List AEntry) (since:Nat) (seen:List Nat):List (Option AEntry):=
 let left:=es.filter fun e=> !seen.contains e.born
 let old:=left.filter fun e=>decide (e.born < since)
 let new:=left.filter fun e=>decide (since≤e.born)
 (if old.isEmpty then [none] else [])++(old++new).map some
def anextTo (H:AHeap) (r m since:Nat) (seen:List Nat) (clock:Nat):Option AEntry→AVal × AHeap
 | none=>(.tup [.bool false],H)
 | some e=>(.tup [.bool true,e.key,e.val],H.set r (.miter m since (seen++[e.born]) clock))
def anextM (H:AHeap) (x:AVal):Option ANext:=
 match x with
 | .ptr r 0=>match H.get r with
  | some (.miter m since seen last)=>match H.get m with
   | some (.map es clock)=>
    if !seen.isEmpty&& !es.isEmpty&&es.all (fun e=>decide (last≤e.born)) then none else some (.anyOf ((anext es since seen).map (anextTo H r m since seen clock)))
   | _=>none
  | _=>none
 | _=>none
def aentM (H:AHeap) (x:AVal):Option AVal:=
 match x with
 | .ptr r 0=>match H.get r with
  | some (.miter m _ seen stepped)=>match seen.getLast?,H.get m with
   | some stamp,some (.map es clock)=>
    if clock=stepped then (es.find? fun e=>e.born==stamp).map fun e=>.tup [e.key,e.val] else none
   | _,_=>none
  | _=>none
 | _=>none
def aext0:List AVal→Option AVal
 | [.flt .f64 b]=>some (.int .u64 b)
 | _=>none
def aext1:List AVal→Option AVal
 | [.int .u64 n]=>some (.flt .f64 n.toNat)
 | _=>none
def aext2:List AVal→Option AVal
 | [.str b,.int .u8 c]=>some (match (List.range b.size).find? (fun i=>b[i]! ==c.toNat.toUInt8) with
  | some i=>.int .i64 i
  | none=>.int .i64 (-1))
 | _=>none
def aext3 (way:Ieee.Toward):List AVal→Option AVal
 | [.flt .f64 b]=>match FloatKind.f64.decode b with
  | .nan _ _=>none
  | d=>some (.flt .f64 (FloatKind.f64.encode (d.integral way)))
 | _=>none
def aext6:List AVal→Option AVal
 | [.int k x,.int k' y]=>if k=k' then some (.int k (if y > x then y else x)) else none
 | _=>none
def aext7:List AVal→Option AVal
 | [.str a,.str b]=>some (.int .i64 (Extern.BytealgCompare.cmp a b))
 | _=>none
def aext (k:Nat) (as:List AVal):Option AVal:=match k with
 | 0=>aext0 as
 | 1=>aext1 as
 | 2=>aext2 as
 | 3=>aext3 .zero as
 | 4=>aext3 .down as
 | 5=>aext3 .up as
 | 6=>aext6 as
 | 7=>aext7 as
 | _=>none
def fltInt (s s':FloatKind) (k:IntKind) (b:Nat):Option Int:=
 if s=s' then
  match (s.decode b).toInt .zero with
  | some n=>if k.min≤n∧n≤k.max then some n else none
  | none=>none
 else none
def astep (op:AOp) (T:Env) (H:AHeap):Option ANext:=
 match op with
 | .mv x=>do some (.value (← T.val x) H)
 | .pick c a b=>match T.val c with
  | some (.bool true)=>do some (.value (← T.val a) H)
  | some (.bool false)=>do some (.value (← T.val b) H)
  | _=>none
 | .bin op x y=>do some (.value (← abin op (← T.val x) (← T.val y)) H)
 | .eqB neq x y=>match T.val x,T.val y with
  | some (.bool a),some (.bool b)=>some (.value (.bool (neq ^^ (a==b))) H)
  | _,_=>none
 | .eqN tag neq x y=>do some (.value (.bool (neq ^^ (← anil tag (← T.val x) (← T.val y)))) H)
 | .eqAgg n neq x y=>match T.val x,T.val y with
  | some (.agg xs),some (.agg ys)=>do some (.value (.bool (neq ^^ (← aeqs n xs ys))) H)
  | _,_=>none
 | .un op x=>do some (.value (← aun op (← T.val x)) H)
 | .conv c x=>do
  let v ← T.val x
  match c,v with
  | .toInt k,.int _ n=>some (.value (.int k (k.wrap n)) H)
  | .toFlt k,.int _ n=>some (.value (.flt k (k.nearest n)) H)
  | .fltInt s k,.flt s' b=>do some (.value (.int k (← fltInt s s' k b)) H)
  | .strstr,.str s=>some (.value (.str s) H)
  | .strBytes e,.str s=>if s.size < 9223372036854775808 then some (.value (.sl H.next 0 s.size none) (H.push (.cells e (s.data.toList.map fun b=>.int .u8 b.toNat)))) else none
  | .bytesStr,v=>do some (.value (← abytesStr H v) H)
  | _,_=>none
 | .box e x=>do some (.value (.ptr H.next 0) (H.push (.cells e (← T.val x).cells)))
 | .alloc e z=>some (.value (.ptr H.next 0) (H.push (.cells e z.cells)))
 | .build z ps=>do some (.value (.agg (← afill z (← T.parts ps))) H)
 | .bslice e n z ps=>do
  let cs ← afill z (← T.parts ps)
  match rowq z with
  | true=>some (.value (.ros cs n) H)
  | false=>some (.value (.sl H.next 0 n (some n)) (H.push (.cells e cs)))
 | .load n a=>do some (.value (← aload H n (← T.val a)) H)
 | .store n a x=>do some (.value aundef (← astore H n (← T.val a) (← T.val x)))
 | .nilchk x=>match T.val x with
  | some (.ptr i o)=>some (.value (.ptr i o) H)
  | some (.rop cs)=>some (.value (.rop cs) H)
  | some (.fn (.func f) a b)=>some (.value (.fn (.func f) a b) H)
  | some (.ifc t v)=>some (.value (.ifc t v) H)
  | _=>none
 | .faddr o x=>do some (.value (← afaddr o (← T.val x)) H)
 | .fld o n x=>do some (.value (← afld o n (← T.val x)) H)
 | .iaddr n x i=>do some (.value (← aiaddr H n (← T.val x) (← T.val i)) H)
 | .iaddrA l n x i=>do some (.value (← aiaddrA l n (← T.val x) (← T.val i)) H)
 | .idxS x i=>do some (.value (← aidxS (← T.val x) (← T.val i)) H)
 | .slcS x lo hi=>do some (.value (← aslcS T (← T.val x) lo hi) H)
 | .slc e n x lo hi mx=>do
  let v ← T.val x
  if rowOf H e v=true then some (.value (← aslc n T v lo hi mx) H) else none
 | .mkmap=>some (.value (.map H.next) (H.push (.map [] 0)))
 | .mkslice e z bytes x y=>match T.val x,T.val y with
  | some (.int .i64 l),some (.int .i64 c)=>
   if 0≤l∧l≤c∧bytes * c≤140737488355328∧c < 9223372036854775808∧z.length≠0 then
    some (.value (.sl H.next 0 l.toNat (some c.toNat)) (H.push (.cells e (List.replicate c.toNat z).flatten)))
   else none
  | _,_=>none
 | .mkfn f a b=>do some (.value (.fn f (← T.vals a) (← T.vals b)) H)
 | .mkifc t x=>do some (.value (.ifc t (← T.val x)) H)
 | .lookup g z ok m k=>do some (.value (← alookup H g z ok (← T.val m) (← T.val k)) H)
 | .mapent g z m k=>do
  let r ← amapent H g z (← T.val m) (← T.val k)
  some (.value r.1 r.2)
 | .entst m s x=>do some (.value aundef (← aentst H (← T.val m) (← T.val s) (← T.val x)))
 | .rngS x=>match T.val x with
  | some (.str s)=>some (.value (.ptr H.next 0) (H.push (.siter s 0)))
  | _=>none
 | .nxtS x=>match T.val x with
  | some (.ptr id 0)=>match H.get id with
   | some (.siter s pos)=>
    if pos < s.size then
     some (.value (.tup [.bool true,.int .i64 pos,.int .i32 (Utf8.decode s pos).1]) (H.set id (.siter s (pos+(Utf8.decode s pos).2))))
    else some (.value (.tup [.bool false]) H)
   | _=>none
  | _=>none
 | .rngM x=>match T.val x with
  | some (.map m)=>match H.get m with
   | some (.map _ clock)=>some (.value (.ptr H.next 0) (H.push (.miter m clock [] clock)))
   | _=>none
  | _=>none
 | .nxtM x=>match T.val x with
  | some v=>anextM H v
  | none=>none
 | .entM x=>do some (.value (← aentM H (← T.val x)) H)
 | .extract x i=>match T.val x with
  | some (.tup vs)=>do some (.value (← vs[i]?) H)
  | _=>none
 | .len tag x=>do some (.value (.int .i64 (← alenT H tag (← T.val x))) H)
 | .app e n b x y=>do
  let r ← aapp e n b H (← T.val x) (← T.val y)
  some (.value r.1 r.2)
 | .appN e z b x y=>do
  let r ← aappN e z b H (← T.val x) (← T.val y)
  some (.value r.1 r.2)
 | .copy n x y=>do
  let r ← acopy n H (← T.val x) (← T.val y)
  some (.value r.1 r.2)
 | .del g m k=>do some (.value (.tup []) (← adel H g (← T.val m) (← T.val k)))
 | .tassert t z ok x=>do some (.value (← atassert t z ok (← T.val x)) H)
 | .callF f args=>do some (.enter f (← T.vals args))
 | .callV f args=>match T.val f with
  | some (.fn (.func g) first cap)=>do some (.enter g (first++(← T.vals args)++cap))
  | _=>none
 | .callI _ _ _=>none
 | .ext k args=>do some (.value (← aext k (← T.vals args)) H)
 | .pan x=>match T.val x with
  | some (.ifc t v)=>some (.pan (.ifc t v))
  | _=>none
 | .dfr f args=>match T.val f with
  | some (.fn (.func g) first cap)=>do some (.dfr g (first++(← T.vals args)++cap))
  | _=>none
 | .recov=>none
def laidAt:Nat→Option (List AVal):=fun g=>if g=1 then some (List.replicate 9 (AVal.int .u8 0)++(List.replicate 5 (AVal.int .u8 1)++(List.replicate 18 (AVal.int .u8 0)++([AVal.int .u8 1]++List.replicate 223 (AVal.int .u8 0))))) else if g=2 then some [AVal.rop [AVal.ros [.int .u16 9,.int .u16 13,.int .u16 1,.int .u16 32,.int .u16 133,.int .u16 101,.int .u16 160,.int .u16 5760,.int .u16 5600,.int .u16 8192,.int .u16 8202,.int .u16 1,.int .u16 8232,.int .u16 8233,.int .u16 1,.int .u16 8239,.int .u16 8287,.int .u16 48,.int .u16 12288,.int .u16 12288,.int .u16 1] 7,.nils,.int .i64 2]] else none
def gl (g:Nat):AOpnd:=.c (.rop ((laidAt g).getD []))
end Go.Am
