/- Parts: V30, V35, V36, V31, LT1, W1. -/
import Derived.Test.YtmoimchdhgoeeaaDoorXB
import Derived.Test.YtmoimchdhgoeeaaDoorAmS
import Derived.Test.YtmoimchdhgoeeaaDoorFn3
set_option linter.unusedVariables false
set_option linter.unusedSimpArgs false
set_option maxRecDepth 20000
namespace Go.Am.Rl
open Go.Proofs
theorem strOf_cat (a b:List Int):strOf a++strOf b=strOf (a++b):=by
 apply ByteArray.ext
 rw [ByteArray.data_append]
 simp [strOf]
theorem strOf_at {l:List Int} {i:Nat} {n:Int} (h:l[i]? = some n):(strOf l)[i]? = some (UInt8.ofNat n.toNat):=by
 have hlt:i < l.length:=(List.getElem?_eq_some_iff.mp h).1
 have hs:i < (strOf l).size:=by rw [strOf_size]; exact hlt
 have e:(strOf l).data[i]? = some (UInt8.ofNat n.toNat):=by unfold strOf; simp [h]
 rw [getElem?_pos (strOf l) i hs]
 rw [getElem?_pos (strOf l).data i hs] at e
 exact e
theorem strOf_end {l:List Int} {i:Nat} (h:l.length≤i):(strOf l)[i]? = none:=byte_none (by rw [strOf_size]; omega)
theorem u8_nat {n:Nat} (h:n < 256):(UInt8.ofNat ((n:Int)).toNat).toNat=n:=by
 rw [Int.toNat_natCast,UInt8.toNat_ofNat']
 exact Nat.mod_eq_of_lt h
theorem wrapU64 {n:Nat} (h:n < 18446744073709551616):IntKind.u64.wrap (n:Int)=(n:Int):=by
 rw [IntKind.wrap_u64]
 omega
theorem wrapU8 {n:Nat} (h:n < 256):IntKind.u8.wrap (n:Int)=(n:Int):=by
 rw [IntKind.wrap_u8]
 omega
def hexc (d:Nat):Nat:=if d < 10 then 48+d else 87+d
theorem hexc_lt {d:Nat} (h:d < 16):hexc d < 256:=by unfold hexc; split <;> omega
theorem hexv_hexc:∀ d,d < 16→hexv (hexc d)=(d:Int):=by decide
def hexd (u j:Nat):Nat:=u / 16 ^ (15 - j) % 16
def hexL (u n:Nat):List Int:=(List.range n).map fun j=>((hexc (hexd u j):Nat):Int)
theorem hexL_at {u n j:Nat} (h:j < n):(hexL u n)[j]? = some ((hexc (hexd u j):Nat):Int):=by
 unfold hexL
 rw [List.getElem?_map,List.getElem?_range h]; rfl
theorem hexL_succ (u n:Nat):hexL u (n+1)=hexL u n++[((hexc (hexd u n):Nat):Int)]:=by
 unfold hexL
 rw [List.range_succ,List.map_append]; rfl
theorem hexL_len (u n:Nat):(hexL u n).length=n:=by simp [hexL]
theorem accU_eq {a d:Nat} (ha:a * 16+15 < 18446744073709551616) (hd:d < 16):accU (a:Nat) (d:Nat)=((a * 16+d:Nat):Int):=by
 have e1:shU (a:Int)=((a * 16:Nat):Int):=by
  unfold shU
  have:(a:Int) * 2 ^ (min (4:Int).toNat IntKind.u64.bits)=((a * 16:Nat):Int):=by
   have:min (4:Int).toNat IntKind.u64.bits=4:=by decide
   rw [this]; omega
  rw [this]; exact wrapU64 (by omega)
 have e2:IntKind.u64.wrap (d:Int)=(d:Int):=wrapU64 (by omega)
 unfold accU orU
 rw [e1,e2]
 have hb:IntKind.u64.bits=64:=by decide
 have h1:(BitVec.ofInt IntKind.u64.bits ((a * 16:Nat):Int) ||| BitVec.ofInt IntKind.u64.bits (d:Int)).toNat=a * 16+d:=by
  rw [hb,BitVec.toNat_or,BitVec.ofInt_natCast,BitVec.ofInt_natCast,BitVec.toNat_ofNat,BitVec.toNat_ofNat,Nat.mod_eq_of_lt (by omega),Nat.mod_eq_of_lt (by omega)]
  have:=Nat.shiftLeft_add_eq_or_of_lt (i:=4) hd a
  rw [Nat.shiftLeft_eq] at this
  exact this.symm
 rw [h1]
 exact wrapU64 (by omega)
def stepN (v:Nat) (c:Int):Nat:=10 * v+(c - 48).toNat
def digOk (c:Int):Prop:=48≤c∧c≤57
theorem foldN_ge:∀ (l:List Int) (v:Nat),v≤l.foldl stepN v
 | [],v=>Nat.le_refl _
 | c::l,v=>by
  have:=foldN_ge l (stepN v c)
  unfold stepN at this
  simp only [List.foldl_cons]
  unfold stepN
  omega
theorem wholeW_fold {s:ByteArray}:∀ (l:List Int) (i v:Nat),(∀ j,j < l.length→s[i+j]? = (l[j]?).map fun n=>UInt8.ofNat n.toNat)→(∀ c ∈ l,digOk c)→l.foldl stepN v < 900000000000000000→
  wholeW s l.length i (v:Int)=((l.foldl stepN v:Nat):Int)
 | [],i,v,_,_,_=>rfl
 | c::l,i,v,hs,hd,hlt=>by
  have h0:=hs 0 (by simp)
  have hc:=hd c (List.mem_cons_self ..)
  obtain ⟨n,rfl⟩:∃ n:Nat,c=n:=⟨c.toNat,by unfold digOk at hc; omega⟩
  have hn:48≤n∧n≤57:=by unfold digOk at hc; omega
  have hge:=foldN_ge l (stepN v n)
  have h10:10 * v≤stepN v n:=by unfold stepN; omega
  simp only [List.foldl_cons] at hlt ⊢
  have h0:s[i]? = some (UInt8.ofNat (n:Int).toNat):=h0
  have hst:stepD (v:Int) (UInt8.ofNat (n:Int).toNat)=((stepN v n:Nat):Int):=by
   unfold stepD
   rw [u8_nat (by omega)]
   have e1:IntKind.u8.wrap ((n:Int) - 48)=((n - 48:Nat):Int):=by
    have:=wrapU8 (n:=n - 48) (by omega)
    rw [← this]; congr 1; omega
   have e2:IntKind.i64.wrap (10 * (v:Int))=((10 * v:Nat):Int):=by
    have:=wrap64 (n:=10 * v) (by omega)
    rw [← this]; congr 1
   have e3:IntKind.i64.wrap (((10 * v:Nat):Int)+((n - 48:Nat):Int))=((stepN v n:Nat):Int):=by
    have:=wrap64 (n:=stepN v n) (by omega)
    rw [← this]; congr 1
    unfold stepN; omega
   rw [e1,e2,wrap64 (n:=n - 48) (by omega),e3]
  simp only [List.length_cons,wholeW,h0,hst]
  refine wholeW_fold l (i+1) (stepN v n) (fun j hj=> ?_) (fun c hc=>hd c (List.mem_cons_of_mem _ hc)) hlt
  have:=hs (j+1) (by simp; omega)
  rw [List.getElem?_cons_succ] at this
  rw [← this]; congr 1; omega
theorem whole_fold {l:List Int} (hd:∀ c ∈ l,digOk c) (hlt:l.foldl stepN 0 < 900000000000000000):whole (strOf l)=((l.foldl stepN 0:Nat):Int):=by
 unfold whole
 rw [strOf_size]
 refine wholeW_fold l 0 0 (fun j hj=> ?_) hd hlt
 rw [Nat.zero_add,strOf_at (List.getElem?_eq_getElem hj),List.getElem?_eq_getElem hj]; rfl
theorem skipW_run {p:Nat→Bool} {s:ByteArray} {e:Nat}:∀ (n i:Nat),i≤e→e - i < n→(∀ j,i≤j→j < e→∃ b,s[j]? = some b∧p b.toNat=true)→(∀ b,s[e]? = some b→p b.toNat=false)→skipW p s n i=e
 | 0,i,_,h,_,_=>by omega
 | n+1,i,hi,hn,hall,hend=>by
  by_cases he:i=e
  ·subst he
   unfold skipW
   split
   ·rename_i b hb
    rw [hend b hb,if_neg (by simp)]
   ·rfl
  ·obtain ⟨b,hb,hp⟩:=hall i (Nat.le_refl _) (by omega)
   simp only [skipW,hb,hp,if_true]
   exact skipW_run n (i+1) (by omega) (by omega) (fun j h1 h2=>hall j (by omega) h2) hend
theorem skip_run {p:Nat→Bool} {s:ByteArray} {i e:Nat} (hi:i≤e) (he:e≤s.size) (hall:∀ j,i≤j→j < e→∃ b,s[j]? = some b∧p b.toNat=true) (hend:∀ b,s[e]? = some b→p b.toNat=false):skip p s i=e:=by
 rw [skip]
 rcases Nat.lt_or_ge e s.size with h | h
 ·exact skipW_run _ _ hi (by omega) hall hend
 ·have:e=s.size:=by omega
  subst this
  have h1:=(skipW_le p s (s.size - i) i (by omega)).2
  by_cases hlt:skipW p s (s.size - i) i=s.size
  ·exact hlt
  ·have h2:=skipW_run (p:=p) (s:=s) (e:=s.size) (s.size - i+1) i hi (by omega) hall hend
   have h3:∀ n i,s.size - i≤n→skipW p s (n+1) i=skipW p s n i:=by
    intro n
    induction n with
    | zero=>intro i h; simp only [skipW,byte_none (show ¬ i < s.size by omega)]
    | succ n ih=>
     intro i h
     rw [skipW]
     conv=>rhs; rw [skipW]
     split
     ·split
      ·exact ih (i+1) (by omega)
      ·rfl
     ·rfl
   rw [h3 _ _ (Nat.le_refl _)] at h2
   exact h2
end Go.Am.Rl
namespace Go.Am.Rl
open Go.Proofs
def Agree (s t:ByteArray) (i o e:Nat):Prop:=∀ k,i+k < e→t[o+k]? = s[i+k]?
theorem Agree.at {s t:ByteArray} {i o e j:Nat} (h:Agree s t i o e) (hi:i≤j) (hj:j < e):t[o+(j - i)]? = s[j]? :=by
 have:=h (j - i) (by omega)
 rw [this]; congr 1; omega
theorem Agree.from {s t:ByteArray} {i o e j:Nat} (h:Agree s t i o e) (hi:i≤j):Agree s t j (o+(j - i)) e:=by
 intro k hk
 have:=h (j - i+k) (by omega)
 have e1:o+(j - i)+k=o+(j - i+k):=by omega
 have e2:i+(j - i+k)=j+k:=by omega
 rw [e1,this,e2]
def sep (c:Nat):Bool:=((c:Int)==37) || blank c
section
variable {s t:ByteArray} {i o e:Nat} {b:UInt8}
end
end Go.Am.Rl
namespace Go.Am.Rl
open Go.Proofs
theorem stands_at {s g:ByteArray} {i:Nat} (h:stands s i g=true):∀ k,k < g.size→s[i+k]? = g[k]? :=by
 intro k hk
 unfold stands at h
 rw [Bool.and_eq_true] at h
 have hle:=of_decide_eq_true h.1
 have he:=eq_of_beq h.2
 rw [Go.ByteArray.toList_eq,Go.ByteArray.toList_eq] at he
 have hg:s.extract i (i+g.size)=g:=ByteArray.ext (Array.toList_inj.mp he)
 rw [← ext_at (s:=s) (a:=i) (b:=i+g.size) hle (by omega),hg]
theorem stands_of {s g:ByteArray} {i:Nat} (h0:0 < g.size) (h:∀ k,k < g.size→s[i+k]? = g[k]?):stands s i g=true:=by
 have hl:=h (g.size - 1) (by omega)
 rw [getElem?_pos g (g.size - 1) (by omega)] at hl
 have hle:=size_of_some hl
 have hsz:(s.extract i (i+g.size)).size=g.size:=by rw [size_ext (by omega)]; omega
 have hg:s.extract i (i+g.size)=g:=by
  apply ByteArray.ext_getElem
  ·exact hsz
  ·intro k h1 h2
   have e1:=ext_at (s:=s) (a:=i) (b:=i+g.size) (k:=k) (by omega) (by omega)
   rw [h k h2,getElem?_pos _ k h1,getElem?_pos _ k h2] at e1
   exact Option.some.inj e1
 unfold stands
 rw [hg,decide_eq_true (by omega)]
 simp
def plain (g:ByteArray):Prop:=0 < g.size∧∀ (k:Nat) (b:UInt8),g[k]? = some b→sep b.toNat=false
theorem plain_of {g:ByteArray} (h0:0 < g.size) (h:(g.data.toList.all fun b:UInt8=> !sep b.toNat)=true):plain g:=by
 refine ⟨h0,fun k b hb=> ?_⟩
 have hk:=size_of_some hb
 have hm:b ∈ g.data.toList:=by
  rw [getElem?_pos g k hk] at hb
  injection hb with hb
  rw [← hb]
  exact Array.mem_toList_iff.mpr (Array.getElem_mem _)
 have:=List.all_eq_true.1 h b hm
 simpa using this
theorem signs_plain:∀ g ∈ signs,plain g:=by
 intro g hg
 unfold signs at hg
 simp only [List.mem_cons,List.not_mem_nil,or_false] at hg
 rcases hg with h | h | h | h | h | h | h | h | h | h | h | h | h | h | h | h | h | h | h | h | h | h | h | h | h | h | h
 all_goals
  subst h
  exact plain_of (by decide) (by decide)
end Go.Am.Rl
namespace Go.Am.Rl
open Go.Proofs
end Go.Am.Rl
namespace Go.Am.Rl
open Go.Proofs
def AtL (t:ByteArray) (o:Nat) (l:List Int):Prop:=∀ (q:Nat) (c:Int),l[q]? = some c→t[o+q]? = some (UInt8.ofNat c.toNat)
section
variable {t:ByteArray} {i j o e:Nat} {a b:List Int} {c:Int}
theorem AtL.left (h:AtL t o (a++b)):AtL t o a:=fun q c hq=>h q c (by rw [List.getElem?_append_left (List.getElem?_eq_some_iff.1 hq).1]; exact hq)
theorem AtL.right (h:AtL t o (a++b)):AtL t (o+a.length) b:=fun q c hq=>by
 have:=h (a.length+q) c (by rw [List.getElem?_append_right (by omega),Nat.add_sub_cancel_left]; exact hq)
 rw [Nat.add_assoc]; exact this
theorem AtL.head (h:AtL t o (c::a)):t[o]? = some (UInt8.ofNat c.toNat):=h 0 c rfl
theorem AtL.tail (h:AtL t o (c::a)):AtL t (o+1) a:=fun q x hq=>by
 have:=h (q+1) x (by rw [List.getElem?_cons_succ]; exact hq)
 rw [Nat.add_assoc,Nat.add_comm 1 q]; exact this
theorem AtL.self (l:List Int):AtL (strOf l) 0 l:=fun q c hq=>by rw [Nat.zero_add]; exact strOf_at hq
theorem AtL.size (h:AtL t o a) (ha:0 < a.length):o+a.length≤t.size:=by
 obtain ⟨c,hc⟩:∃ c,a[a.length - 1]? = some c:=⟨_,List.getElem?_eq_getElem (by omega)⟩
 have:=size_of_some (h _ c hc)
 omega
theorem AtL.extract (h:AtL t o a) (ha:0 < a.length):t.extract o (o+a.length)=strOf a:=by
 have hs:=h.size ha
 apply ByteArray.ext_getElem
 ·rw [size_ext hs,strOf_size]; omega
 ·intro q g1 g2
  have hq:q < a.length:=by rw [strOf_size] at g2; exact g2
  have e1:=ext_at (s:=t) (a:=o) (b:=o+a.length) (k:=q) hs (by omega)
  rw [h q _ (List.getElem?_eq_getElem hq),getElem?_pos _ q g1] at e1
  have e2:=strOf_at (l:=a) (i:=q) (List.getElem?_eq_getElem hq)
  rw [getElem?_pos _ q g2] at e2
  exact Option.some.inj (e1.trans e2.symm)
def Fo (t:ByteArray) (j:Nat):Prop:=t[j]? = none∨∃ c:UInt8,t[j]? = some c∧(c=44∨c=93∨c=125)
theorem Fo.pass (h:Fo t j):pass t j=j:=by
 rcases h with h | ⟨c,h,hc⟩
 ·exact pass_end h
 ·rcases hc with rfl | rfl | rfl <;> exact pass_stop h (by decide) (by decide)
theorem Fo.nam (h:Fo t j):∀ b,t[j]? = some b→isNam b.toNat=false∧isDig b.toNat=false:=by
 intro b hb
 rcases h with h | ⟨c,h,hc⟩
 ·rw [h] at hb; cases hb
 ·rw [h] at hb; injection hb with hb; subst hb
  rcases hc with rfl | rfl | rfl <;> exact ⟨rfl,rfl⟩
theorem Fo.dot (h:Fo t j):dotted t j=false:=by
 unfold dotted
 rcases h with h | ⟨c,h,hc⟩
 ·rw [h]
 ·rw [h]
  rcases hc with rfl | rfl | rfl <;> cases t[j+1]? <;> rfl
def er (c:List AVal):List AVal:=c.set 4 (.int .i64 0)
def LX (t:ByteArray) (i:Nat) (L:List (List AVal)) (j:Nat):Prop:=∀ acc,∃ l',l'.map er=L∧toks t i acc=toks t j (acc++l')
theorem LX.trans {L M:List (List AVal)} {k:Nat} (a:LX t i L j) (b:LX t j M k):LX t i (L++M) k:=fun acc=>by
 obtain ⟨l1,h1,e1⟩:=a acc
 obtain ⟨l2,h2,e2⟩:=b (acc++l1)
 exact ⟨l1++l2,by rw [List.map_append,h1,h2],by rw [e1,e2,List.append_assoc]⟩
theorem LX.one {c:UInt8} {k:Int} {w:ByteArray} {n:Int} {f:Nat} (hc:t[i]? = some c) (ht:token t i c.toNat (i:Nat) = .inr (tokC k w n f (i:Nat),e)) (hj:pass t e=j):LX t i [tokC k w n f 0] j:=fun acc=>
 ⟨[tokC k w n f (i:Nat)],rfl,by rw [toks_more hc ht]; dsimp only; rw [hj]⟩
def Nb (t:ByteArray) (j:Nat):Prop:=∃ c,t[j]? = some c∧sep c.toNat=false
theorem Nb.pass (h:Nb t j):pass t j=j:=by
 obtain ⟨c,hc,hs⟩:=h
 unfold sep at hs
 rw [Bool.or_eq_false_iff] at hs
 exact pass_stop hc hs.1 hs.2
theorem sign_filter {c:UInt8} (hc:t[i]? = some c):∀ l:List ByteArray,(∀ g ∈ l,plain g)→signIn t i l=signIn t i (l.filter fun g=>g[0]? ==some c)
 | [],_=>rfl
 | g::r,hp=>by
  have ih:=sign_filter hc r (fun g hg=>hp g (List.mem_cons_of_mem _ hg))
  cases h:(g[0]? ==some c) with
  | true=>rw [List.filter_cons_of_pos (by simpa using h)]; simp only [signIn,ih]
  | false=>
   rw [List.filter_cons_of_neg (by simp [h])]
   have:stands t i g=false:=by
    cases hs:stands t i g with
    | false=>rfl
    | true=>
     have:=stands_at hs 0 (hp g (List.mem_cons_self ..)).1
     rw [Nat.add_zero,hc] at this
     rw [← this] at h; simp at h
   simp only [signIn,this,Bool.false_eq_true,if_false]; exact ih
theorem tok_sign {c:Nat} {pl:Int} (h:(isName c || isDig c || ((c:Int)==35) || ((c:Int)==39) || ((c:Int)==34))=false):token t i c pl=signTok t i pl:=by
 simp only [Bool.or_eq_false_iff] at h
 obtain ⟨⟨⟨⟨h1,h2⟩,h3⟩,h4⟩,h5⟩:=h
 unfold token
 rw [h1,h2,h3,h4,h5]; rfl
theorem lx_sign {c:UInt8} {w:ByteArray} (hc:t[i]? = some c) (hk:(isName c.toNat || isDig c.toNat || ((c.toNat:Int)==35) || ((c.toNat:Int)==39) || ((c.toNat:Int)==34))=false) (hw:0 < w.size) (hs:signIn t i (signs.filter fun g=>g[0]? ==some c)=w) (hj:pass t (i+w.size)=j):LX t i [tokC 6 w 0 0 0] j:=by
 refine LX.one hc ?_ hj
 rw [tok_sign hk]
 have:signAt t i=w:=by unfold signAt; rw [sign_filter hc signs signs_plain,hs]
 unfold signTok
 have hz:decide (w.size=0)=false:=decide_eq_false (by omega)
 rw [this,hz,if_neg (by simp)]
theorem sign_single {c:UInt8} (w:ByteArray) (hw:w=⟨#[c]⟩) (hc:t[i]? = some c):signIn t i [w]=w:=by
 have:stands t i w=true:=stands_of (by rw [hw]; exact Nat.one_pos) (fun k hk=>by
  have:k=0:=by rw [hw] at hk; exact Nat.lt_one_iff.mp hk
  subst this; rw [hw,Nat.add_zero,hc]; rfl)
 simp only [signIn,this,if_true]
def sg (c:UInt8):List AVal:=tokC 6 ⟨#[c]⟩ 0 0 0
theorem lx_one (c:UInt8) (h:c=44∨c=91∨c=93∨c=123∨c=125) (hc:t[i]? = some c) (hj:pass t (i+1)=j):LX t i [sg c] j:=by
 rcases h with rfl | rfl | rfl | rfl | rfl
 ·exact lx_sign (w:=⟨#[44]⟩) hc (by decide) (by decide) (by rw [show (signs.filter fun g=>g[0]? ==some 44)=[⟨#[44]⟩] by kernel_rfl]; exact sign_single _ rfl hc) hj
 ·exact lx_sign (w:=⟨#[91]⟩) hc (by decide) (by decide) (by rw [show (signs.filter fun g=>g[0]? ==some 91)=[⟨#[91]⟩] by kernel_rfl]; exact sign_single _ rfl hc) hj
 ·exact lx_sign (w:=⟨#[93]⟩) hc (by decide) (by decide) (by rw [show (signs.filter fun g=>g[0]? ==some 93)=[⟨#[93]⟩] by kernel_rfl]; exact sign_single _ rfl hc) hj
 ·exact lx_sign (w:=⟨#[123]⟩) hc (by decide) (by decide) (by rw [show (signs.filter fun g=>g[0]? ==some 123)=[⟨#[123]⟩] by kernel_rfl]; exact sign_single _ rfl hc) hj
 ·exact lx_sign (w:=⟨#[125]⟩) hc (by decide) (by decide) (by rw [show (signs.filter fun g=>g[0]? ==some 125)=[⟨#[125]⟩] by kernel_rfl]; exact sign_single _ rfl hc) hj
theorem lx_minus {c:UInt8} (hc:t[i]? = some 45) (hn:t[i+1]? = some c) (h:c≠62) (hj:Nb t (i+1)):LX t i [sg 45] (i+1):=by
 refine lx_sign (w:=⟨#[45]⟩) hc (by decide) (by decide) ?_ hj.pass
 rw [show (signs.filter fun g=>g[0]? ==some 45)=[⟨#[45,62]⟩,⟨#[45]⟩] by kernel_rfl]
 have:stands t i ⟨#[45,62]⟩=false:=by
  cases hs:stands t i ⟨#[45,62]⟩ with
  | false=>rfl
  | true=>
   have:=stands_at hs 1 (by decide)
   rw [hn] at this
   exact absurd (Option.some.inj this) h
 rw [signIn,this,if_neg (by simp)]
 exact sign_single _ rfl hc
end
def decL (u:Nat):List Int:=if h:u < 10 then [((48+u:Nat):Int)] else decL (u / 10)++[((48+u % 10:Nat):Int)]
termination_by u
decreasing_by omega
theorem decL_lt {u:Nat} (h:u < 10):decL u=[((48+u:Nat):Int)]:=by rw [decL,dif_pos h]
theorem decL_ge {u:Nat} (h:¬ u < 10):decL u=decL (u / 10)++[((48+u % 10:Nat):Int)]:=by rw [decL,dif_neg h]
theorem decL_all (u:Nat):(∀ c ∈ decL u,digOk c)∧(decL u).foldl stepN 0=u∧0 < (decL u).length∧(10≤u→∃ c r,decL u=c::r∧c≠48):=by
 induction u using Nat.strongRecOn with
 | _ u ih=>
  by_cases h:u < 10
  ·rw [decL_lt h]
   refine ⟨fun c hc=> ?_,?_,by simp,fun h2=>by omega⟩
   ·rw [List.mem_singleton.mp hc]; unfold digOk; omega
   ·simp only [List.foldl_cons,List.foldl_nil,stepN]; omega
  ·obtain ⟨h1,h2,h3,h4⟩:=ih (u / 10) (by omega)
   rw [decL_ge h]
   refine ⟨fun c hc=> ?_,?_,by simp,fun _=> ?_⟩
   ·rcases List.mem_append.mp hc with hc | hc
    ·exact h1 c hc
    ·rw [List.mem_singleton.mp hc]; unfold digOk; omega
   ·rw [List.foldl_append,h2]
    simp only [List.foldl_cons,List.foldl_nil,stepN]; omega
   ·by_cases h5:10≤u / 10
    ·obtain ⟨c,r,e,hc⟩:=h4 h5
     exact ⟨c,r++[((48+u % 10:Nat):Int)],by rw [e]; rfl,hc⟩
    ·rw [decL_lt (by omega)]
     exact ⟨_,_,rfl,by omega⟩
theorem decL_len:∀ (k u:Nat),0 < k→u < 10 ^ k→(decL u).length≤k
 | 0,u,h,_=>absurd h (Nat.lt_irrefl 0)
 | k+1,u,_,h=>by
  by_cases h1:u < 10
  ·rw [decL_lt h1]; simp
  ·rw [decL_ge h1,List.length_append]
   cases k with
   | zero=>simp only [Nat.zero_add,Nat.pow_one] at h; omega
   | succ k=>
    have:=decL_len (k+1) (u / 10) (by omega) (by rw [Nat.pow_succ] at h; omega)
    simp only [List.length_singleton]; omega
section
variable {t:ByteArray} {i j o e:Nat}
theorem dig4 {c:Int} (h:digOk c):isDig (UInt8.ofNat c.toNat).toNat=true∧isName (UInt8.ofNat c.toNat).toNat=false∧sep (UInt8.ofNat c.toNat).toNat=false∧UInt8.ofNat c.toNat≠62:=by
 have hall:((List.range 10).all fun d=>isDig (UInt8.ofNat (48+d)).toNat&& !isName (UInt8.ofNat (48+d)).toNat&& !sep (UInt8.ofNat (48+d)).toNat&&decide (UInt8.ofNat (48+d)≠62))=true:=by kernel_rfl
 obtain ⟨h1,h2⟩:=h
 have:=List.all_eq_true.1 hall (c - 48).toNat (List.mem_range.mpr (by omega))
 simp only [Bool.and_eq_true,Bool.not_eq_true',decide_eq_true_eq] at this
 rw [show 48+(c - 48).toNat=c.toNat by omega] at this
 exact ⟨this.1.1.1,this.1.1.2,this.1.2,this.2⟩
theorem lx_num {u:Nat} (hu:u≤576460752303423487) (h:AtL t i (decL u)) (hf:Fo t (i+(decL u).length)):LX t i [tokC 3 ⟨#[]⟩ (u:Nat) 0 0] (i+(decL u).length):=by
 obtain ⟨h1,h2,h3,h4⟩:=decL_all u
 have h18:=decL_len 18 u (by omega) (by omega)
 obtain ⟨c,r,hcr⟩:∃ c r,decL u=c::r:=by
  cases hd:decL u with
  | nil=>rw [hd] at h3; cases h3
  | cons c r=>exact ⟨c,r,rfl⟩
 have hc:t[i]? = some (UInt8.ofNat c.toNat):=by rw [hcr] at h; exact h.head
 obtain ⟨d1,d2,_,_⟩:=dig4 (h1 c (by rw [hcr]; exact List.mem_cons_self ..))
 have hsz:=h.size h3
 have hsk:skip isDig t i=i+(decL u).length:=by
  refine skip_run (by omega) (by omega) (fun q g1 g2=> ?_) (fun b hb=>(hf.nam b hb).2)
  have hq:q - i < (decL u).length:=by omega
  have:=h (q - i) _ (List.getElem?_eq_getElem hq)
  rw [show i+(q - i)=q by omega] at this
  exact ⟨_,this,(dig4 (h1 _ (List.getElem_mem hq))).1⟩
 have hex:=h.extract h3
 refine LX.one (f:=0) hc ?_ hf.pass
 unfold token
 rw [d2,if_neg (by simp),if_pos d1]
 unfold numTok
 rw [hsk,hex]
 unfold numAt
 have hl0:(decide (((strOf (decL u)).size:Int) > 1)&&lead0 (strOf (decL u)) 0)=false:=by
  rw [strOf_size]
  by_cases hgt:10≤u
  ·obtain ⟨c',r',e',hne⟩:=h4 hgt
   have hdk:=h1 c' (by rw [e']; exact List.mem_cons_self ..)
   have:lead0 (strOf (decL u)) 0=false:=by
    unfold lead0
    rw [strOf_at (l:=decL u) (i:=0) (n:=c') (by rw [e']; rfl)]
    have:(UInt8.ofNat c'.toNat).toNat=c'.toNat:=by
     unfold digOk at hdk
     rw [UInt8.toNat_ofNat']; exact Nat.mod_eq_of_lt (by omega)
    simp only [this]
    unfold digOk at hdk
    rw [beq_eq_false_iff_ne]; omega
   rw [this,Bool.and_false]
  ·rw [decL_lt (by omega)]; rfl
 rw [hl0,if_neg (by simp),hf.dot,if_neg (by simp)]
 unfold numI
 have hw:whole (strOf (decL u))=(u:Int):=by rw [whole_fold h1 (by omega),h2]
 have e1:decide (((strOf (decL u)).size:Int) > 18)=false:=decide_eq_false (by rw [strOf_size]; omega)
 have e2:decide (whole (strOf (decL u)) > 576460752303423487)=false:=decide_eq_false (by rw [hw]; omega)
 rw [e1,e2,if_neg (by simp),hw]
theorem lx_flt {u:Nat} (hu:u < 18446744073709551616) (hfin:fin u=true) (h:AtL t i (35::hexL u 16)) (hf:Fo t (i+17)):LX t i [tokC 4 ⟨#[]⟩ 0 u 0] (i+17):=by
 have hc:t[i]? = some (35:UInt8):=h.head
 have hb:bits t i=some u:=by
  have key:∀ n,n≤16→bitsW t n (i+(17 - n)) ((u / 16 ^ n:Nat):Int)=some (u:Int):=by
   intro n
   induction n with
   | zero=>intro _; simp [bitsW]
   | succ n ih=>
    intro hn
    have hd:hexd u (15 - n) < 16:=Nat.mod_lt _ (by decide)
    have hb:=h.tail (15 - n) _ (hexL_at (u:=u) (n:=16) (j:=15 - n) (by omega))
    rw [show i+1+(15 - n)=i+(17 - (n+1)) by omega] at hb
    have e2:i+(17 - (n+1))+1=i+(17 - n):=by omega
    have e3:hexd u (15 - n)=u / 16 ^ n % 16:=by unfold hexd; congr 3; omega
    have hq:u / 16 ^ (n+1)=u / 16 ^ n / 16:=by rw [Nat.pow_succ,Nat.div_div_eq_div_mul]
    have hle:u / 16 ^ n≤u:=Nat.div_le_self _ _
    simp only [bitsW,hb]
    rw [u8_nat (hexc_lt hd),hexv_hexc _ hd,e2]
    have hneg:decide (((hexd u (15 - n):Nat):Int) < 0)=false:=decide_eq_false (by omega)
    rw [hneg,if_neg (by simp),accU_eq (by omega) hd,hq,e3]
    have:u / 16 ^ n / 16 * 16+u / 16 ^ n % 16=u / 16 ^ n:=by omega
    rw [this]
    exact ih (by omega)
  have h16:=key 16 (by omega)
  have e0:u / 16 ^ 16=0:=Nat.div_eq_of_lt hu
  rw [e0] at h16
  have h':bitsW t 16 (i+1) 0=some (u:Int):=h16
  unfold bits
  rw [h']
  simp [hfin]
 refine LX.one (e:=i+17) hc ?_ hf.pass
 unfold token
 rw [if_neg (by decide),if_neg (by decide),if_pos (by decide)]
 unfold bitTok
 rw [hb]
def plainA (s:ByteArray):Bool:=(match s[0]? with | some c=>isLow c.toNat | none=>false)&& !kept s&&(s.data.toList.all fun b:UInt8=>isNam b.toNat)
theorem bytesI_at {s:ByteArray} {q:Nat} {c:Int} (h:(bytesI s)[q]? = some c):∃ b:UInt8,s[q]? = some b∧c=(b.toNat:Int):=by
 unfold bytesI at h
 rw [List.getElem?_map,Option.map_eq_some_iff] at h
 obtain ⟨b,hb,rfl⟩:=h
 refine ⟨b,?_,rfl⟩
 obtain ⟨h1,h2⟩:=List.getElem?_eq_some_iff.1 hb
 have h3:q < s.size:=by rw [Array.length_toList] at h1; exact h1
 rw [getElem?_pos s q h3]
 rw [← h2]; rfl
theorem bytesI_of {s:ByteArray} {q:Nat} {b:UInt8} (h:s[q]? = some b):(bytesI s)[q]? = some (b.toNat:Int):=by
 have hq:=size_of_some h
 have hl:q < (bytesI s).length:=by rw [bytesI_len]; exact hq
 obtain ⟨b',h1,h2⟩:=bytesI_at (List.getElem?_eq_getElem hl)
 rw [h] at h1; injection h1 with h1; subst h1
 rw [List.getElem?_eq_getElem hl,h2]
theorem bytesI_str (s:ByteArray):strOf (bytesI s)=s:=by
 apply ByteArray.ext_getElem
 ·rw [strOf_size,bytesI_len]
 ·intro q g1 g2
  have e:=strOf_at (bytesI_of (getElem?_pos s q g2))
  rw [getElem?_pos _ q g1] at e
  have:=Option.some.inj e
  rw [this,Int.toNat_natCast,UInt8.ofNat_toNat]
theorem lx_atom {s:ByteArray} (hp:plainA s=true) (hsz:s.size≤64) (h:AtL t i (bytesI s)) (hf:Fo t (i+s.size)):LX t i [tokC 1 s 0 0 0] (i+s.size):=by
 unfold plainA at hp
 simp only [Bool.and_eq_true,Bool.not_eq_true'] at hp
 obtain ⟨⟨h0,hk⟩,hall⟩:=hp
 cases hc0:s[0]? with
 | none=>rw [hc0] at h0; cases h0
 | some c=>
  rw [hc0] at h0
  have hs0:=size_of_some hc0
  have hlen:=bytesI_len s
  have hpos:0 < (bytesI s).length:=by omega
  have hc:t[i]? = some c:=by
   have:=h 0 _ (bytesI_of hc0)
   rw [Nat.add_zero,Int.toNat_natCast,UInt8.ofNat_toNat] at this; exact this
  have hle:=h.size hpos
  have hsk:skip isNam t i=i+s.size:=by
   refine skip_run (by omega) (by omega) (fun q g1 g2=> ?_) (fun b hb=>(hf.nam b hb).1)
   obtain ⟨x,hx⟩:=byte_at (s:=s) (n:=q - i) (by omega)
   have:=h (q - i) _ (bytesI_of hx)
   rw [show i+(q - i)=q by omega,Int.toNat_natCast,UInt8.ofNat_toNat] at this
   refine ⟨x,this,?_⟩
   have hm:x ∈ s.data.toList:=by
    rw [getElem?_pos s (q - i) (by omega)] at hx
    injection hx with hx
    rw [← hx]
    exact Array.mem_toList_iff.mpr (Array.getElem_mem _)
   exact List.all_eq_true.1 hall x hm
  have hex:t.extract i (i+s.size)=s:=by
   have:=h.extract hpos
   rw [hlen,bytesI_str] at this; exact this
  refine LX.one hc ?_ hf.pass
  unfold token
  have h0':isLow c.toNat=true:=h0
  rw [if_pos (by unfold isName; rw [h0']; rfl)]
  unfold nameTok
  rw [if_pos h0',hsk,hex]
  unfold lowTok
  have hz:decide (((s.size:Nat):Int) > 64)=false:=decide_eq_false (by omega)
  rw [hk,if_neg (by simp),hz,if_neg (by simp)]
def encB (b:UInt8):List Int:=if b=92∨b=39 then [92,(b.toNat:Int)] else if b.toNat < 32∨126 < b.toNat then [92,120,(hexc (b.toNat / 16):Nat),(hexc (b.toNat % 16):Nat)] else [(b.toNat:Int)]
def encL (l:List UInt8):List Int:=l.flatMap encB
theorem encB_len' (b:UInt8):(encB b).length≤4:=by
 unfold encB
 split
 ·simp
 ·split <;> simp
theorem encL_len':∀ l:List UInt8,(encL l).length≤4 * l.length
 | []=>Nat.le_refl _
 | b::l=>by
  have h1:=encB_len' b
  have h2:=encL_len' l
  have:encL (b::l)=encB b++encL l:=rfl
  rw [this,List.length_append,List.length_cons]; omega
theorem esc_two {c:UInt8} (hc:c=92∨c=39) (h1:t[i+1]? = some c):esc t i=some ((c.toNat:Int),2):=by
 unfold esc
 rw [h1]
 rcases hc with rfl | rfl <;> rfl
theorem esc_hex {n m:Nat} (hn:n < 16) (hm:m < 16) (h1:t[i+1]? = some 120) (h2:t[i+2]? = some (UInt8.ofNat (hexc n))) (h3:t[i+3]? = some (UInt8.ofNat (hexc m))):esc t i=some (((16 * n+m:Nat):Int),4):=by
 have e1:(UInt8.ofNat (hexc n)).toNat=hexc n:=by rw [UInt8.toNat_ofNat']; exact Nat.mod_eq_of_lt (hexc_lt hn)
 have e2:(UInt8.ofNat (hexc m)).toNat=hexc m:=by rw [UInt8.toNat_ofNat']; exact Nat.mod_eq_of_lt (hexc_lt hm)
 unfold esc
 rw [h1,h2,h3]
 simp only [e1,e2,hexv_hexc _ hn,hexv_hexc _ hm]
 rw [if_neg (by decide),if_neg (by decide),if_neg (by decide),if_pos (by decide),if_pos (by simp)]
 have hb:hexByte (n:Int) (m:Int)=((16 * n+m:Nat):Int):=by
  unfold hexByte
  have w1:IntKind.i64.wrap (16 * (n:Int))=((16 * n:Nat):Int):=by
   rw [show (16 * (n:Int))=((16 * n:Nat):Int) by omega]; exact wrap64 (by omega)
  rw [w1]
  have w2:IntKind.i64.wrap (((16 * n:Nat):Int)+(m:Int))=((16 * n+m:Nat):Int):=by
   rw [show (((16 * n:Nat):Int)+(m:Int))=((16 * n+m:Nat):Int) by omega]; exact wrap64 (by omega)
  rw [w2]
  exact wrapU8 (by omega)
 rw [hb]
theorem quoteW_enc:∀ (l:List UInt8) (n j:Nat) (out:List Int),AtL t j (encL l++[39])→(encL l).length < n→quoteW t 39 n j out=some (strOf (out++l.map fun b=>(b.toNat:Int)),j+(encL l).length+1)
 | [],n,j,out,h,hn=>by
  cases n with
  | zero=>omega
  | succ n=>
   have hc:t[j]? = some (39:UInt8):=h.head
   simp only [quoteW,hc]
   rw [if_pos (by decide),List.map_nil,List.append_nil]
   rfl
 | b::l,n,j,out,h,hn=>by
  have he:encL (b::l)=encB b++encL l:=rfl
  rw [he] at h hn ⊢
  rw [List.append_assoc] at h
  rw [List.length_append] at hn ⊢
  have hr:=h.right
  have hl:=h.left
  cases n with
  | zero=>omega
  | succ n=>
   by_cases h1:b=92∨b=39
   ·have eb:encB b=[92,(b.toNat:Int)]:=if_pos h1
    rw [eb] at hl hr hn ⊢
    have hc0:t[j]? = some (92:UInt8):=hl.head
    have hc1:t[j+1]? = some b:=by have:=hl.tail.head; rw [Int.toNat_natCast,UInt8.ofNat_toNat] at this; exact this
    have ih:=quoteW_enc l n (j+2) (out++[(b.toNat:Int)]) hr (by simp at hn; omega)
    simp only [quoteW,hc0]
    rw [if_neg (by decide),if_neg (by decide),esc_two h1 hc1]
    show quoteW t 39 n (j+2) (out++[(b.toNat:Int)])=_
    rw [ih,List.map_cons,List.append_assoc]
    simp only [List.length_cons,List.length_nil,List.singleton_append]
    congr 2; omega
   ·by_cases h2:b.toNat < 32∨126 < b.toNat
    ·have eb:encB b=[92,120,((hexc (b.toNat / 16):Nat):Int),((hexc (b.toNat % 16):Nat):Int)]:=by unfold encB; rw [if_neg h1,if_pos h2]
     have hb:b.toNat < 256:=b.toNat_lt
     rw [eb] at hl hr hn ⊢
     have hc0:t[j]? = some (92:UInt8):=hl.head
     have hc1:t[j+1]? = some (120:UInt8):=hl.tail.head
     have hc2:t[j+2]? = some (UInt8.ofNat (hexc (b.toNat / 16))):=hl.tail.tail.head
     have hc3:t[j+3]? = some (UInt8.ofNat (hexc (b.toNat % 16))):=hl.tail.tail.tail.head
     have ih:=quoteW_enc l n (j+4) (out++[(b.toNat:Int)]) hr (by simp at hn; omega)
     simp only [quoteW,hc0]
     rw [if_neg (by decide),if_neg (by decide),esc_hex (by omega) (Nat.mod_lt _ (by decide)) hc1 hc2 hc3]
     show quoteW t 39 n (j+4) (out++[((16 * (b.toNat / 16)+b.toNat % 16:Nat):Int)])=_
     rw [show 16 * (b.toNat / 16)+b.toNat % 16=b.toNat by omega,ih,List.map_cons,List.append_assoc]
     simp only [List.length_cons,List.length_nil,List.singleton_append]
     congr 2; omega
    ·have eb:encB b=[(b.toNat:Int)]:=by unfold encB; rw [if_neg h1,if_neg h2]
     rw [eb] at hl hr hn ⊢
     have hc0:t[j]? = some b:=by have:=hl.head; rw [Int.toNat_natCast,UInt8.ofNat_toNat] at this; exact this
     have n1:((b.toNat:Int)==39)=false:=by
      rw [beq_eq_false_iff_ne]; intro e
      exact h1 (.inr (UInt8.toNat_inj.mp (by show b.toNat=39; omega)))
     have n2:((b.toNat:Int) != 92)=true:=by
      rw [bne_iff_ne]; intro e
      exact h1 (.inl (UInt8.toNat_inj.mp (by show b.toNat=92; omega)))
     have ih:=quoteW_enc l n (j+1) (out++[(b.toNat:Int)]) hr (by simp at hn; omega)
     simp only [quoteW,hc0]
     rw [n1,if_neg (by simp),n2,if_pos rfl,ih,List.map_cons,List.append_assoc]
     simp only [List.length_cons,List.length_nil,List.singleton_append]
     congr 2; omega
theorem lx_quo {s:ByteArray} (hsz:s.size≤64) (h:AtL t i (39::(encL s.data.toList++[39]))) (hf:Fo t (i+((encL s.data.toList).length+2))):LX t i [tokC 1 s 0 0 0] (i+((encL s.data.toList).length+2)):=by
 have hc:t[i]? = some (39:UInt8):=h.head
 have hle:=h.size (by simp)
 simp only [List.length_cons,List.length_append,List.length_nil] at hle
 have hq:quote t ((39:Nat):Int) i=some (s,i+((encL s.data.toList).length+2)):=by
  unfold quote
  have:=quoteW_enc (t:=t) s.data.toList (t.size - i) (i+1) [] h.tail (by omega)
  rw [List.nil_append] at this
  show quoteW t 39 (t.size - i) (i+1) []=_
  rw [this]
  have hs:strOf (s.data.toList.map fun b=>(b.toNat:Int))=s:=bytesI_str s
  rw [hs]
  congr 2; omega
 refine LX.one (e:=i+((encL s.data.toList).length+2)) hc ?_ hf.pass
 unfold token
 rw [if_neg (by decide),if_neg (by decide),if_neg (by decide),if_pos (by decide)]
 unfold quoTok
 have hq':quote t (((39:UInt8).toNat:Nat):Int) i=some (s,i+((encL s.data.toList).length+2)):=hq
 rw [hq']
 simp only
 rw [if_pos (by decide)]
 have hz:decide (((s.size:Nat):Int) > 64)=false:=decide_eq_false (by omega)
 rw [hz,if_neg (by simp)]
end
mutual
def wrL:TM→List Int
 | .mk k n f s nl l=>if k=1 then (if n < 0 then 45::decL (-n).toNat else decL n.toNat) else if k=2 then 35::hexL f 16 else if k=3 then (if plainA s=true then bytesI s else 39::(encL s.data.toList++[39]))
  else if k=7 then 123::(wrsL l++[125]) else 91::(wrsL l++[93])
def wrsL:List TM→List Int
 | []=>[]
 | x::r=>wrL x++wrcL r
def wrcL:List TM→List Int
 | []=>[]
 | x::r=>44::(wrL x++wrcL r)
end
mutual
def tksT:TM→List (List AVal)
 | .mk k n f s nl l=>if k=1 then (if n < 0 then [sg 45,tokC 3 ⟨#[]⟩ (-n) 0 0] else [tokC 3 ⟨#[]⟩ n 0 0]) else if k=2 then [tokC 4 ⟨#[]⟩ 0 f 0] else if k=3 then [tokC 1 s 0 0 0]
  else if k=7 then sg 123::(tksL l++[sg 125]) else sg 91::(tksL l++[sg 93])
def tksL:List TM→List (List AVal)
 | []=>[]
 | x::r=>tksT x++tksC r
def tksC:List TM→List (List AVal)
 | []=>[]
 | x::r=>sg 44::(tksT x++tksC r)
end
mutual
def sayT:TM→Prop
 | .mk k n f s nl l=>(k=1∧ -576460752303423488 < n∧n≤576460752303423487)∨(k=2∧f < 18446744073709551616∧fin f=true)∨(k=3∧s.size≤64)∨((k=7∨k=8)∧sayL l)
def sayL:List TM→Prop
 | []=>True
 | x::r=>sayT x∧sayL r
end
theorem wrL_pos:∀ x:TM,0 < (wrL x).length:=by
 intro x
 cases x with
 | mk k n f s nl l=>
  simp only [wrL]
  split
  ·split
   ·simp
   ·exact (decL_all _).2.2.1
  ·split
   ·simp
   ·split
    ·split
     ·rename_i hp
      unfold plainA at hp
      rw [bytesI_len]
      cases hc:s[0]? with
      | none=>rw [hc] at hp; simp at hp
      | some c=>exact size_of_some hc
     ·simp
    ·split <;> simp
theorem low_sep {c:Nat} (h:isLow c=true):sep c=false:=by
 unfold isLow at h
 unfold sep blank
 simp only [Bool.and_eq_true,decide_eq_true_eq] at h
 simp only [Bool.or_eq_false_iff,beq_eq_false_iff_ne]
 omega
section
variable {t:ByteArray}
theorem nb_term {x:TM} {i:Nat} (hs:sayT x) (h:AtL t i (wrL x)):Nb t i:=by
 cases x with
 | mk k n f s nl l=>
  simp only [sayT] at hs
  rcases hs with ⟨rfl,_,_⟩ | ⟨rfl,_,_⟩ | ⟨rfl,_⟩ | ⟨hk,_⟩
  ·simp only [wrL,if_true] at h
   split at h
   ·exact ⟨_,h.head,by decide⟩
   ·obtain ⟨h1,_,h3,_⟩:=decL_all n.toNat
    cases hd:decL n.toNat with
    | nil=>rw [hd] at h3; cases h3
    | cons c r=>
     rw [hd] at h h1
     exact ⟨_,h.head,(dig4 (h1 c (List.mem_cons_self ..))).2.2.1⟩
  ·exact ⟨_,h.head,by decide⟩
  ·simp only [wrL] at h
   rw [if_neg (by decide),if_neg (by decide),if_pos trivial] at h
   split at h
   ·rename_i hp
    unfold plainA at hp
    simp only [Bool.and_eq_true] at hp
    cases hc:s[0]? with
    | none=>rw [hc] at hp; cases hp.1.1
    | some c=>
     rw [hc] at hp
     have h0:=h 0 _ (bytesI_of hc)
     rw [Nat.add_zero,Int.toNat_natCast,UInt8.ofNat_toNat] at h0
     refine ⟨c,h0,?_⟩
     have hl:isLow c.toNat=true:=hp.1.1
     exact low_sep hl
   ·exact ⟨_,h.head,by decide⟩
  ·rcases hk with rfl | rfl <;> exact ⟨_,h.head,by decide⟩
theorem Fo.com {j:Nat} {r:List Int} (h:AtL t j (44::r)):Fo t j:=.inr ⟨44,h.head,.inl rfl⟩
mutual
theorem lx_term:∀ (x:TM) (i:Nat),sayT x→AtL t i (wrL x)→Fo t (i+(wrL x).length)→LX t i (tksT x) (i+(wrL x).length)
 | .mk k n f s nl l,i,hs,h,hf=>by
  simp only [sayT] at hs
  rcases hs with ⟨rfl,h1,h2⟩ | ⟨rfl,h1,h2⟩ | ⟨rfl,h1⟩ | ⟨hk,hl⟩
  ·simp only [wrL,tksT,if_true] at h hf ⊢
   split at h
   ·rename_i hn
    rw [if_pos hn] at hf ⊢
    rw [if_pos hn]
    have ht:=h.tail
    obtain ⟨d1,_,d3,_⟩:=decL_all (-n).toNat
    obtain ⟨c,r,hcr⟩:∃ c r,decL (-n).toNat=c::r:=by
     cases hd:decL (-n).toNat with
     | nil=>rw [hd] at d3; cases d3
     | cons c r=>exact ⟨c,r,rfl⟩
    have hc1:t[i+1]? = some (UInt8.ofNat c.toNat):=by rw [hcr] at ht; exact ht.head
    obtain ⟨_,_,b3,b4⟩:=dig4 (d1 c (by rw [hcr]; exact List.mem_cons_self ..))
    have hm:=lx_minus (t:=t) (i:=i) h.head hc1 b4 ⟨_,hc1,b3⟩
    have e:i+(45::decL (-n).toNat).length=i+1+(decL (-n).toNat).length:=by simp only [List.length_cons]; omega
    rw [e] at hf ⊢
    obtain ⟨m,hm'⟩:∃ m:Int,m = -n:=⟨_,rfl⟩
    rw [← hm'] at ht hf ⊢
    have hnum:=lx_num (t:=t) (i:=i+1) (u:=m.toNat) (by omega) ht hf
    rw [show ((m.toNat:Nat):Int)=m by omega] at hnum
    exact hm.trans hnum
   ·rename_i hn
    rw [if_neg hn] at hf ⊢
    rw [if_neg hn]
    have hnum:=lx_num (t:=t) (i:=i) (u:=n.toNat) (by omega) h hf
    rw [show ((n.toNat:Nat):Int)=n by omega] at hnum
    exact hnum
  ·have e:(35::hexL f 16).length=17:=by rw [List.length_cons,hexL_len]
   have hw:wrL (.mk 2 n f s nl l)=35::hexL f 16:=by simp only [wrL]; rw [if_neg (by decide),if_pos trivial]
   rw [hw] at h hf ⊢
   rw [e] at hf ⊢
   simp only [tksT]
   rw [if_neg (by decide),if_pos trivial]
   exact lx_flt h1 h2 h hf
  ·simp only [wrL,tksT] at h hf ⊢
   rw [if_neg (by decide),if_neg (by decide),if_pos trivial] at h hf ⊢
   rw [if_neg (by decide),if_neg (by decide),if_pos trivial]
   split at h
   ·rename_i hp
    rw [if_pos hp] at hf ⊢
    rw [bytesI_len] at hf ⊢
    exact lx_atom hp h1 h hf
   ·rename_i hp
    rw [if_neg hp] at hf ⊢
    have e:(39::(encL s.data.toList++[39])).length=(encL s.data.toList).length+2:=by simp
    rw [e] at hf ⊢
    exact lx_quo h1 h hf
  ·obtain ⟨o,c,ho,hc,hw,ht⟩:∃ o c:UInt8,(o=44∨o=91∨o=93∨o=123∨o=125)∧(c=93∨c=125)∧wrL (.mk k n f s nl l)=(o.toNat:Int)::(wrsL l++[(c.toNat:Int)])∧tksT (.mk k n f s nl l)=sg o::(tksL l++[sg c]):=by
    rcases hk with rfl | rfl
    ·exact ⟨123,125,by decide,by decide,rfl,rfl⟩
    ·exact ⟨91,93,by decide,by decide,rfl,rfl⟩
   rw [hw] at h hf ⊢
   rw [ht]
   have h0:t[i]? = some o:=by have:=h.head; rw [Int.toNat_natCast,UInt8.ofNat_toNat] at this; exact this
   have hr:=h.tail.left
   have hcl:t[i+1+(wrsL l).length]? = some c:=by have:=h.tail.right.head; rw [Int.toNat_natCast,UInt8.ofNat_toNat] at this; exact this
   have hfc:Fo t (i+1+(wrsL l).length):=.inr ⟨c,hcl,.inr hc⟩
   have hp1:pass t (i+1)=i+1:=by
    cases l with
    | nil=>exact hfc.pass
    | cons x r=>
     simp only [sayL] at hl
     exact (nb_term hl.1 hr.left).pass
   have e:i+((o.toNat:Int)::(wrsL l++[(c.toNat:Int)])).length=i+1+(wrsL l).length+1:=by simp only [List.length_cons,List.length_append,List.length_nil]; omega
   rw [e] at hf ⊢
   have a1:=lx_one o ho h0 hp1
   have a2:=lx_els l (i+1) hl hr hfc
   have a3:=lx_one c (by rcases hc with rfl | rfl <;> simp) hcl hf.pass
   have:=(a1.trans a2).trans a3
   simpa using this
theorem lx_els:∀ (l:List TM) (i:Nat),sayL l→AtL t i (wrsL l)→Fo t (i+(wrsL l).length)→LX t i (tksL l) (i+(wrsL l).length)
 | [],i,_,_,_=>fun acc=>⟨[],rfl,by rw [List.append_nil]; rfl⟩
 | x::r,i,hs,h,hf=>by
  simp only [sayL] at hs
  simp only [wrsL,tksL,List.length_append] at h hf ⊢
  have hfx:Fo t (i+(wrL x).length):=by
   cases r with
   | nil=>simpa [wrcL] using hf
   | cons y r=>exact Fo.com h.right
  have a1:=lx_term x i hs.1 h.left hfx
  have a2:=lx_com r (i+(wrL x).length) hs.2 h.right (by rw [Nat.add_assoc]; exact hf)
  rw [← Nat.add_assoc]
  exact a1.trans a2
theorem lx_com:∀ (l:List TM) (i:Nat),sayL l→AtL t i (wrcL l)→Fo t (i+(wrcL l).length)→LX t i (tksC l) (i+(wrcL l).length)
 | [],i,_,_,_=>fun acc=>⟨[],rfl,by rw [List.append_nil]; rfl⟩
 | x::r,i,hs,h,hf=>by
  simp only [sayL] at hs
  simp only [wrcL,tksC,List.length_append,List.length_cons] at h hf ⊢
  have hfx:Fo t (i+1+(wrL x).length):=by
   cases r with
   | nil=>
    have e:i+((wrL x).length+(wrcL []).length+1)=i+1+(wrL x).length:=by simp only [wrcL,List.length_nil]; omega
    rw [e] at hf; exact hf
   | cons y r=>exact Fo.com h.tail.right
  have e:i+((wrL x).length+(wrcL r).length+1)=i+1+(wrL x).length+(wrcL r).length:=by omega
  rw [e] at hf ⊢
  have a0:=lx_one 44 (.inl rfl) h.head (nb_term hs.1 h.tail.left).pass
  have a1:=lx_term x (i+1) hs.1 h.tail.left hfx
  have a2:=lx_com r (i+1+(wrL x).length) hs.2 h.tail.right hf
  exact (a0.trans a1).trans a2
end
theorem lx_tokens {x:TM} (hs:sayT x) (hsz:(wrL x).length≤65536):∃ l,tokens (strOf (wrL x)) = .inr (l++[endTok (strOf (wrL x))])∧l.map er=tksT x:=by
 have h:=AtL.self (wrL x)
 have hend:(strOf (wrL x))[(wrL x).length]? = none:=strOf_end (Nat.le_refl _)
 have hx:=lx_term (t:=strOf (wrL x)) x 0 hs h (.inl (by rw [Nat.zero_add]; exact hend))
 have hp:pass (strOf (wrL x)) 0=0:=(nb_term hs h).pass
 obtain ⟨l',h1,h2⟩:=hx []
 rw [Nat.zero_add,toks_end hend,List.nil_append] at h2
 refine ⟨l',?_,h1⟩
 unfold tokens
 rw [strOf_size,if_neg (by simp; omega),hp,h2]
end
end Go.Am.Rl
namespace Go.Am.Rl
open Go.Proofs
theorem DCall.strs {P:Program} {f:FuncId} {xs:List AVal} {p:ByteArray→Prop} (hp:AVal.pures xs=true) (h:DCall P f xs AHeap.empty fun r H'=>∃ s,r = .str s∧p s) (H:AHeap):DCall P f xs H fun r H'=>(∃ s,r = .str s∧p s)∧H'=H:=
 DCall.closed (sz:=fun _=>1) hp h (fun r H1 ⟨b,e,hb⟩=>⟨1,r,by rw [e]; rfl,b,e,hb⟩) H
theorem chk50:((List.range 16).all fun c=>match aclosed tab Orc.none 10000 20 sz1 50 [.int .u8 (c:Int)] with
 | some v=>AVal.eqb v (.str (strOf [((hexc c:Nat):Int)]))
 | none=>false)=true:=by kernel_rfl
theorem g50 {d:Nat} (hd:d < 16) (H:AHeap):DCall Tryd.prog 50 [.int .u8 (d:Nat)] H fun r H'=>r = .str (strOf [((hexc d:Nat):Int)])∧H'=H:=by
 have:=List.all_eq_true.mp chk50 d (List.mem_range.mpr hd)
 split at this
 ·rename_i v hv
  have e:=AVal.eqb_eq _ _ this
  subst e
  exact (aclosed_sound mixed tab_ok (Orc.none_ok _) hv H).dcall
 ·cases this
theorem cat_any {a b:ByteArray} (h:a.size+b.size < 9223372036854775807):abin .add (.str a) (.str b)=some (.str (a++b)):=by
 have hm:IntKind.i64.max=9223372036854775807:=by decide
 simp only [abin]
 rw [hm,if_neg (by omega)]
theorem cat_strOf {a b:List Int} (h:a.length+b.length < 9223372036854775807):abin .add (.str (strOf a)) (.str (strOf b))=some (.str (strOf (a++b))):=by
 rw [cat_any (by rw [strOf_size,strOf_size]; exact h),strOf_cat]
theorem ext_byte {s:ByteArray} {i:Nat} {b:UInt8} (h:s[i]? = some b):s.extract i (i+1)=strOf [(b.toNat:Int)]:=by
 have hlt:=size_of_some h
 apply ByteArray.ext_getElem
 ·rw [size_ext (by omega),strOf_size]; simp
 ·intro k h1 h2
  have hk:k=0:=by rw [strOf_size] at h2; simpa using h2
  subst hk
  have e1:(s.extract i (i+1))[0]? = s[i]? :=ext_at (s:=s) (a:=i) (b:=i+1) (k:=0) (by omega) (by omega)
  rw [h,getElem?_pos _ 0 h1] at e1
  have e2:=strOf_at (l:=[(b.toNat:Int)]) (i:=0) rfl
  rw [getElem?_pos _ 0 h2] at e2
  rw [Int.toNat_natCast,UInt8.ofNat_toNat] at e2
  exact (Option.some.inj e1).trans (Option.some.inj e2).symm
theorem empty_of {s:ByteArray} (h:s[0]? = none):s=⟨#[]⟩:=by
 have:s.size=0:=by
  rcases Nat.eq_zero_or_pos s.size with h0 | h0
  ·exact h0
  ·obtain ⟨b,hb⟩:=byte_at (s:=s) (n:=0) h0
   rw [hb] at h; cases h
 apply ByteArray.ext_getElem
 ·exact this
 ·intro k h1 h2; omega
theorem lss_u8 (a b:Nat):abin .lss (.int .u8 (a:Nat)) (.int .u8 (b:Nat))=some (.bool (decide (a < b))):=by simp [abin]
theorem gtr_u8 (a b:Nat):abin .gtr (.int .u8 (a:Nat)) (.int .u8 (b:Nat))=some (.bool (decide (b < a))):=by simp [abin]
theorem eql_u8 (a b:Nat):abin .eql (.int .u8 (a:Nat)) (.int .u8 (b:Nat))=some (.bool (decide (a=b))):=by
 simp only [abin]
 rw [if_pos trivial]
 congr 2
 rw [Bool.eq_iff_iff]; simp; omega
theorem lss_nat (a b:Nat):abin .lss (.int .i64 (a:Nat)) (.int .i64 (b:Nat))=some (.bool (decide (a < b))):=by simp [abin]
theorem inc_nat {i:Nat} (h:i < 4611686018427387904):abin .add (.int .i64 (i:Nat)) (.int .i64 1)=some (.int .i64 ((i+1:Nat):Int)):=by
 have hw:IntKind.i64.wrap ((i:Int)+1)=((i+1:Nat):Int):=wrap64 (n:=i+1) (by omega)
 simp only [abin,hw]; rfl
section
variable {s:ByteArray} {H:AHeap} {k k':List AItem} {Q:Env→AHeap→Prop}
theorem loop49 (hsz:s.size≤1000000) (hk:aexitTo 0 k=some k') (hend:(s.data.toList.all fun b:UInt8=>isNam b.toNat)=true→DR Tryd.prog (kof k49) 31 k' [] H Q) (hret:(s.data.toList.all fun b:UInt8=>isNam b.toNat)=false→∀ T,T.get 2=some (.bool false)→Q T H) :
  ∀ (d i:Nat),i+d=s.size→(∀ (j:Nat) (b:UInt8),j < i→s[j]? = some b→isNam b.toNat=true)→DR Tryd.prog (kof k49) 31 (.code l49_0::.inLoop l49_0::k) [(0,.str s),(3,.int .i64 (i:Nat))] H Q:=by
 intro d
 have hl:∀ H,alenT H 0 (.str s)=some s.size:=fun _=>rfl
 induction d with
 | zero=>
  intro i hi hall
  have hc:=lss_nat i s.size
  rw [decide_eq_false (by omega)] at hc
  refine Dg rfl ?_
  simp -dsimp only [SE,astep,seval,rowq,hl,hc]
  refine Dn rfl rfl ?_
  refine DR.exit (k':=k') (by simpa [aexitTo] using hk) ?_
  refine DR.only [] (hend (List.all_eq_true.mpr fun b hb=> ?_))
  obtain ⟨j,hj⟩:=List.mem_iff_getElem?.mp hb
  obtain ⟨h1,h2⟩:=List.getElem?_eq_some_iff.mp hj
  have h3:j < s.size:=by rw [Array.length_toList] at h1; exact h1
  exact hall j b (by omega) (by rw [getElem?_pos s j h3,← h2]; rfl)
 | succ d ih=>
  intro i hi hall
  have hc:=lss_nat i s.size
  rw [decide_eq_true (by omega)] at hc
  obtain ⟨b,hb⟩:=byte_at (s:=s) (n:=i) (by omega)
  have hix:=idx_at hb
  have hadd:=inc_nat (i:=i) (by omega)
  refine Dg rfl ?_
  simp -dsimp only [SE,astep,seval,rowq,hl,hc]
  refine Dy rfl rfl ?_
  refine Dg rfl ?_
  simp -dsimp only [SE,astep,seval,rowq,hix]
  refine (of_chk t57 b H).mono ?_
  rintro a H1 ⟨rfl,rfl⟩
  simp -dsimp only [SE,astep,seval,rowq]
  cases hn:isNam b.toNat with
  | false=>
   refine Dy rfl rfl ?_
   refine Dg rfl ?_
   simp -dsimp only [SE,astep,seval,rowq]
   refine Dm rfl ?_
   refine DR.ret (hret ?_ _ rfl)
   cases ha:(s.data.toList.all fun b:UInt8=>isNam b.toNat) with
   | false=>rfl
   | true=>
    have hm:b ∈ s.data.toList:=by
     rw [getElem?_pos s i (by omega)] at hb
     injection hb with hb
     rw [← hb]
     exact Array.mem_toList_iff.mpr (Array.getElem_mem _)
    have:=List.all_eq_true.1 ha b hm
    rw [hn] at this; cases this
  | true=>
   refine Dn rfl rfl ?_
   refine Dg rfl ?_
   simp -dsimp only [SE,astep,seval,rowq,hadd]
   refine Dm rfl ?_
   refine DR.inLoop ?_
   refine ih (i+1) (by omega) fun j b' hj hb'=> ?_
   rcases Nat.lt_or_ge j i with h | h
   ·exact hall j b' h hb'
   ·obtain rfl:j=i:=by omega
    rw [hb] at hb'; injection hb' with hb'; rw [← hb']; exact hn
end
theorem g49 {s:ByteArray} (hsz:s.size≤1000000) (H:AHeap):DCall Tryd.prog 49 [.str s] H fun r H'=>r = .bool (plainA s)∧H'=H:=by
 cases h0:s[0]? with
 | none=>
  obtain rfl:=empty_of h0
  have he:abin .eql (.str ⟨#[]⟩) (.str ⟨#[]⟩)=some (.bool true):=by simp [abin]
  refine DCall.of_body (fn:=Tryd.f49) (by kernel_rfl) c49 (by kernel_rfl) (by simp [f49]) ?_
  unfold f49
  simp only []
  refine Dg rfl ?_
  simp -dsimp only [SE,astep,seval,rowq]
  refine Dg rfl ?_
  simp -dsimp only [SE,astep,seval,rowq,he]
  refine Dy rfl rfl ?_
  refine Dg rfl ?_
  simp -dsimp only [SE,astep,seval,rowq]
  refine Dm rfl ?_
  exact DR.ret ⟨_,by simp [aresult,ares,Env.get] <;> rfl,rfl,rfl⟩
 | some c=>
  have hs0:=size_of_some h0
  have he:abin .eql (.str s) (.str ⟨#[]⟩)=some (.bool false):=by
   simp only [abin]
   congr 2
   rw [beq_eq_false_iff_ne]
   intro e
   have:=congrArg List.length e
   rw [Go.ByteArray.toList_eq,Go.ByteArray.toList_eq,Array.length_toList,Array.length_toList] at this
   have h9:s.data.size=0:=this
   have:s.size=0:=h9
   omega
  have i0:aidxS (.str s) (.int .i64 0)=some (.int .u8 c.toNat):=idx_at (n:=0) h0
  have hlo:abin .lss (.int .u8 c.toNat) (.int .u8 97)=some (.bool (decide (c.toNat < 97))):=lss_u8 c.toNat 97
  have hhi:abin .gtr (.int .u8 c.toNat) (.int .u8 122)=some (.bool (decide (122 < c.toNat))):=gtr_u8 c.toNat 122
  by_cases h1:c.toNat < 97
  ·have hp:plainA s=false:=by unfold plainA; rw [h0]; unfold isLow; simp; omega
   rw [decide_eq_true h1] at hlo
   refine DCall.of_body (fn:=Tryd.f49) (by kernel_rfl) c49 (by kernel_rfl) (by simp [f49]) ?_
   unfold f49
   simp only []
   refine Dg rfl ?_
   simp -dsimp only [SE,astep,seval,rowq]
   refine Dg rfl ?_
   simp -dsimp only [SE,astep,seval,rowq,he,i0,hlo]
   refine Dy rfl rfl ?_
   refine Dg rfl ?_
   simp -dsimp only [SE,astep,seval,rowq]
   rw [hp]
   refine Dm rfl ?_
   exact DR.ret ⟨_,by simp [aresult,ares,Env.get] <;> rfl,rfl,rfl⟩
  rw [decide_eq_false h1] at hlo
  by_cases h2:122 < c.toNat
  ·have hp:plainA s=false:=by unfold plainA; rw [h0]; unfold isLow; simp; omega
   rw [decide_eq_true h2] at hhi
   refine DCall.of_body (fn:=Tryd.f49) (by kernel_rfl) c49 (by kernel_rfl) (by simp [f49]) ?_
   unfold f49
   simp only []
   refine Dg rfl ?_
   simp -dsimp only [SE,astep,seval,rowq]
   refine Dg rfl ?_
   simp -dsimp only [SE,astep,seval,rowq,he,i0,hlo,hhi]
   refine Dy rfl rfl ?_
   refine Dg rfl ?_
   simp -dsimp only [SE,astep,seval,rowq]
   rw [hp]
   refine Dm rfl ?_
   exact DR.ret ⟨_,by simp [aresult,ares,Env.get] <;> rfl,rfl,rfl⟩
  rw [decide_eq_false h2] at hhi
  have hlow:isLow c.toNat=true:=by unfold isLow; simp; omega
  refine DCall.of_body (fn:=Tryd.f49) (by kernel_rfl) c49 (by kernel_rfl) (by simp [f49]) ?_
  unfold f49
  simp only []
  refine Dg rfl ?_
  simp -dsimp only [SE,astep,seval,rowq]
  refine Dg rfl ?_
  simp -dsimp only [SE,astep,seval,rowq,he,i0,hlo,hhi]
  refine (g26 (H:=H) s).mono ?_
  rintro a H1 ⟨rfl,rfl⟩
  cases hk:kept s with
  | true=>
   have hp:plainA s=false:=by unfold plainA; rw [h0,hk]; simp
   simp -dsimp only [SE,astep,seval,rowq]
   refine Dy rfl rfl ?_
   refine Dg rfl ?_
   simp -dsimp only [SE,astep,seval,rowq]
   rw [hp]
   refine Dm rfl ?_
   exact DR.ret ⟨_,by simp [aresult,ares,Env.get] <;> rfl,rfl,rfl⟩
  | false=>
   have hp:plainA s=(s.data.toList.all fun b:UInt8=>isNam b.toNat):=by unfold plainA; rw [h0,hk]; simp [hlow]
   simp -dsimp only [SE,astep,seval,rowq]
   refine Dn rfl rfl ?_
   refine Dg rfl ?_
   simp -dsimp only [SE,astep,seval,rowq]
   refine Dm rfl ?_
   refine DR.loop ?_
   refine loop49 hsz rfl (fun hall=> ?_) (fun hall T hT=>⟨_,by simp [aresult,ares,hT] <;> rfl,by rw [hp,hall],rfl⟩) s.size 0 (by omega) (fun j b hj=>absurd hj (by omega))
   refine Dg rfl ?_
   simp -dsimp only [SE,astep,seval,rowq]
   rw [hp,hall]
   refine Dm rfl ?_
   exact DR.ret ⟨_,by simp [aresult,ares,Env.get] <;> rfl,rfl,rfl⟩
theorem shr4 {c:Nat} (h:c < 256):abin .shr (.int .u8 (c:Nat)) (.int .u64 4)=some (.int .u8 ((c / 16:Nat):Int)):=by
 have hb:IntKind.u8.bits=8:=by decide
 simp only [abin]
 rw [if_neg (by decide),hb]
 congr 2
 rw [show (min (4:Int).toNat 8:Nat)=4 by decide,Int.fdiv_eq_ediv_of_nonneg _ (by decide)]
 show ((c:Int) / 16)=_
 omega
theorem and15 {c:Nat} (h:c < 256):abin .and (.int .u8 (c:Nat)) (.int .u8 15)=some (.int .u8 ((c % 16:Nat):Int)):=by
 have hb:IntKind.u8.bits=8:=by decide
 simp only [abin]
 rw [if_pos trivial,hb]
 have h1:(BitVec.ofInt 8 (c:Int) &&&BitVec.ofInt 8 15).toNat=c % 16:=by
  have e:(15:Int)=((15:Nat):Int):=rfl
  rw [BitVec.toNat_and,BitVec.ofInt_natCast,e,BitVec.ofInt_natCast,BitVec.toNat_ofNat,BitVec.toNat_ofNat,Nat.mod_eq_of_lt (by omega),Nat.mod_eq_of_lt (by omega)]
  exact Nat.and_two_pow_sub_one_eq_mod c 4
 rw [h1,wrapU8 (by omega)]
theorem encL_take {l:List UInt8} {i:Nat} {b:UInt8} (h:l[i]? = some b):encL (l.take (i+1))=encL (l.take i)++encB b:=by
 unfold encL
 rw [List.take_add_one,h,List.flatMap_append]; simp
section
variable {s:ByteArray} {H:AHeap} {k k':List AItem} {Q:Env→AHeap→Prop}
theorem loop29 (hsz:s.size≤64) (hk:aexitTo 0 k=some k') (hend:DR Tryd.prog (kof k29) 57 k' [(3,.str (strOf (39::encL s.data.toList)))] H Q) :
  ∀ (d i:Nat),i+d=s.size→DR Tryd.prog (kof k29) 57 (.code l29_0::.inLoop l29_0::k) [(0,.str s),(3,.str (strOf (39::encL (s.data.toList.take i)))),(4,.int .i64 (i:Nat))] H Q:=by
 intro d
 have hl:∀ H,alenT H 0 (.str s)=some s.size:=fun _=>rfl
 have hlen:s.data.toList.length=s.size:=by rw [Array.length_toList]; rfl
 induction d with
 | zero=>
  intro i hi
  have hc:=lss_nat i s.size
  rw [decide_eq_false (by omega)] at hc
  refine Dg rfl ?_
  simp -dsimp only [SE,astep,seval,rowq,hl,hc]
  refine Dn rfl rfl ?_
  refine DR.exit (k':=k') (by simpa [aexitTo] using hk) ?_
  rw [List.take_of_length_le (by omega)]
  exact DR.only [3] hend
 | succ d ih=>
  intro i hi
  have hc:=lss_nat i s.size
  rw [decide_eq_true (by omega)] at hc
  obtain ⟨b,hb⟩:=byte_at (s:=s) (n:=i) (by omega)
  have hbl:s.data.toList[i]? = some b:=by
   have hi':i < s.size:=by omega
   rw [getElem?_pos s i hi'] at hb
   rw [List.getElem?_eq_getElem (by omega)]
   exact hb
  have hix:=idx_at hb
  have hadd:=inc_nat (i:=i) (by omega)
  have hbt:b.toNat < 256:=b.toNat_lt
  have hnext:=encL_take hbl
  have hle:=encL_len' (s.data.toList.take i)
  have hto:(s.data.toList.take i).length≤64:=by rw [List.length_take]; omega
  have hsl:abound [] s.size s.size none=abound [] s.size s.size none:=rfl
  have hext:=ext_byte hb
  have e92:abin .eql (.int .u8 b.toNat) (.int .u8 92)=some (.bool (decide (b.toNat=92))):=eql_u8 b.toNat 92
  have e39:abin .eql (.int .u8 b.toNat) (.int .u8 39)=some (.bool (decide (b.toNat=39))):=eql_u8 b.toNat 39
  have e32:abin .lss (.int .u8 b.toNat) (.int .u8 32)=some (.bool (decide (b.toNat < 32))):=lss_u8 b.toNat 32
  have e126:abin .gtr (.int .u8 b.toNat) (.int .u8 126)=some (.bool (decide (126 < b.toNat))):=gtr_u8 b.toNat 126
  have hlo:(0:Int)≤(i:Int)∧(i:Int)≤((i+1:Nat):Int):=⟨by omega,by omega⟩
  have hhi:(0:Int)≤((i+1:Nat):Int)∧((i+1:Nat):Int)≤(s.size:Int):=⟨by omega,by omega⟩
  have cat:∀ x y:List Int,x.length+y.length≤1000→abin .add (.str (strOf x)) (.str (strOf y))=some (.str (strOf (x++y))):=fun x y h=>cat_strOf (by omega)
  by_cases h1:b=92∨b=39
  ·have eb:encB b=[92,(b.toNat:Int)]:=if_pos h1
   have c1:=cat (39::encL (s.data.toList.take i)) [92] (by simp; omega)
   have c1:abin .add (.str (strOf (39::encL (s.data.toList.take i)))) (.str ⟨#[92]⟩)=some (.str (strOf (39::encL (s.data.toList.take i)++[92]))):=c1
   have c2:=cat (39::encL (s.data.toList.take i)++[92]) [(b.toNat:Int)] (by simp; omega)
   have hE:39::encL (s.data.toList.take i)++[92]++[(b.toNat:Int)]=39::encL (s.data.toList.take (i+1)):=by rw [hnext,eb]; simp
   rw [hE] at c2
   have hor:(decide (b.toNat=92)=true)∨(decide (b.toNat=92)=false∧decide (b.toNat=39)=true):=by
    rcases h1 with rfl | rfl
    ·exact .inl rfl
    ·exact .inr ⟨rfl,rfl⟩
   refine Dg rfl ?_
   simp -dsimp only [SE,astep,seval,rowq,hl,hc]
   refine Dy rfl rfl ?_
   refine Dg rfl ?_
   simp -dsimp only [SE,astep,seval,rowq,hix]
   rcases hor with h92 | ⟨h92,h39⟩
   ·rw [h92] at e92
    refine Dg rfl ?_
    simp -dsimp only [SE,astep,seval,rowq,e92]
    refine Dy rfl rfl ?_
    refine Dg rfl ?_
    simp -dsimp only [SE,astep,seval,rowq,c1,hadd,aslcS,abound,Int.toNat_natCast,hlo,hhi,hext,c2]
    refine Dg rfl ?_
    simp -dsimp only [SE,astep,seval,rowq,hadd]
    refine Dm rfl ?_
    refine DR.inLoop ?_
    exact ih (i+1) (by omega)
   ·rw [h92] at e92
    rw [h39] at e39
    refine Dg rfl ?_
    simp -dsimp only [SE,astep,seval,rowq,e92,e39]
    refine Dy rfl rfl ?_
    refine Dg rfl ?_
    simp -dsimp only [SE,astep,seval,rowq,c1,hadd,aslcS,abound,Int.toNat_natCast,hlo,hhi,hext,c2]
    refine Dg rfl ?_
    simp -dsimp only [SE,astep,seval,rowq,hadd]
    refine Dm rfl ?_
    refine DR.inLoop ?_
    exact ih (i+1) (by omega)
  ·have h92:decide (b.toNat=92)=false:=decide_eq_false fun e=>h1 (.inl (UInt8.toNat_inj.mp e))
   have h39:decide (b.toNat=39)=false:=decide_eq_false fun e=>h1 (.inr (UInt8.toNat_inj.mp e))
   rw [h92] at e92
   rw [h39] at e39
   by_cases h2:b.toNat < 32∨126 < b.toNat
   ·have eb:encB b=[92,120,((hexc (b.toNat / 16):Nat):Int),((hexc (b.toNat % 16):Nat):Int)]:=by unfold encB; rw [if_neg h1,if_pos h2]
    have c1:=cat (39::encL (s.data.toList.take i)) [92,120] (by simp; omega)
    have c1:abin .add (.str (strOf (39::encL (s.data.toList.take i)))) (.str ⟨#[92,120]⟩)=some (.str (strOf (39::encL (s.data.toList.take i)++[92,120]))):=c1
    have c2:=cat (39::encL (s.data.toList.take i)++[92,120]) [((hexc (b.toNat / 16):Nat):Int)] (by simp; omega)
    have c3:=cat (39::encL (s.data.toList.take i)++[92,120]++[((hexc (b.toNat / 16):Nat):Int)]) [((hexc (b.toNat % 16):Nat):Int)] (by simp; omega)
    have hE:39::encL (s.data.toList.take i)++[92,120]++[((hexc (b.toNat / 16):Nat):Int)]++[((hexc (b.toNat % 16):Nat):Int)]=39::encL (s.data.toList.take (i+1)):=by rw [hnext,eb]; simp
    rw [hE] at c3
    have hs4:=shr4 hbt
    have h15:=and15 hbt
    have hor:(decide (b.toNat < 32)=true)∨(decide (b.toNat < 32)=false∧decide (126 < b.toNat)=true):=by
     rcases Nat.lt_or_ge b.toNat 32 with h | h
     ·exact .inl (decide_eq_true h)
     ·exact .inr ⟨decide_eq_false (by omega),decide_eq_true (by omega)⟩
    refine Dg rfl ?_
    simp -dsimp only [SE,astep,seval,rowq,hl,hc]
    refine Dy rfl rfl ?_
    refine Dg rfl ?_
    simp -dsimp only [SE,astep,seval,rowq,hix]
    refine Dg rfl ?_
    simp -dsimp only [SE,astep,seval,rowq,e92,e39]
    refine Dn rfl rfl ?_
    rcases hor with h32 | ⟨h32,h126⟩
    ·rw [h32] at e32
     refine Dg rfl ?_
     simp -dsimp only [SE,astep,seval,rowq,e32]
     refine Dy rfl rfl ?_
     refine Dg rfl ?_
     simp -dsimp only [SE,astep,seval,rowq,c1,hs4]
     refine (g50 (d:=b.toNat / 16) (by omega) H).mono ?_
     rintro a H1 ⟨rfl,rfl⟩
     simp -dsimp only [SE,astep,seval,rowq,c2,h15]
     refine (g50 (d:=b.toNat % 16) (Nat.mod_lt _ (by decide)) H1).mono ?_
     rintro a H2 ⟨rfl,rfl⟩
     simp -dsimp only [SE,astep,seval,rowq,c3]
     refine Dg rfl ?_
     simp -dsimp only [SE,astep,seval,rowq,hadd]
     refine Dm rfl ?_
     refine DR.inLoop ?_
     exact ih (i+1) (by omega)
    ·rw [h32] at e32
     rw [h126] at e126
     refine Dg rfl ?_
     simp -dsimp only [SE,astep,seval,rowq,e32,e126]
     refine Dy rfl rfl ?_
     refine Dg rfl ?_
     simp -dsimp only [SE,astep,seval,rowq,c1,hs4]
     refine (g50 (d:=b.toNat / 16) (by omega) H).mono ?_
     rintro a H1 ⟨rfl,rfl⟩
     simp -dsimp only [SE,astep,seval,rowq,c2,h15]
     refine (g50 (d:=b.toNat % 16) (Nat.mod_lt _ (by decide)) H1).mono ?_
     rintro a H2 ⟨rfl,rfl⟩
     simp -dsimp only [SE,astep,seval,rowq,c3]
     refine Dg rfl ?_
     simp -dsimp only [SE,astep,seval,rowq,hadd]
     refine Dm rfl ?_
     refine DR.inLoop ?_
     exact ih (i+1) (by omega)
   ·have eb:encB b=[(b.toNat:Int)]:=by unfold encB; rw [if_neg h1,if_neg h2]
    have c2:=cat (39::encL (s.data.toList.take i)) [(b.toNat:Int)] (by simp; omega)
    have hE:39::encL (s.data.toList.take i)++[(b.toNat:Int)]=39::encL (s.data.toList.take (i+1)):=by rw [hnext,eb]; simp
    rw [hE] at c2
    rw [decide_eq_false (by omega)] at e32
    rw [decide_eq_false (by omega)] at e126
    refine Dg rfl ?_
    simp -dsimp only [SE,astep,seval,rowq,hl,hc]
    refine Dy rfl rfl ?_
    refine Dg rfl ?_
    simp -dsimp only [SE,astep,seval,rowq,hix]
    refine Dg rfl ?_
    simp -dsimp only [SE,astep,seval,rowq,e92,e39]
    refine Dn rfl rfl ?_
    refine Dg rfl ?_
    simp -dsimp only [SE,astep,seval,rowq,e32,e126]
    refine Dn rfl rfl ?_
    refine Dg rfl ?_
    simp -dsimp only [SE,astep,seval,rowq,hadd,aslcS,abound,Int.toNat_natCast,hlo,hhi,hext,c2]
    refine Dg rfl ?_
    simp -dsimp only [SE,astep,seval,rowq,hadd]
    refine Dm rfl ?_
    refine DR.inLoop ?_
    exact ih (i+1) (by omega)
end
theorem g29 {s:ByteArray} (hsz:s.size≤64) (H:AHeap):DCall Tryd.prog 29 [.str s] H fun r H'=>r = .str (strOf (if plainA s=true then bytesI s else 39::(encL s.data.toList++[39])))∧H'=H:=by
 refine DCall.of_body (fn:=Tryd.f29) (by kernel_rfl) c29 (by kernel_rfl) (by simp [f29]) ?_
 unfold f29
 simp only []
 refine Dg rfl ?_
 simp -dsimp only [SE,astep,seval,rowq]
 refine Dg rfl ?_
 simp -dsimp only [SE,astep,seval,rowq]
 refine (g49 (s:=s) (by omega) H).mono ?_
 rintro a H1 ⟨rfl,rfl⟩
 cases hp:plainA s with
 | true=>
  simp -dsimp only [SE,astep,seval,rowq]
  refine Dy rfl rfl ?_
  refine Dg rfl ?_
  simp -dsimp only [SE,astep,seval,rowq]
  rw [if_pos rfl,bytesI_str]
  refine Dm rfl ?_
  exact DR.ret ⟨_,by simp [aresult,ares,Env.get] <;> rfl,rfl,rfl⟩
 | false=>
  have hle:=encL_len' s.data.toList
  have hlen:s.data.toList.length=s.size:=by rw [Array.length_toList]; rfl
  have c1:=cat_strOf (a:=39::encL s.data.toList) (b:=[39]) (by simp; omega)
  have c1:abin .add (.str (strOf (39::encL s.data.toList))) (.str ⟨#[39]⟩)=some (.str (strOf (39::(encL s.data.toList++[39])))):=c1
  simp -dsimp only [SE,astep,seval,rowq]
  refine Dn rfl rfl ?_
  refine Dg rfl ?_
  simp -dsimp only [SE,astep,seval,rowq]
  refine Dg rfl ?_
  simp -dsimp only [SE,astep,seval,rowq]
  refine Dm rfl ?_
  refine DR.loop ?_
  refine loop29 (s:=s) hsz rfl ?_ s.size 0 (by omega)
  rw [if_neg (by simp)]
  refine Dg rfl ?_
  simp -dsimp only [SE,astep,seval,rowq,c1]
  refine Dm rfl ?_
  exact DR.ret ⟨_,by simp [aresult,ares,Env.get] <;> rfl,rfl,rfl⟩
end Go.Am.Rl
