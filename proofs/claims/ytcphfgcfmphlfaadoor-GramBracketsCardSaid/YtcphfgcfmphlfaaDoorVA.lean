/- Parts: V5, V6, V7, V8, V9, V10. -/
import Derived.Test.YtcphfgcfmphlfaaDoorVY
import Derived.Test.YtcphfgcfmphlfaaDoorAmQ
set_option linter.unusedVariables false
set_option linter.unusedSimpArgs false
set_option maxRecDepth 20000
namespace Go.Am.Rl
open Go.Proofs
theorem idx_at {s:ByteArray} {n:Nat} {b:UInt8} (h:s[n]? = some b):aidxS (.str s) (.int .i64 (n:Int))=some (.int .u8 b.toNat):=by
 simp only [aidxS]
 rw [if_pos (by omega),Int.toNat_natCast,h]; rfl
theorem byte_at {s:ByteArray} {n:Nat} (h:n < s.size):∃ b,s[n]? = some b:=⟨s[n],by simp [h]⟩
theorem byte_none {s:ByteArray} {n:Nat} (h:¬ n < s.size):s[n]? = none:=by simp; omega
def skipW (p:Nat→Bool) (s:ByteArray):Nat→Nat→Nat
 | 0,i=>i
 | n+1,i=>match s[i]? with
  | some b=>if p b.toNat=true then skipW p s n (i+1) else i
  | none=>i
def skip (p:Nat→Bool) (s:ByteArray) (i:Nat):Nat:=skipW p s (s.size - i) i
theorem skipW_le (p:Nat→Bool) (s:ByteArray):∀ n i,i+n≤s.size→i≤skipW p s n i∧skipW p s n i≤s.size
 | 0,i,h=>⟨Nat.le_refl _,by simpa [skipW] using h⟩
 | n+1,i,h=>by
  simp only [skipW]
  split
  ·split
   ·have:=skipW_le p s n (i+1) (by omega); omega
   ·omega
  ·omega
theorem skip_le {p:Nat→Bool} {s:ByteArray} {i:Nat} (h:i≤s.size):i≤skip p s i∧skip p s i≤s.size:=skipW_le p s _ _ (by omega)
def scanCells (s:ByteArray) (i:Int) (e:Int):List AVal:=[.str s,.int .i64 i,.int .i64 e]
section
variable {H:AHeap} {r:Nat} {s:ByteArray} {a0 e0:Int} {p:Nat→Bool} {f:Nat} {k k':List AItem} {Q:Env→AHeap→Prop}
theorem loop21 (hb:H.get r=some (.cells 54 (scanCells s a0 e0))) (hf:∀ (b:UInt8) (H:AHeap),DCall Tryd.prog f [.int .u8 b.toNat] H fun a H'=>a = .bool (p b.toNat)∧H'=H) (hsz:s.size < 4611686018427387904) (hk:aexitTo 0 k=some k') :
  ∀ (d i:Nat),s.size - i=d→DR Tryd.prog (kof k17) 27 k' [(0,.ptr r 0),(1,.int .i64 (skipW p s d i:Nat)),(2,.fn (.func f) [] [])] H Q→
   DR Tryd.prog (kof k17) 27 (.code l17_0::.inLoop l17_0::k) [(0,.ptr r 0),(1,.int .i64 (i:Nat)),(2,.fn (.func f) [] [])] H Q:=by
 have l0:=load_cell hb (o:=0) (v:=.str s) rfl
 have hl:alenT H 0 (.str s)=some s.size:=rfl
 intro d
 induction d with
 | zero=>
  intro i hi hend
  have hc:decide ((i:Int) < (s.size:Int))=false:=by simp; omega
  refine DR.go rfl ?_
  simp -dsimp only [SZ,EZ,astep,aun,AVal.cells,seval,l0,hl,hc,abin]
  refine DR.ne rfl rfl ?_
  refine DR.exit (k':=k') (by simpa [aexitTo] using hk) ?_
  exact DR.only [0,1,2] hend
 | succ d ih=>
  intro i hi hend
  have hlt:i < s.size:=by omega
  have hc:decide ((i:Int) < (s.size:Int))=true:=by simp; omega
  obtain ⟨b,hbt⟩:=byte_at hlt
  have hx:=idx_at hbt
  refine DR.go rfl ?_
  simp -dsimp only [SZ,EZ,astep,aun,AVal.cells,seval,l0,hl,hc,abin,hx,List.nil_append,List.append_nil]
  refine (hf b H).mono ?_
  rintro a H1 ⟨rfl,rfl⟩
  simp -dsimp only [SZ,EZ,astep,aun,AVal.cells,seval]
  simp only [skipW,hbt] at hend
  cases hp:p b.toNat with
  | true=>
   rw [hp,if_pos rfl] at hend
   refine DR.ye rfl rfl ?_
   have hw:IntKind.i64.wrap ((i:Int)+1)=((i+1:Nat):Int):=wrap64 (n:=i+1) (by omega)
   refine DR.go rfl ?_
   simp -dsimp only [SZ,EZ,astep,aun,AVal.cells,seval,abin,hw]
   refine DR.nm rfl ?_
   refine DR.inLoop ?_
   exact ih (i+1) (by omega) hend
  | false=>
   rw [hp] at hend
   refine DR.ne rfl rfl ?_
   refine DR.exit (k':=k') (by simpa [aexitTo] using hk) ?_
   exact DR.only [0,1,2] hend
end
theorem g17 {H:AHeap} {r:Nat} {s:ByteArray} {a0 e0:Int} {p:Nat→Bool} {f:Nat} (hb:H.get r=some (.cells 54 (scanCells s a0 e0))) (hf:∀ (b:UInt8) (H:AHeap),DCall Tryd.prog f [.int .u8 b.toNat] H fun a H'=>a = .bool (p b.toNat)∧H'=H) (hsz:s.size < 4611686018427387904) (i:Nat) :
  DCall Tryd.prog 17 [.ptr r 0,.int .i64 (i:Nat),.fn (.func f) [] []] H fun a H'=>H'=H∧a = .int .i64 (skip p s i:Nat):=by
 refine DCall.of_body (fn:=Tryd.f17) (by kernel_rfl) c17 (by kernel_rfl) (by simp [f17]) ?_
 unfold f17
 simp only []
 refine DR.go rfl ?_
 simp -dsimp only [SZ,EZ,astep,aun,AVal.cells,seval]
 refine DR.nm rfl ?_
 refine DR.loop ?_
 refine loop21 hb hf hsz rfl (s.size - i) i rfl ?_
 refine DR.go rfl ?_
 simp -dsimp only [SZ,EZ,astep,aun,AVal.cells,seval]
 refine DR.nm rfl ?_
 exact DR.ret ⟨_,by simp [aresult,ares,Env.get] <;> rfl,rfl,rfl⟩
section
variable {H:AHeap} {s:ByteArray} {k k':List AItem} {Q:Env→AHeap→Prop}
end
end Go.Am.Rl
namespace Go.Am.Rl
open Go.Proofs
def blank (c:Nat):Bool:=((c:Int)==9) || ((c:Int)==10) || ((c:Int)==13) || ((c:Int)==32)
def noLine (c:Nat):Bool:=decide (c≠10)
def passW (s:ByteArray):Nat→Nat→Nat
 | 0,i=>i
 | n+1,i=>match s[i]? with
  | some b=>if ((b.toNat:Int)==37)=true then passW s n (skip noLine s i) else if blank b.toNat=true then passW s n (i+1) else i
  | none=>i
def pass (s:ByteArray) (i:Nat):Nat:=passW s (s.size - i) i
theorem skip_next {p:Nat→Bool} {s:ByteArray} {i:Nat} {b:UInt8} (h:s[i]? = some b) (hp:p b.toNat=true):i+1≤skip p s i:=by
 have hlt:i < s.size:=by
  rcases Nat.lt_or_ge i s.size with h1 | h1
  ·exact h1
  ·rw [byte_none (by omega)] at h; cases h
 unfold skip
 obtain ⟨n,hn⟩:∃ n,s.size - i=n+1:=⟨s.size - i - 1,by omega⟩
 rw [hn]
 simp only [skipW,h,hp,if_true]
 exact (skipW_le p s n (i+1) (by omega)).1
theorem passW_le (s:ByteArray):∀ n i,i≤s.size→i≤passW s n i∧passW s n i≤s.size
 | 0,i,h=>⟨Nat.le_refl _,h⟩
 | n+1,i,h=>by
  simp only [passW]
  split
  ·rename_i b hb
   have hlt:i < s.size:=by
    rcases Nat.lt_or_ge i s.size with h1 | h1
    ·exact h1
    ·rw [byte_none (by omega)] at hb; cases hb
   split
   ·have h1:=skip_le (p:=noLine) h
    have:=passW_le s n (skip noLine s i) h1.2; omega
   ·split
    ·have:=passW_le s n (i+1) (by omega); omega
    ·omega
  ·omega
theorem pass_le {s:ByteArray} {i:Nat} (h:i≤s.size):i≤pass s i∧pass s i≤s.size:=passW_le s _ _ h
theorem passW_more (s:ByteArray):∀ n m i,s.size - i≤n→s.size - i≤m→passW s n i=passW s m i
 | 0,0,i,_,_=>rfl
 | 0,m+1,i,h,_=>by simp only [passW,byte_none (show ¬ i < s.size by omega)]
 | n+1,0,i,_,h=>by simp only [passW,byte_none (show ¬ i < s.size by omega)]
 | n+1,m+1,i,h1,h2=>by
  simp only [passW]
  split
  ·rename_i b hb
   split
   ·rename_i hc
    have:noLine b.toNat=true:=by
     unfold noLine
     have:=eq_of_beq hc
     simp; omega
    have hs:=skip_next hb this
    exact passW_more s n m _ (by omega) (by omega)
   ·split
    ·exact passW_more s n m _ (by omega) (by omega)
    ·rfl
  ·rfl
section
variable {H:AHeap} {s:ByteArray} {k k':List AItem} {Q:Env→AHeap→Prop}
end
end Go.Am.Rl
namespace Go.Am.Rl
open Go.Proofs
def signs:List ByteArray:=[⟨#[61,58,61]⟩,⟨#[61,47,61]⟩,⟨#[45,62]⟩,⟨#[61,61]⟩,⟨#[47,61]⟩,⟨#[61,60]⟩,⟨#[62,61]⟩,⟨#[43,43]⟩,⟨#[40]⟩,⟨#[41]⟩,⟨#[123]⟩,⟨#[125]⟩,⟨#[91]⟩,⟨#[93]⟩,⟨#[44]⟩,⟨#[59]⟩,⟨#[46]⟩,⟨#[124]⟩,⟨#[61]⟩,⟨#[60]⟩,⟨#[62]⟩,⟨#[43]⟩,⟨#[45]⟩,⟨#[42]⟩,⟨#[47]⟩,⟨#[33]⟩,⟨#[58]⟩]
def stands (s:ByteArray) (i:Nat) (g:ByteArray):Bool:=decide (i+g.size≤s.size)&&((s.extract i (i+g.size)).toList==g.toList)
def signIn (s:ByteArray) (i:Nat):List ByteArray→ByteArray
 | []=>⟨#[]⟩
 | g::r=>if stands s i g=true then g else signIn s i r
def signAt (s:ByteArray) (i:Nat):ByteArray:=signIn s i signs
theorem fields0:aclosed tab Orc.none 1000000 100 sz1 43 [.str ⟨#[61,58,61,32,61,47,61,32,45,62,32,61,61,32,47,61,32,61,60,32,62,61,32,43,43,32,40,32,41,32,123,32,125,32,91,32,93,32,44,32,59,32,46,32,124,32,61,32,60,32,62,32,43,32,45,32,42,32,47,32,33,32,58]⟩]=some (.ros (signs.map .str) 27):=by kernel_rfl
theorem g43 (H:AHeap):DCall Tryd.prog 43 [.str ⟨#[61,58,61,32,61,47,61,32,45,62,32,61,61,32,47,61,32,61,60,32,62,61,32,43,43,32,40,32,41,32,123,32,125,32,91,32,93,32,44,32,59,32,46,32,124,32,61,32,60,32,62,32,43,32,45,32,42,32,47,32,33,32,58]⟩] H fun a H'=>a = .ros (signs.map .str) 27∧H'=H:=(aclosed_sound mixed tab_ok (Orc.none_ok _) fields0 H).dcall
theorem bound_some {T:Env} {o:AOpnd} {n top d:Nat} (h:T.val o=some (.int .i64 (n:Nat))) (hn:n≤top):abound T d top (some o)=some n:=by
 simp only [abound,h]
 rw [if_pos (by omega)]; simp
theorem slc_lo {T:Env} {o:AOpnd} {x:ByteArray} {n:Nat} (h:T.val o=some (.int .i64 (n:Nat))) (hn:n≤x.size):aslcS T (.str x) (some o) none=some (.str (x.extract n x.size)):=by
 simp only [aslcS,abound,bound_some h hn,Option.bind_eq_bind,Option.bind_some]
 have:=bound_some (d:=0) h hn
 simp only [abound] at this
 rw [this]; rfl
theorem slc_hi {T:Env} {o:AOpnd} {x:ByteArray} {n:Nat} (h:T.val o=some (.int .i64 (n:Nat))) (hn:n≤x.size):aslcS T (.str x) none (some o)=some (.str (x.extract 0 n)):=by
 have:=bound_some (d:=x.size) h hn
 simp only [aslcS,this,Option.bind_eq_bind,Option.bind_some]; rfl
theorem slc_both {T:Env} {o1 o2:AOpnd} {x:ByteArray} {n m:Nat} (h1:T.val o1=some (.int .i64 (n:Nat))) (h2:T.val o2=some (.int .i64 (m:Nat))) (hn:n≤m) (hm:m≤x.size):aslcS T (.str x) (some o1) (some o2)=some (.str (x.extract n m)):=by
 have e2:=bound_some (d:=x.size) h2 hm
 have e1:=bound_some (d:=0) h1 hn
 simp only [aslcS,e2,Option.bind_eq_bind,Option.bind_some,e1]
def pre (x g:ByteArray):Bool:=decide (g.size≤x.size)&&((x.extract 0 g.size).toList==g.toList)
theorem pre_rest {s g:ByteArray} {i:Nat} (hi:i≤s.size):pre (s.extract i s.size) g=stands s i g:=by
 unfold pre stands
 rw [ByteArray.size_extract,ByteArray.extract_extract,Nat.min_self]
 by_cases h:i+g.size≤s.size
 ·rw [decide_eq_true h,decide_eq_true (show g.size≤s.size - i by omega),Nat.add_zero,Nat.min_eq_left h]
 ·rw [decide_eq_false h,decide_eq_false (show ¬ g.size≤s.size - i by omega)]; rfl
theorem g52 {H:AHeap} (x g:ByteArray):DCall Tryd.prog 52 [.str x,.str g] H fun a H'=>H'=H∧a = .bool (pre x g):=by
 refine DCall.of_body (fn:=Tryd.f52) (by kernel_rfl) c52 (by kernel_rfl) (by simp [f52]) ?_
 unfold f52
 simp only []
 have hx:alenT H 0 (.str x)=some x.size:=rfl
 have hg:alenT H 0 (.str g)=some g.size:=rfl
 refine DR.go rfl ?_
 simp -dsimp only [SZ,EZ,astep,aun,AVal.cells,seval]
 unfold pre
 by_cases h:g.size≤x.size
 ·have hd:decide ((x.size:Int) ≥ (g.size:Int))=true:=by simp; omega
  have hsl:∀ T:Env,T.get 13=some (.int .i64 (g.size:Nat))→aslcS T (.str x) none (some (.t 13))=some (.str (x.extract 0 g.size)):=fun T hT=>slc_hi hT h
  rw [decide_eq_true h,Bool.true_and]
  refine DR.nm rfl ?_
  refine DR.ops ?_
  simp -dsimp only [SZ,EZ,astep,aun,AVal.cells,seval,Bool.true_beq,Bool.false_beq,hx,hg,abin,hd]
  rw [hsl _ rfl]
  simp -dsimp only [SZ,EZ,astep,aun,AVal.cells,seval,abin]
  refine DR.nm rfl ?_
  exact DR.ret ⟨_,by simp [aresult,ares,Env.get] <;> rfl,rfl,rfl⟩
 ·have hd:decide ((x.size:Int) ≥ (g.size:Int))=false:=by simp; omega
  rw [decide_eq_false h,Bool.false_and]
  refine DR.go rfl ?_
  simp -dsimp only [SZ,EZ,astep,aun,AVal.cells,seval,hx,hg,abin,hd]
  refine DR.nm rfl ?_
  exact DR.ret ⟨_,by simp [aresult,ares,Env.get] <;> rfl,rfl,rfl⟩
theorem g44 {H:AHeap} (x g:ByteArray):DCall Tryd.prog 44 [.str x,.str g] H fun a H'=>H'=H∧a = .bool (pre x g):=by
 refine DCall.of_body (fn:=Tryd.f44) (by kernel_rfl) c44 (by kernel_rfl) (by simp [f44]) ?_
 unfold f44
 simp only []
 refine DR.go rfl ?_
 simp -dsimp only [SZ,EZ,astep,aun,AVal.cells,seval]
 refine DR.go rfl ?_
 simp -dsimp only [SZ,EZ,astep,aun,AVal.cells,seval]
 refine (g52 x g).mono ?_
 rintro a H1 ⟨rfl,rfl⟩
 simp -dsimp only [SZ,EZ,astep,aun,AVal.cells,seval]
 refine DR.nm rfl ?_
 exact DR.ret ⟨_,by simp [aresult,ares,Env.get] <;> rfl,rfl,rfl⟩
theorem sign_cell {j:Nat} {g:ByteArray} (h:signs[j]? = some g) (H:AHeap):aiaddr H 1 (.ros (signs.map .str) 27) (.int .i64 (j:Nat))=some (.rop ((signs.map AVal.str).drop j))∧aload H none (.rop ((signs.map AVal.str).drop j))=some (.str g):=by
 have hj:j < 27:=(List.getElem?_eq_some_iff.mp h).1
 refine ⟨?_,?_⟩
 ·simp only [aiaddr]
  rw [if_pos ⟨by omega,by omega,by decide⟩]; simp
 ·have hl:j < (signs.map AVal.str).length:=by simpa [signs] using hj
  rw [List.drop_eq_getElem_cons hl]
  have:(signs.map AVal.str)[j] = .str g:=by
   have h2:(signs.map AVal.str)[j]? = some (.str g):=by simp [h]
   rw [List.getElem?_eq_getElem hl] at h2
   exact Option.some.inj h2
  rw [this]; rfl
section
variable {H:AHeap} {s:ByteArray} {i:Nat} {k k':List AItem} {Q:Env→AHeap→Prop}
theorem loop38 (hi:i≤s.size) (hk:aexitTo 0 k=some k')
  (hout:signIn s i []=signAt s i→DR Tryd.prog (kof k30) 26 k' [] H Q) (hq:Q [(2,.str (signAt s i))] H) :
  ∀ (l:List ByteArray) (j:Nat),signs.drop j=l→signIn s i l=signAt s i→
   DR Tryd.prog (kof k30) 26 (.code l30_0::.inLoop l30_0::k) [(3,.str (s.extract i s.size)),(15,.ros (signs.map .str) 27),(16,.int .i64 27),(17,.int .i64 (j:Nat))] H Q:=by
 intro l
 induction l with
 | nil=>
  intro j hj hs
  have hjl:27≤j:=by
   have:=List.drop_eq_nil_iff.mp hj
   simpa [signs] using this
  have hc:decide ((j:Int) < 27)=false:=by simp; omega
  refine DR.go rfl ?_
  simp -dsimp only [SZ,EZ,astep,aun,AVal.cells,seval,abin,hc]
  refine DR.ne rfl rfl ?_
  refine DR.exit (k':=k') (by simpa [aexitTo] using hk) ?_
  exact DR.only [] (hout hs)
 | cons g r ih=>
  intro j hj hs
  have hg:signs[j]? = some g:=by
   have:=congrArg (fun l=>l[0]?) hj
   simpa using this
  have hjl:j < 27:=(List.getElem?_eq_some_iff.mp hg).1
  have hr:signs.drop (j+1)=r:=by
   have:=congrArg (fun l=>l.drop 1) hj
   simpa [List.drop_drop,Nat.add_comm] using this
  have hc:decide ((j:Int) < 27)=true:=by simp; omega
  obtain ⟨h1,h2⟩:=sign_cell hg H
  refine DR.go rfl ?_
  simp -dsimp only [SZ,EZ,astep,aun,AVal.cells,seval,abin,hc]
  refine DR.ye rfl rfl ?_
  refine DR.go rfl ?_
  simp -dsimp only [SZ,EZ,astep,aun,AVal.cells,seval,h1,h2]
  refine DR.go rfl ?_
  simp -dsimp only [SZ,EZ,astep,aun,AVal.cells,seval]
  refine (g44 (s.extract i s.size) g).mono ?_
  rintro a H1 ⟨rfl,rfl⟩
  simp -dsimp only [SZ,EZ,astep,aun,AVal.cells,seval]
  rw [pre_rest hi]
  simp only [signIn] at hs
  cases hst:stands s i g with
  | true=>
   rw [hst,if_pos rfl] at hs
   subst hs
   refine DR.ye rfl rfl ?_
   refine DR.go rfl ?_
   simp -dsimp only [SZ,EZ,astep,aun,AVal.cells,seval]
   exact DR.ret hq
  | false=>
   rw [hst] at hs
   simp only [Bool.false_eq_true,if_false] at hs
   refine DR.ne rfl rfl ?_
   have hw:IntKind.i64.wrap ((j:Int)+1)=((j+1:Nat):Int):=wrap64 (n:=j+1) (by omega)
   refine DR.go rfl ?_
   simp -dsimp only [SZ,EZ,astep,aun,AVal.cells,seval,abin,hw]
   refine DR.nm rfl ?_
   refine DR.inLoop ?_
   exact ih (j+1) hr hs
end
theorem g30 {H:AHeap} {r:Nat} {s:ByteArray} {i:Nat} {e0:Int} (hb:H.get r=some (.cells 54 (scanCells s (i:Nat) e0))) (hi:i≤s.size) :
  DCall Tryd.prog 30 [.ptr r 0] H fun a H'=>H'=H∧a = .str (signAt s i):=by
 refine DCall.of_body (fn:=Tryd.f30) (by kernel_rfl) c30 (by kernel_rfl) (by simp [f30]) ?_
 unfold f30
 simp only []
 have l0:=load_cell hb (o:=0) (v:=.str s) rfl
 have l1:=load_cell hb (o:=1) (v:=.int .i64 (i:Nat)) rfl
 have hsl:∀ T:Env,T.get 13=some (.int .i64 (i:Nat))→aslcS T (.str s) (some (.t 13)) none=some (.str (s.extract i s.size)):=fun T hT=>slc_lo hT hi
 refine DR.go rfl ?_
 simp -dsimp only [SZ,EZ,astep,aun,AVal.cells,seval]
 refine DR.nm rfl ?_
 refine DR.draw (by kernel_rfl) d30_1 ?_
 simp -dsimp only [m30_1,SZ,EZ,astep,aun,AVal.cells,seval,DS_nil,DS_cons,seesAll,staysAll,abit,List.getD_cons_zero,List.getD_cons_succ,AOp.quiet,AOp.reads,true_and,and_true,decide_true,decide_false,and_self,l0,l1]
 rw [hsl _ rfl]
 simp -dsimp only [SZ,EZ,astep,aun,AVal.cells,seval]
 have hros:∀ H,alenT H 1 (.ros (signs.map .str) 27)=some 27:=fun _=>rfl
 refine DR.go rfl ?_
 simp -dsimp only [SZ,EZ,astep,aun,AVal.cells,seval]
 refine (g43 H).mono ?_
 rintro a H1 ⟨rfl,rfl⟩
 simp -dsimp only [SZ,EZ,astep,aun,AVal.cells,seval]
 simp -dsimp only [SZ,EZ,astep,aun,AVal.cells,seval,hros]
 refine DR.nm rfl ?_
 refine DR.loop ?_
 refine loop38 hi rfl ?_ ?_ signs 0 rfl rfl
 ·intro hs
  refine DR.go rfl ?_
  simp -dsimp only [SZ,EZ,astep,aun,AVal.cells,seval]
  refine DR.nm rfl ?_
  exact DR.ret ⟨_,by simp [aresult,ares,Env.get] <;> rfl,rfl,by rw [← hs]; rfl⟩
 ·exact ⟨_,by simp [aresult,ares,Env.get] <;> rfl,rfl,rfl⟩
section
variable {H:AHeap} {s:ByteArray} {i b:Nat} {k k':List AItem} {Q:Env→AHeap→Prop}
end
end Go.Am.Rl
namespace Go.Am.Rl
open Go.Proofs
def hexByte (a b:Int):Int:=IntKind.u8.wrap (IntKind.i64.wrap (IntKind.i64.wrap (16 * a)+b))
def esc (s:ByteArray) (i:Nat):Option (Int × Nat):=
 match s[i+1]? with
 | none=>none
 | some c=>
  if (((c.toNat:Int)==92) || ((c.toNat:Int)==39) || ((c.toNat:Int)==34))=true then some ((c.toNat:Int),2)
  else if ((c.toNat:Int)==110)=true then some (10,2)
  else if ((c.toNat:Int)==116)=true then some (9,2)
  else if ((c.toNat:Int)==120)=true then
   match s[i+2]?,s[i+3]? with
   | some x,some y=>if (decide (hexv x.toNat ≥ 0)&&decide (hexv y.toNat ≥ 0))=true then some (hexByte (hexv x.toNat) (hexv y.toNat),4) else none
   | _,_=>none
  else none
theorem rest_at {s:ByteArray} {i:Nat} (hi:i≤s.size) (j:Nat):(s.extract i s.size)[j]? = s[i+j]? :=by
 have hsz:(s.extract i s.size).size=s.size - i:=by rw [ByteArray.size_extract,Nat.min_self]
 by_cases h:i+j < s.size
 ·rw [getElem?_pos (s.extract i s.size) j (by omega),getElem?_pos s (i+j) h,ByteArray.getElem_extract]
 ·rw [byte_none (by omega),byte_none h]
theorem esc_rest {s:ByteArray} {i:Nat} (hi:i≤s.size):esc (s.extract i s.size) 0=esc s i:=by
 unfold esc
 simp only [rest_at hi,Nat.zero_add,Nat.add_zero]
theorem esc_size {s:ByteArray} {i:Nat} {p:Int × Nat} (h:esc s i=some p):2≤p.2∧i+p.2≤s.size:=by
 unfold esc at h
 split at h
 ·cases h
 ·rename_i c hc
  have h1:i+1 < s.size:=by
   rcases Nat.lt_or_ge (i+1) s.size with h1 | h1
   ·exact h1
   ·rw [byte_none (by omega)] at hc; cases hc
  split at h
  ·injection h with h; subst h; exact ⟨Nat.le_refl _,by simp; omega⟩
  ·split at h
   ·injection h with h; subst h; exact ⟨Nat.le_refl _,by simp; omega⟩
   ·split at h
    ·injection h with h; subst h; exact ⟨Nat.le_refl _,by simp; omega⟩
    ·split at h
     ·split at h
      ·rename_i x y hx hy
       have h3:i+3 < s.size:=by
        rcases Nat.lt_or_ge (i+3) s.size with h1 | h1
        ·exact h1
        ·rw [byte_none (by omega)] at hy; cases hy
       split at h
       ·injection h with h; subst h; exact ⟨by simp,by simp; omega⟩
       ·cases h
      ·cases h
     ·cases h
def escVal:Option (Int × Nat)→AVal
 | some p=>.tup [.int .u8 p.1,.int .i64 (p.2:Nat)]
 | none=>.tup [.int .u8 0,.int .i64 0]
theorem size_of_none {t:ByteArray} {n:Nat} (h:t[n]? = none):t.size≤n:=by
 rcases Nat.lt_or_ge n t.size with h1 | h1
 ·obtain ⟨b,hb⟩:=byte_at h1; rw [h] at hb; cases hb
 ·exact h1
theorem size_of_some {t:ByteArray} {n:Nat} {b:UInt8} (h:t[n]? = some b):n < t.size:=by
 rcases Nat.lt_or_ge n t.size with h1 | h1
 ·exact h1
 ·rw [byte_none (by omega)] at h; cases h
theorem g42 {H:AHeap} (t:ByteArray):DCall Tryd.prog 42 [.str t] H fun a H'=>H'=H∧a=escVal (esc t 0):=by
 refine DCall.of_body (fn:=Tryd.f42) (by kernel_rfl) c42 (by kernel_rfl) (by simp [f42]) ?_
 unfold f42
 simp only []
 have hl:∀ H,alenT H 0 (.str t)=some t.size:=fun _=>rfl
 refine DR.go rfl ?_
 simp -dsimp only [SZ,EZ,astep,aun,AVal.cells,seval]
 cases hc:t[1]? with
 | none=>
  have hs:=size_of_none hc
  have hd:decide ((t.size:Int) < 2)=true:=by simp; omega
  refine DR.go rfl ?_
  simp -dsimp only [SZ,EZ,astep,aun,AVal.cells,seval,hl,abin,hd]
  refine DR.ye rfl rfl ?_
  refine DR.go rfl ?_
  simp -dsimp only [SZ,EZ,astep,aun,AVal.cells,seval]
  refine DR.nm rfl ?_
  exact DR.ret ⟨_,by simp [aresult,ares,Env.get] <;> rfl,rfl,by simp [esc,hc,escVal]⟩
 | some c=>
  have hs:=size_of_some hc
  have hd:decide ((t.size:Int) < 2)=false:=by simp; omega
  have hx1:aidxS (.str t) (.int .i64 1)=some (.int .u8 c.toNat):=idx_at hc
  refine DR.go rfl ?_
  simp -dsimp only [SZ,EZ,astep,aun,AVal.cells,seval,hl,abin,hd]
  refine DR.ne rfl rfl ?_
  refine DR.go rfl ?_
  simp -dsimp only [SZ,EZ,astep,aun,AVal.cells,seval,hx1]
  refine DR.go rfl ?_
  simp -dsimp only [SZ,EZ,astep,aun,AVal.cells,seval]
  cases e1:((c.toNat:Int)==92) with
  | true=>
   refine DR.go rfl ?_
   simp -dsimp only [SZ,EZ,astep,aun,AVal.cells,seval,abin,e1]
   refine DR.ye rfl rfl ?_
   refine DR.ye rfl rfl ?_
   refine DR.go rfl ?_
   simp -dsimp only [SZ,EZ,astep,aun,AVal.cells,seval]
   refine DR.nm rfl ?_
   exact DR.ret ⟨_,by simp [aresult,ares,Env.get] <;> rfl,rfl,by simp [esc,hc,e1,escVal]⟩
  | false=>
   refine DR.go rfl ?_
   simp -dsimp only [SZ,EZ,astep,aun,AVal.cells,seval,abin,e1]
   refine DR.ne rfl rfl ?_
   cases e2:((c.toNat:Int)==39) with
   | true=>
    refine DR.go rfl ?_
    simp -dsimp only [SZ,EZ,astep,aun,AVal.cells,seval,abin,e2]
    refine DR.ye rfl rfl ?_
    refine DR.ye rfl rfl ?_
    refine DR.go rfl ?_
    simp -dsimp only [SZ,EZ,astep,aun,AVal.cells,seval]
    refine DR.nm rfl ?_
    exact DR.ret ⟨_,by simp [aresult,ares,Env.get] <;> rfl,rfl,by simp [esc,hc,e1,e2,escVal]⟩
   | false=>
    refine DR.go rfl ?_
    simp -dsimp only [SZ,EZ,astep,aun,AVal.cells,seval,abin,e2]
    refine DR.ne rfl rfl ?_
    cases e3:((c.toNat:Int)==34) with
    | true=>
     refine DR.go rfl ?_
     simp -dsimp only [SZ,EZ,astep,aun,AVal.cells,seval,abin,e3]
     refine DR.ye rfl rfl ?_
     refine DR.go rfl ?_
     simp -dsimp only [SZ,EZ,astep,aun,AVal.cells,seval]
     refine DR.nm rfl ?_
     exact DR.ret ⟨_,by simp [aresult,ares,Env.get] <;> rfl,rfl,by simp [esc,hc,e1,e2,e3,escVal]⟩
    | false=>
     refine DR.go rfl ?_
     simp -dsimp only [SZ,EZ,astep,aun,AVal.cells,seval,abin,e3]
     refine DR.ne rfl rfl ?_
     cases e4:((c.toNat:Int)==110) with
     | true=>
      refine DR.go rfl ?_
      simp -dsimp only [SZ,EZ,astep,aun,AVal.cells,seval,abin,e4]
      refine DR.ye rfl rfl ?_
      refine DR.go rfl ?_
      simp -dsimp only [SZ,EZ,astep,aun,AVal.cells,seval]
      refine DR.nm rfl ?_
      exact DR.ret ⟨_,by simp [aresult,ares,Env.get] <;> rfl,rfl,by simp [esc,hc,e1,e2,e3,e4,escVal]⟩
     | false=>
      refine DR.go rfl ?_
      simp -dsimp only [SZ,EZ,astep,aun,AVal.cells,seval,abin,e4]
      refine DR.ne rfl rfl ?_
      cases e5:((c.toNat:Int)==116) with
      | true=>
       refine DR.go rfl ?_
       simp -dsimp only [SZ,EZ,astep,aun,AVal.cells,seval,abin,e5]
       refine DR.ye rfl rfl ?_
       refine DR.go rfl ?_
       simp -dsimp only [SZ,EZ,astep,aun,AVal.cells,seval]
       refine DR.nm rfl ?_
       exact DR.ret ⟨_,by simp [aresult,ares,Env.get] <;> rfl,rfl,by simp [esc,hc,e1,e2,e3,e4,e5,escVal]⟩
      | false=>
       refine DR.go rfl ?_
       simp -dsimp only [SZ,EZ,astep,aun,AVal.cells,seval,abin,e5]
       refine DR.ne rfl rfl ?_
       cases e6:((c.toNat:Int)==120) with
       | false=>
        refine DR.go rfl ?_
        simp -dsimp only [SZ,EZ,astep,aun,AVal.cells,seval,abin,e6]
        refine DR.ne rfl rfl ?_
        refine DR.go rfl ?_
        simp -dsimp only [SZ,EZ,astep,aun,AVal.cells,seval]
        refine DR.nm rfl ?_
        exact DR.ret ⟨_,by simp [aresult,ares,Env.get] <;> rfl,rfl,by simp [esc,hc,e1,e2,e3,e4,e5,e6,escVal]⟩
       | true=>
        refine DR.go rfl ?_
        simp -dsimp only [SZ,EZ,astep,aun,AVal.cells,seval,abin,e6]
        refine DR.ye rfl rfl ?_
        cases hy:t[3]? with
        | none=>
         have hs3:=size_of_none hy
         have hd3:decide ((t.size:Int) > 3)=false:=by simp; omega
         refine DR.go rfl ?_
         simp -dsimp only [SZ,EZ,astep,aun,AVal.cells,seval,hl,abin,hd3]
         refine DR.ne rfl rfl ?_
         refine DR.go rfl ?_
         simp -dsimp only [SZ,EZ,astep,aun,AVal.cells,seval]
         refine DR.nm rfl ?_
         exact DR.ret ⟨_,by simp [aresult,ares,Env.get] <;> rfl,rfl,by cases h2:t[2]? <;> simp [esc,hc,e1,e2,e3,e4,e5,e6,escVal,hy,h2]⟩
        | some y=>
         have hs3:=size_of_some hy
         have hd3:decide ((t.size:Int) > 3)=true:=by simp; omega
         obtain ⟨x,hx⟩:=byte_at (s:=t) (n:=2) (by omega)
         have hx2:aidxS (.str t) (.int .i64 2)=some (.int .u8 x.toNat):=idx_at hx
         have hx3:aidxS (.str t) (.int .i64 3)=some (.int .u8 y.toNat):=idx_at hy
         refine DR.go rfl ?_
         simp -dsimp only [SZ,EZ,astep,aun,AVal.cells,seval,hl,abin,hd3,hx2]
         refine (of_chk t52 x H).mono ?_
         rintro a H1 ⟨rfl,rfl⟩
         simp -dsimp only [SZ,EZ,astep,aun,AVal.cells,seval]
         cases g2:decide (hexv x.toNat ≥ 0) with
         | false=>
          simp -dsimp only [SZ,EZ,astep,aun,AVal.cells,seval,abin,g2]
          refine DR.ne rfl rfl ?_
          refine DR.go rfl ?_
          simp -dsimp only [SZ,EZ,astep,aun,AVal.cells,seval]
          refine DR.nm rfl ?_
          exact DR.ret ⟨_,by simp [aresult,ares,Env.get] <;> rfl,rfl,by simp [esc,hc,e1,e2,e3,e4,e5,e6,escVal,hy,hx,g2]⟩
         | true=>
          simp -dsimp only [SZ,EZ,astep,aun,AVal.cells,seval,abin,g2,hx3]
          refine (of_chk t52 y H1).mono ?_
          rintro a H2 ⟨rfl,rfl⟩
          simp -dsimp only [SZ,EZ,astep,aun,AVal.cells,seval]
          cases g3:decide (hexv y.toNat ≥ 0) with
          | false=>
           simp -dsimp only [SZ,EZ,astep,aun,AVal.cells,seval,abin,g3]
           refine DR.ne rfl rfl ?_
           refine DR.go rfl ?_
           simp -dsimp only [SZ,EZ,astep,aun,AVal.cells,seval]
           refine DR.nm rfl ?_
           exact DR.ret ⟨_,by simp [aresult,ares,Env.get] <;> rfl,rfl,by simp [esc,hc,e1,e2,e3,e4,e5,e6,escVal,hy,hx,g2,g3]⟩
          | true=>
           simp -dsimp only [SZ,EZ,astep,aun,AVal.cells,seval,abin,g3]
           refine DR.ye rfl rfl ?_
           refine DR.nm rfl ?_
           refine DR.draw (by kernel_rfl) d42_15 ?_
           simp -dsimp only [m42_15,SZ,EZ,astep,aun,AVal.cells,seval,DS_nil,DS_cons,seesAll,staysAll,abit,List.getD_cons_zero,List.getD_cons_succ,AOp.quiet,AOp.reads,true_and,and_true,decide_true,decide_false,and_self,hx2]
           refine (of_chk t52 x H2).mono ?_
           rintro a H3 ⟨rfl,rfl⟩
           simp -dsimp only [SZ,EZ,astep,aun,AVal.cells,seval]
           simp -dsimp only [SZ,EZ,astep,aun,AVal.cells,seval,DS_nil,DS_cons,seesAll,staysAll,abit,List.getD_cons_zero,List.getD_cons_succ,AOp.quiet,AOp.reads,true_and,and_true,decide_true,decide_false,and_self,abin,hx3]
           refine (of_chk t52 y H3).mono ?_
           rintro a H4 ⟨rfl,rfl⟩
           simp -dsimp only [SZ,EZ,astep,aun,AVal.cells,seval]
           simp -dsimp only [SZ,EZ,astep,aun,AVal.cells,seval,DS_nil,DS_cons,seesAll,staysAll,abit,List.getD_cons_zero,List.getD_cons_succ,AOp.quiet,AOp.reads,true_and,and_true,decide_true,decide_false,and_self,abin]
           refine DR.nm rfl ?_
           exact DR.ret ⟨_,by simp [aresult,ares,Env.get] <;> rfl,rfl,by simp [esc,hc,e1,e2,e3,e4,e5,e6,escVal,hy,hx,g2,g3,hexByte]⟩
end Go.Am.Rl
namespace Go.Am.Rl
open Go.Proofs
def quoteW (s:ByteArray) (m:Int):Nat→Nat→List Int→Option (ByteArray × Nat)
 | 0,_,_=>none
 | n+1,i,out=>match s[i]? with
  | none=>none
  | some c=>if ((c.toNat:Int)==m)=true then some (strOf out,i+1)
   else if ((c.toNat:Int) != 92)=true then quoteW s m n (i+1) (out++[(c.toNat:Int)])
   else match esc s i with
    | none=>none
    | some p=>quoteW s m n (i+p.2) (out++[p.1])
def quote (s:ByteArray) (m:Int) (i:Nat):Option (ByteArray × Nat):=quoteW s m (s.size - i) (i+1) []
theorem quoteW_le {s:ByteArray} {m:Int}:∀ {n i:Nat} {out:List Int} {p:ByteArray × Nat},quoteW s m n i out=some p→i < p.2∧p.2≤s.size
 | 0,i,out,p,h=>by cases h
 | n+1,i,out,p,h=>by
  simp only [quoteW] at h
  split at h
  ·cases h
  ·rename_i c hc
   have:=size_of_some hc
   split at h
   ·injection h with h; subst h; exact ⟨Nat.lt_succ_self _,this⟩
   ·split at h
    ·have:=quoteW_le h; omega
    ·split at h
     ·cases h
     ·rename_i q hq
      have h1:=esc_size hq
      have:=quoteW_le h; omega
structure Out8 (H0 H:AHeap) (x:AVal) (out:List Int):Prop where
 gr:Grow H 5 1 x out.length (u8s out)
 own:∀ j,rid x=some j→H0.next≤j
 nx:H0.next≤H.next
 fr:∀ j,j < H0.next→H.get j=H0.get j
theorem Out8.new (H:AHeap):Out8 H H .nils []:=⟨Grow.nils _ _ _,fun j h=>(by cases h),Nat.le_refl _,fun _ _=>rfl⟩
theorem Out8.push {H0 H:AHeap} {x:AVal} {out:List Int} (h:Out8 H0 H x out) (c:Int) (hl:out.length < 1000000) :
  ∃ x' H',aapp 5 1 1 (H.push (.cells 5 [.int .u8 c])) x (.sl H.next 0 1 (some 1))=some (x',H')∧Out8 H0 H' x' (out++[c]):=by
 have hg:(H.push (.cells 5 [.int .u8 c])).get H.next=some (.cells 5 [.int .u8 c]):=by rw [AHeap.get_push,if_pos rfl]
 have hgr:Grow (H.push (.cells 5 [.int .u8 c])) 5 1 x out.length (u8s out):=h.gr.frame fun id hid=>by
  have:=h.gr.lt hid
  rw [AHeap.get_push,if_neg (by omega)]
 obtain ⟨x',H',h1,h2,h3,h4,h5⟩:=hgr.one hg rfl (ones_u8 c) (by omega) (b:=1) (by omega) (by omega)
 have hn:(H.push (.cells 5 [.int .u8 c])).next=H.next+1:=rfl
 refine ⟨x',H',h1,?_,fun j hj=> ?_,?_,fun j hj=> ?_⟩
 ·rw [u8s_snoc] at h2
  simpa using h2
 ·have:=h5 j hj; have:=h.nx; omega
 ·have:=h.nx; omega
 ·have hnx:=h.nx
  rw [h4 j (by omega) (fun e=>by have:=h.own j e; omega),AHeap.get_push,if_neg (by omega),h.fr j hj]
section
variable {H0:AHeap} {r:Nat} {s:ByteArray} {a0 e0 m:Int} {k k':List AItem} {Q:Env→AHeap→Prop}
theorem loop37 (hb:H0.get r=some (.cells 54 (scanCells s a0 e0))) (hsz:s.size < 1000000) (hk:aexitTo 0 k=some k') :
  ∀ (d i:Nat) (out:List Int) (x:AVal) (H:AHeap),s.size - i≤d→out.length≤i→Out8 H0 H x out→
   (quoteW s m d i out=none→∀ (j:Int) (x':AVal) (out':List Int) (H':AHeap),Out8 H0 H' x' out'→DR Tryd.prog (kof k29) 68 k' [(0,.ptr r 0),(7,.int .i64 j)] H' Q)→
   (∀ p (x':AVal) (out':List Int) (H':AHeap),quoteW s m d i out=some p→Out8 H0 H' x' out'→Q [(4,.str p.1),(5,.int .i64 (p.2:Nat))] H')→
   DR Tryd.prog (kof k29) 68 (.code l29_0::.inLoop l29_0::k) [(0,.ptr r 0),(1,.int .u8 m),(6,x),(7,.int .i64 (i:Nat))] H Q:=by
 intro d
 induction d with
 | zero=>
  intro i out x H hi ho hI hend hret
  have hbH:H.get r=some (.cells 54 (scanCells s a0 e0)):=(hI.fr r (AHeap.get_lt hb)).trans hb
  have l0:=load_cell hbH (o:=0) (v:=.str s) rfl
  have hl:∀ H,alenT H 0 (.str s)=some s.size:=fun _=>rfl
  have hc:decide ((i:Int) < (s.size:Int))=false:=by simp; omega
  refine DR.go rfl ?_
  simp -dsimp only [SZ,EZ,astep,aun,AVal.cells,seval,l0,hl,abin,hc]
  refine DR.ne rfl rfl ?_
  refine DR.exit (k':=k') (by simpa [aexitTo] using hk) ?_
  exact DR.only [0,7] (hend rfl _ _ _ _ hI)
 | succ d ih=>
  intro i out x H hi ho hI hend hret
  have hbH:H.get r=some (.cells 54 (scanCells s a0 e0)):=(hI.fr r (AHeap.get_lt hb)).trans hb
  have l0:=load_cell hbH (o:=0) (v:=.str s) rfl
  have hl:∀ H,alenT H 0 (.str s)=some s.size:=fun _=>rfl
  rcases Nat.lt_or_ge i s.size with hlt | hge
  ·have hc:decide ((i:Int) < (s.size:Int))=true:=by simp; omega
   obtain ⟨c,hct⟩:=byte_at hlt
   have hx:=idx_at hct
   have hw1:IntKind.i64.wrap ((i:Int)+1)=((i+1:Nat):Int):=wrap64 (n:=i+1) (by omega)
   simp only [quoteW,hct] at hend hret
   refine DR.go rfl ?_
   simp -dsimp only [SZ,EZ,astep,aun,AVal.cells,seval,l0,hl,abin,hc]
   refine DR.ye rfl rfl ?_
   refine DR.go rfl ?_
   simp -dsimp only [SZ,EZ,astep,aun,AVal.cells,seval,l0,hx]
   cases em:((c.toNat:Int)==m) with
   | true=>
    refine DR.go rfl ?_
    simp -dsimp only [SZ,EZ,astep,aun,AVal.cells,seval,abin,em]
    simp only [em,if_true] at hret
    refine DR.ye rfl rfl ?_
    refine DR.go rfl ?_
    simp -dsimp only [SZ,EZ,astep,aun,AVal.cells,seval,hI.gr.toStr,abin,hw1]
    exact DR.ret (hret _ _ _ _ rfl hI)
   | false=>
    refine DR.go rfl ?_
    simp -dsimp only [SZ,EZ,astep,aun,AVal.cells,seval,abin,em]
    simp only [em,Bool.false_eq_true,if_false] at hend hret
    refine DR.ne rfl rfl ?_
    cases e92:((c.toNat:Int) != 92) with
    | true=>
     obtain ⟨x',H',ha,hI'⟩:=hI.push (c.toNat:Int) (by omega)
     simp only [e92,if_true] at hend hret
     refine DR.go rfl ?_
     simp -dsimp only [SZ,EZ,astep,aun,AVal.cells,seval,abin,e92]
     refine DR.ye rfl rfl ?_
     refine DR.go rfl ?_
     simp -dsimp only [SZ,EZ,astep,aun,AVal.cells,seval,Env.parts,afill,AVal.cells,List.take_zero,List.nil_append,List.cons_append,List.append_nil,List.drop_one,List.tail_cons,ha]
     refine DR.go rfl ?_
     simp -dsimp only [SZ,EZ,astep,aun,AVal.cells,seval,abin,hw1]
     refine DR.exit rfl ?_
     refine DR.nm rfl ?_
     refine DR.inLoop ?_
     exact ih (i+1) _ _ _ (by omega) (by simp; omega) hI' hend hret
    | false=>
     simp only [e92,Bool.false_eq_true,if_false] at hend hret
     refine DR.go rfl ?_
     simp -dsimp only [SZ,EZ,astep,aun,AVal.cells,seval,abin,e92]
     refine DR.ne rfl rfl ?_
     have hsl:∀ T:Env,T.get 50=some (.int .i64 (i:Nat))→aslcS T (.str s) (some (.t 50)) none=some (.str (s.extract i s.size)):=fun T hT=>slc_lo hT (by omega)
     refine DR.go rfl ?_
     simp -dsimp only [SZ,EZ,astep,aun,AVal.cells,seval,l0]
     rw [hsl _ rfl]
     simp -dsimp only [SZ,EZ,astep,aun,AVal.cells,seval]
     refine (g42 (s.extract i s.size)).mono ?_
     rintro a H1 ⟨rfl,rfl⟩
     simp -dsimp only [SZ,EZ,astep,aun,AVal.cells,seval]
     rw [esc_rest (by omega)]
     cases he:esc s i with
     | none=>
      simp only [he] at hend
      simp -dsimp only [SZ,EZ,astep,aun,AVal.cells,seval,escVal]
      refine DR.go rfl ?_
      simp -dsimp only [SZ,EZ,astep,aun,AVal.cells,seval,abin]
      refine DR.ye rfl rfl ?_
      refine DR.exit (k':=k') (by simpa [aexitTo] using hk) ?_
      exact DR.only [0,7] (hend trivial _ _ _ _ hI)
     | some p=>
      obtain ⟨b,n⟩:=p
      have hes:=esc_size he
      simp only at hes
      simp only [he] at hend hret
      have hn0:((n:Int)==0)=false:=by
       rw [beq_eq_false_iff_ne]; omega
      have hw2:IntKind.i64.wrap ((i:Int)+(n:Int))=((i+n:Nat):Int):=by
       rw [← Int.natCast_add]; exact wrap64 (by omega)
      obtain ⟨x',H',ha,hI'⟩:=hI.push b (by omega)
      simp -dsimp only [SZ,EZ,astep,aun,AVal.cells,seval,escVal]
      refine DR.go rfl ?_
      simp -dsimp only [SZ,EZ,astep,aun,AVal.cells,seval,abin,hn0]
      refine DR.ne rfl rfl ?_
      refine DR.go rfl ?_
      simp -dsimp only [SZ,EZ,astep,aun,AVal.cells,seval,Env.parts,afill,AVal.cells,List.take_zero,List.nil_append,List.cons_append,List.append_nil,List.drop_one,List.tail_cons,ha]
      refine DR.go rfl ?_
      simp -dsimp only [SZ,EZ,astep,aun,AVal.cells,seval,abin,hw2]
      refine DR.nm rfl ?_
      refine DR.inLoop ?_
      exact ih (i+n) _ _ _ (by omega) (by simp; omega) hI' hend hret
  ·have hc:decide ((i:Int) < (s.size:Int))=false:=by simp; omega
   simp only [quoteW,byte_none (show ¬ i < s.size by omega)] at hend
   refine DR.go rfl ?_
   simp -dsimp only [SZ,EZ,astep,aun,AVal.cells,seval,l0,hl,abin,hc]
   refine DR.ne rfl rfl ?_
   refine DR.exit (k':=k') (by simpa [aexitTo] using hk) ?_
   exact DR.only [0,7] (hend trivial _ _ _ _ hI)
end
theorem g29 {H:AHeap} {r:Nat} {s:ByteArray} {i:Nat} {e0 m:Int} (hb:H.get r=some (.cells 54 (scanCells s (i:Nat) e0))) (hsz:s.size < 1000000) (hi:i≤s.size) :
  DCall Tryd.prog 29 [.ptr r 0,.int .u8 m] H fun a H'=>(match quote s m i with
   | some p=>a = .tup [.str p.1,.int .i64 (p.2:Nat)]∧H'.get r=some (.cells 54 (scanCells s (i:Nat) e0))
   | none=>(∃ j,a = .tup [.str ⟨#[]⟩,.int .i64 j])∧H'.get r=some (.cells 54 (scanCells s (i:Nat) 23)))∧H.next≤H'.next∧∀ j,j < H.next→j≠r→H'.get j=H.get j:=by
 refine DCall.of_body (fn:=Tryd.f29) (by kernel_rfl) c29 (by kernel_rfl) (by simp [f29]) ?_
 unfold f29
 simp only []
 have l1:=load_cell hb (o:=1) (v:=.int .i64 (i:Nat)) rfl
 have hw1:IntKind.i64.wrap ((i:Int)+1)=((i+1:Nat):Int):=wrap64 (n:=i+1) (by omega)
 have hrl:=AHeap.get_lt hb
 refine DR.go rfl ?_
 simp -dsimp only [SZ,EZ,astep,aun,AVal.cells,seval]
 refine DR.go rfl ?_
 simp -dsimp only [SZ,EZ,astep,aun,AVal.cells,seval]
 refine DR.go rfl ?_
 simp -dsimp only [SZ,EZ,astep,aun,AVal.cells,seval,l1,abin,hw1]
 refine DR.nm rfl ?_
 refine DR.loop ?_
 refine loop37 (H0:=H) hb hsz rfl (s.size - i) (i+1) [] .nils H (by omega) (by simp) (Out8.new H) ?_ ?_
 ·intro hq j x' out' H' hI
  have hb':H'.get r=some (.cells 54 (scanCells s (i:Nat) e0)):=(hI.fr r hrl).trans hb
  have hst:=astore_one hb' (o:=2) (x:=.int .i64 23) (by simp [scanCells]) rfl
  refine DR.go rfl ?_
  simp -dsimp only [SZ,EZ,astep,aun,AVal.cells,seval,hst]
  refine DR.go rfl ?_
  simp -dsimp only [SZ,EZ,astep,aun,AVal.cells,seval]
  have hnx:=hI.nx
  refine DR.ret ⟨_,by simp [aresult,ares,Env.get] <;> rfl,?_,by simpa using hnx,fun j hj hne=> ?_⟩
  ·have:quote s m i=none:=hq
   rw [this]
   exact ⟨⟨j,rfl⟩,by rw [AHeap.get_set,if_pos rfl,if_pos (AHeap.get_lt hb')]; rfl⟩
  ·rw [AHeap.get_set,if_neg hne,hI.fr j hj]
 ·intro p x' out' H' hq hI
  refine ⟨_,by simp [aresult,ares,Env.get] <;> rfl,?_,hI.nx,fun j hj hne=>hI.fr j hj⟩
  have:quote s m i=some p:=hq
  rw [this]
  exact ⟨rfl,(hI.fr r hrl).trans hb⟩
end Go.Am.Rl
namespace Go.Am.Rl
open Go.Proofs
section
variable {H0:AHeap} {s:ByteArray} {i0:Nat} {m:Int} {k k':List AItem} {Q:Env→AHeap→Prop}
end
end Go.Am.Rl
