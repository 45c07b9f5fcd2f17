/- Parts: V30G, V35, V36, V37, VW. -/
import Derived.Test.YtcphfgcfmphlfaaDoorVD
set_option linter.unusedVariables false
set_option linter.unusedSimpArgs false
namespace Go.Am.Rl
open Go.Proofs
theorem skipW_run {p:Nat→Bool} {s:ByteArray} {e:Nat}:∀ (n i:Nat),i≤e→e - i < n→(∀ j,i≤j→j < e→∃ b,s[j]? = some b∧p b.toNat=true)→(∀ b,s[e]? = some b→p b.toNat=false)→skipW p s n i=e
 | 0,i,_,h,_,_=>by omega
 | n+1,i,hi,hn,hall,hend=>by
  by_cases he:i=e
  ·subst he
   unfold skipW
   split
   ·rename_i b hb
    rw [hend b hb,if_neg (by simp)]
   ·rfl
  ·obtain ⟨b,hb,hp⟩:=hall i (Nat.le_refl _) (by omega)
   simp only [skipW,hb,hp,if_true]
   exact skipW_run n (i+1) (by omega) (by omega) (fun j h1 h2=>hall j (by omega) h2) hend
theorem skip_run {p:Nat→Bool} {s:ByteArray} {i e:Nat} (hi:i≤e) (he:e≤s.size) (hall:∀ j,i≤j→j < e→∃ b,s[j]? = some b∧p b.toNat=true) (hend:∀ b,s[e]? = some b→p b.toNat=false):skip p s i=e:=by
 rw [skip]
 rcases Nat.lt_or_ge e s.size with h | h
 ·exact skipW_run _ _ hi (by omega) hall hend
 ·have:e=s.size:=by omega
  subst this
  have h1:=(skipW_le p s (s.size - i) i (by omega)).2
  by_cases hlt:skipW p s (s.size - i) i=s.size
  ·exact hlt
  ·have h2:=skipW_run (p:=p) (s:=s) (e:=s.size) (s.size - i+1) i hi (by omega) hall hend
   have h3:∀ n i,s.size - i≤n→skipW p s (n+1) i=skipW p s n i:=by
    intro n
    induction n with
    | zero=>intro i h; simp only [skipW,byte_none (show ¬ i < s.size by omega)]
    | succ n ih=>
     intro i h
     rw [skipW]
     conv=>rhs; rw [skipW]
     split
     ·split
      ·exact ih (i+1) (by omega)
      ·rfl
     ·rfl
   rw [h3 _ _ (Nat.le_refl _)] at h2
   exact h2
theorem app_left {a b:ByteArray} {k:Nat} (h:k < a.size):(a++b)[k]? = a[k]? :=by
 have hs:(a++b).size=a.size+b.size:=ByteArray.size_append
 rw [getElem?_pos (a++b) k (by omega),getElem?_pos a k h,ByteArray.getElem_append_left h]
theorem app_right {a b:ByteArray} {k:Nat}:(a++b)[a.size+k]? = b[k]? :=by
 have hs:(a++b).size=a.size+b.size:=ByteArray.size_append
 by_cases h:k < b.size
 ·rw [getElem?_pos (a++b) (a.size+k) (by omega),getElem?_pos b k h,ByteArray.getElem_append_right (by omega)]
  congr 2; omega
 ·rw [byte_none (by omega),byte_none h]
end Go.Am.Rl
namespace Go.Am.Rl
open Go.Proofs
def Agree (s t:ByteArray) (i o e:Nat):Prop:=∀ k,i+k < e→t[o+k]? = s[i+k]?
theorem Agree.at {s t:ByteArray} {i o e j:Nat} (h:Agree s t i o e) (hi:i≤j) (hj:j < e):t[o+(j - i)]? = s[j]? :=by
 have:=h (j - i) (by omega)
 rw [this]; congr 1; omega
theorem Agree.less {s t:ByteArray} {i o e e':Nat} (h:Agree s t i o e) (he:e'≤e):Agree s t i o e':=fun k hk=>h k (by omega)
theorem Agree.from {s t:ByteArray} {i o e j:Nat} (h:Agree s t i o e) (hi:i≤j):Agree s t j (o+(j - i)) e:=by
 intro k hk
 have:=h (j - i+k) (by omega)
 have e1:o+(j - i)+k=o+(j - i+k):=by omega
 have e2:i+(j - i+k)=j+k:=by omega
 rw [e1,this,e2]
def sep (c:Nat):Bool:=((c:Int)==37) || blank c
theorem sep_cases {c:Nat} (h:sep c=true):c=37∨c=9∨c=10∨c=13∨c=32:=by
 unfold sep blank at h
 simp only [Bool.or_eq_true] at h
 rcases h with h | ((h | h) | h) | h
 all_goals
  have:=eq_of_beq h
  omega
theorem sep_nam {c:Nat} (h:sep c=true):isNam c=false:=by
 rcases sep_cases h with h | h | h | h | h <;> subst h <;> rfl
theorem sep_dig {c:Nat} (h:sep c=true):isDig c=false:=by
 rcases sep_cases h with h | h | h | h | h <;> subst h <;> rfl
theorem skip_agree {p:Nat→Bool} {s t:ByteArray} {i o e:Nat} (h:Agree s t i o e) (he:skip p s i≤e) (hi:i≤s.size) (hsep:∀ b,t[o+(skip p s i - i)]? = some b→p b.toNat=false) (ht:o+(skip p s i - i)≤t.size):skip p t o=o+(skip p s i - i):=by
 have hle:=skip_le (p:=p) hi
 refine skip_run (by omega) ht (fun j h1 h2=> ?_) hsep
 obtain ⟨b,hb,hp⟩:=skipW_all (p:=p) (s:=s) (n:=s.size - i) (i:=i) (j:=i+(j - o)) (by omega) (by
  have:skipW p s (s.size - i) i=skip p s i:=rfl
  omega)
 have:=h (j - o) (by omega)
 have e1:o+(j - o)=j:=by omega
 rw [e1,hb] at this
 exact ⟨b,this,hp⟩
theorem ext_agree {s t:ByteArray} {i o e j:Nat} (h:Agree s t i o e) (hij:i≤j) (hj:j≤e) (hjs:j≤s.size) (ht:o+(j - i)≤t.size):t.extract o (o+(j - i))=s.extract i j:=by
 have s1:(t.extract o (o+(j - i))).size=j - i:=by rw [size_ext ht]; omega
 have s2:(s.extract i j).size=j - i:=size_ext hjs
 apply ByteArray.ext_getElem
 ·rw [s1,s2]
 ·intro k h1 h2
  have hk:k < j - i:=by omega
  have e1:=ext_at (s:=t) (a:=o) (b:=o+(j - i)) (k:=k) ht (by omega)
  have e2:=ext_at (s:=s) (a:=i) (b:=j) (k:=k) hjs hk
  rw [h k (by omega),← e2,getElem?_pos _ k h1,getElem?_pos _ k h2] at e1
  exact Option.some.inj e1
section
variable {s t:ByteArray} {i o e:Nat} {b:UInt8}
theorem numF_end {x:List AVal} {h d:ByteArray} {e':Nat} {pl:Int} (hk:numF h d e' pl = .inr (x,e)):e'=e∧∀ z,numF h d z pl = .inr (x,z):=by
 unfold numF at hk ⊢
 split at hk
 ·cases hk
 ·rename_i h15
  injection hk with hk; injection hk with hk he; subst hk
  exact ⟨he,fun z=>by rw [if_neg h15]⟩
theorem numI_end {x:List AVal} {h:ByteArray} {e':Nat} {pl:Int} (hk:numI h e' pl = .inr (x,e)):e'=e∧∀ z,numI h z pl = .inr (x,z):=by
 unfold numI at hk ⊢
 split at hk
 ·cases hk
 ·rename_i h15
  injection hk with hk; injection hk with hk he; subst hk
  exact ⟨he,fun z=>by rw [if_neg h15]⟩
theorem bitsW_agree:∀ (n i o:Nat) (u v:Int),(∀ k,k < n→t[o+k]? = s[i+k]?)→bitsW s n i u=some v→bitsW t n o u=some v
 | 0,i,o,u,v,_,h=>h
 | n+1,i,o,u,v,ha,h=>by
  have h0:=ha 0 (by omega)
  simp only [Nat.add_zero] at h0
  simp only [bitsW,h0] at h ⊢
  split at h
  ·cases h
  ·rename_i c hc
   split at h
   ·cases h
   ·rename_i hneg
    rw [if_neg hneg]
    refine bitsW_agree n (i+1) (o+1) _ v (fun k hk=> ?_) h
    have:=ha (k+1) (by omega)
    have e1:o+1+k=o+(k+1):=by omega
    have e2:i+1+k=i+(k+1):=by omega
    rw [e1,e2]; exact this
theorem bit_agree {x:List AVal} {pl:Int} (h:Agree s t i o e) (hk:bitTok s i pl = .inr (x,e)):bitTok t o pl = .inr (x,o+(e - i)):=by
 unfold bitTok at hk ⊢
 cases hb:bits s i with
 | none=>rw [hb] at hk; cases hk
 | some f=>
  rw [hb] at hk
  injection hk with hk; injection hk with hk he
  subst hk
  have:bits t o=some f:=by
   unfold bits at hb ⊢
   cases hw:bitsW s 16 (i+1) 0 with
   | none=>rw [hw] at hb; cases hb
   | some u=>
    rw [hw] at hb
    have:=bitsW_agree (s:=s) (t:=t) 16 (i+1) (o+1) 0 u (fun k hk=>by
     have:=h (k+1) (by omega)
     have e1:o+1+k=o+(k+1):=by omega
     have e2:i+1+k=i+(k+1):=by omega
     rw [e1,e2]; exact this) hw
    rw [this]; exact hb
  rw [this]
  have:o+(e - i)=o+17:=by omega
  rw [this]
theorem esc_agree {p:Int × Nat} {k:Nat} (h:Agree s t i o e) (hik:i≤k) (hp:esc s k=some p) (hle:k+p.2≤e):esc t (o+(k - i))=some p:=by
 have hsz:=esc_size hp
 have at':∀ q,q < p.2→t[o+(k - i)+q]? = s[k+q]? :=by
  intro q hq
  have:=h.at (j:=k+q) (by omega) (by omega)
  have e1:o+(k+q - i)=o+(k - i)+q:=by omega
  rw [e1] at this; exact this
 unfold esc at hp ⊢
 split at hp
 ·cases hp
 ·rename_i c hc
  rw [at' 1 (by omega),hc]
  dsimp only
  split at hp
  ·rename_i h1; rw [if_pos h1]; exact hp
  ·rename_i h1
   rw [if_neg h1]
   split at hp
   ·rename_i h2; rw [if_pos h2]; exact hp
   ·rename_i h2
    rw [if_neg h2]
    split at hp
    ·rename_i h3; rw [if_pos h3]; exact hp
    ·rename_i h3
     rw [if_neg h3]
     split at hp
     ·rename_i h4
      rw [if_pos h4]
      split at hp
      ·rename_i x y hx hy
       split at hp
       ·rename_i h5
        injection hp with hp
        have h42:p.2=4:=by rw [← hp]
        rw [at' 2 (by omega),at' 3 (by omega),hx,hy]
        dsimp only
        rw [if_pos h5,hp]
       ·cases hp
      ·cases hp
     ·cases hp
theorem quoteW_agree {m:Int} {w:ByteArray} (h:Agree s t i o e):∀ (n k n':Nat) (out:List Int),i≤k→quoteW s m n k out=some (w,e)→e - k≤n'→quoteW t m n' (o+(k - i)) out=some (w,o+(e - i))
 | 0,k,n',out,_,hq,_=>by cases hq
 | n+1,k,n',out,hk,hq,hn=>by
  have hle:=quoteW_le hq
  obtain ⟨n1,rfl⟩:∃ n1,n'=n1+1:=⟨n' - 1,by simp only at hle; omega⟩
  simp only at hle
  have hat:=h.at (j:=k) hk hle.1
  simp only [quoteW] at hq ⊢
  split at hq
  ·cases hq
  ·rename_i c hc
   rw [hat,hc]
   dsimp only
   split at hq
   ·rename_i h1
    rw [if_pos h1]
    injection hq with hq; injection hq with hw he
    subst hw
    have:o+(k - i)+1=o+(e - i):=by omega
    rw [this]
   ·rename_i h1
    rw [if_neg h1]
    split at hq
    ·rename_i h2
     rw [if_pos h2]
     have:=quoteW_agree h n (k+1) n1 _ (by omega) hq (by omega)
     have e1:o+(k+1 - i)=o+(k - i)+1:=by omega
     rw [e1] at this; exact this
    ·rename_i h2
     rw [if_neg h2]
     split at hq
     ·cases hq
     ·rename_i p hp
      have hle2:=quoteW_le hq
      simp only at hle2
      rw [esc_agree h hk hp (by omega)]
      dsimp only
      have hsz:=esc_size hp
      have:=quoteW_agree h n (k+p.2) n1 _ (by omega) hq (by omega)
      have e1:o+(k+p.2 - i)=o+(k - i)+p.2:=by omega
      rw [e1] at this; exact this
theorem quo_agree {x:List AVal} {c:Nat} {pl:Int} (h:Agree s t i o e) (ht:o+(e - i) < t.size) (hie:i < e) (hk:quoTok s i c pl = .inr (x,e)):quoTok t o c pl = .inr (x,o+(e - i)):=by
 unfold quoTok at hk ⊢
 cases hq:quote s (c:Int) i with
 | none=>rw [hq] at hk; cases hk
 | some p=>
  rw [hq] at hk
  dsimp only at hk
  have hpe:p.2=e:=by
   repeat' split at hk
   all_goals first | (cases hk; done) | (injection hk with hk; injection hk with _ hk)
  have hq':quote s (c:Int) i=some (p.1,e):=by rw [hq,← hpe]
  have:quote t (c:Int) o=some (p.1,o+(e - i)):=by
   unfold quote at hq' ⊢
   have:=quoteW_agree h (s.size - i) (i+1) (t.size - o) [] (by omega) hq' (by omega)
   have e1:o+(i+1 - i)=o+1:=by omega
   rw [e1] at this; exact this
  rw [this]
  dsimp only
  rw [hpe] at hk
  repeat' split at hk
  all_goals first | (cases hk; done) | skip
  ·rename_i h1 h2
   injection hk with hk; injection hk with hk; subst hk
   rw [if_pos h1,if_neg h2]
  ·rename_i h1
   injection hk with hk; injection hk with hk; subst hk
   rw [if_neg h1]
end
end Go.Am.Rl
namespace Go.Am.Rl
open Go.Proofs
theorem stands_at {s g:ByteArray} {i:Nat} (h:stands s i g=true):∀ k,k < g.size→s[i+k]? = g[k]? :=by
 intro k hk
 unfold stands at h
 rw [Bool.and_eq_true] at h
 have hle:=of_decide_eq_true h.1
 have he:=eq_of_beq h.2
 rw [Go.ByteArray.toList_eq,Go.ByteArray.toList_eq] at he
 have hg:s.extract i (i+g.size)=g:=ByteArray.ext (Array.toList_inj.mp he)
 rw [← ext_at (s:=s) (a:=i) (b:=i+g.size) hle (by omega),hg]
theorem stands_of {s g:ByteArray} {i:Nat} (h0:0 < g.size) (h:∀ k,k < g.size→s[i+k]? = g[k]?):stands s i g=true:=by
 have hl:=h (g.size - 1) (by omega)
 rw [getElem?_pos g (g.size - 1) (by omega)] at hl
 have hle:=size_of_some hl
 have hsz:(s.extract i (i+g.size)).size=g.size:=by rw [size_ext (by omega)]; omega
 have hg:s.extract i (i+g.size)=g:=by
  apply ByteArray.ext_getElem
  ·exact hsz
  ·intro k h1 h2
   have e1:=ext_at (s:=s) (a:=i) (b:=i+g.size) (k:=k) (by omega) (by omega)
   rw [h k h2,getElem?_pos _ k h1,getElem?_pos _ k h2] at e1
   exact Option.some.inj e1
 unfold stands
 rw [hg,decide_eq_true (by omega)]
 simp
def plain (g:ByteArray):Prop:=0 < g.size∧∀ (k:Nat) (b:UInt8),g[k]? = some b→sep b.toNat=false
theorem plain_of {g:ByteArray} (h0:0 < g.size) (h:(g.data.toList.all fun b:UInt8=> !sep b.toNat)=true):plain g:=by
 refine ⟨h0,fun k b hb=> ?_⟩
 have hk:=size_of_some hb
 have hm:b ∈ g.data.toList:=by
  rw [getElem?_pos g k hk] at hb
  injection hb with hb
  rw [← hb]
  exact Array.mem_toList_iff.mpr (Array.getElem_mem _)
 have:=List.all_eq_true.1 h b hm
 simpa using this
theorem signs_plain:∀ g ∈ signs,plain g:=by
 intro g hg
 unfold signs at hg
 simp only [List.mem_cons,List.not_mem_nil,or_false] at hg
 rcases hg with h | h | h | h | h | h | h | h | h | h | h | h | h | h | h | h | h | h | h | h | h | h | h | h | h | h | h
 all_goals
  subst h
  exact plain_of (by decide) (by decide)
theorem skip_here {p:Nat→Bool} {s:ByteArray} {i:Nat} (hi:i≤s.size):∀ b,s[skip p s i]? = some b→p b.toNat=false:=by
 have key:∀ n i,s.size - i≤n→∀ b,s[skipW p s n i]? = some b→p b.toNat=false:=by
  intro n
  induction n with
  | zero=>intro i h b hb; have:=size_of_some hb; simp only [skipW] at this; omega
  | succ n ih=>
   intro i h b hb
   simp only [skipW] at hb
   split at hb
   ·rename_i c hc
    split at hb
    ·exact ih (i+1) (by omega) b hb
    ·rename_i hp
     rw [hc] at hb; injection hb with hb; subst hb
     simpa using hp
   ·rename_i hc
    rw [hc] at hb; cases hb
 exact key _ i (Nat.le_refl _)
theorem pass_ge {s:ByteArray} {i:Nat} (h:s.size < i):pass s i=i:=pass_end (byte_none (by omega))
theorem pass_fix {s:ByteArray} {i:Nat} {c:UInt8} (hi:i≤s.size) (h:s[pass s i]? = some c):sep c.toNat=false:=by
 have key:∀ d i,s.size - i≤d→i≤s.size→s[pass s i]? = some c→sep c.toNat=false:=by
  intro d
  induction d with
  | zero=>
   intro i hd hi h
   rw [pass_end (byte_none (by omega))] at h
   have:=size_of_some h
   omega
  | succ d ih=>
   intro i hd hi h
   cases hb:s[i]? with
   | none=>rw [pass_end hb] at h; rw [hb] at h; cases h
   | some b=>
    have hlt:=size_of_some hb
    cases h37:((b.toNat:Int)==37) with
    | true=>
     rw [pass_line hb h37] at h
     have hs1:=skip_next hb (p:=noLine) (by
      have:=eq_of_beq h37
      unfold noLine; simp; omega)
     have hs2:=(skip_le (p:=noLine) (s:=s) (i:=i) hi).2
     exact ih _ (by omega) hs2 h
    | false=>
     cases hbl:blank b.toNat with
     | true=>
      rw [pass_blank hb h37 hbl] at h
      exact ih (i+1) (by omega) (by omega) h
     | false=>
      rw [pass_stop hb h37 hbl,hb] at h
      injection h with h; subst h
      unfold sep; rw [h37,hbl]; rfl
 exact key _ i (Nat.le_refl _) hi h
end Go.Am.Rl
namespace Go.Am.Rl
open Go.Proofs
theorem tokC_inj {k k':Int} {s s':ByteArray} {n n':Int} {f f':Nat} {i i':Int} (h:tokC k s n f i=tokC k' s' n' f' i'):k=k'∧s=s'∧n=n'∧f=f':=by
 unfold tokC at h
 injection h with h1 h
 injection h with h2 h
 injection h with h3 h
 injection h with h4 h
 injection h1 with _ h1
 injection h2 with h2
 injection h3 with _ h3
 injection h4 with _ h4
 exact ⟨h1,h2,h3,h4⟩
theorem tok_pl {s:ByteArray} {i e:Nat} {c:UInt8} {k:Int} {w:ByteArray} {n:Int} {f:Nat} {pl:Int} (hc:s[i]? = some c) (h:token s i c.toNat pl = .inr (tokC k w n f pl,e)) (pl':Int):token s i c.toNat pl' = .inr (tokC k w n f pl',e):=by
 have h1:=token_pl s i c.toNat pl
 have h2:=token_pl s i c.toNat pl'
 have hm:=token_made hc 0
 cases h0:token s i c.toNat 0 with
 | inl e'=>
  rw [h0,h] at h1
  cases h1
 | inr p=>
  rw [h0] at h1 h2 hm
  obtain ⟨⟨k0,w0,n0,f0,hp⟩,_,_⟩:=hm p rfl
  have e1:withPl pl (.inr p) = .inr (tokC k0 w0 n0 f0 pl,p.2):=by
   show (Sum.inr (p.1.set 4 (.int .i64 pl),p.2):Tok)=_
   rw [hp]; rfl
  have e2:withPl pl' (.inr p) = .inr (tokC k0 w0 n0 f0 pl',p.2):=by
   show (Sum.inr (p.1.set 4 (.int .i64 pl'),p.2):Tok)=_
   rw [hp]; rfl
  rw [e1,h] at h1
  have h3:=congrArg Prod.fst (Sum.inr.inj h1)
  have h4:=congrArg Prod.snd (Sum.inr.inj h1)
  dsimp only at h3 h4
  obtain ⟨rfl,rfl,rfl,rfl⟩:=tokC_inj h3
  rw [← h2,e2,h4]
inductive Chain (s:ByteArray):Nat→List (List AVal)→Prop
 | fin:Chain s s.size [endTok s]
 | more {i:Nat} {c:UInt8} {k:Int} {w:ByteArray} {n:Int} {f e:Nat} {l:List (List AVal)} (hc:s[i]? = some c) (hs:sep c.toNat=false) (ht:token s i c.toNat (i:Nat) = .inr (tokC k w n f (i:Nat),e)) (h1:i < e) (h2:e≤s.size) (r:Chain s (pass s e) l):Chain s i (tokC k w n f (i:Nat)::l)
theorem chain_of {s:ByteArray}:∀ (d i:Nat) (acc l:List (List AVal)),s.size - i≤d→i≤s.size→(∀ c,s[i]? = some c→sep c.toNat=false)→toks s i acc = .inr l→∃ r,l++[endTok s]=acc++r∧Chain s i r:=by
 intro d
 induction d with
 | zero=>
  intro i acc l hd hi hs ht
  obtain rfl:i=s.size:=by omega
  rw [toks_end (byte_none (by omega))] at ht
  injection ht with ht; subst ht
  exact ⟨_,rfl,.fin⟩
 | succ d ih=>
  intro i acc l hd hi hs ht
  cases hc:s[i]? with
  | none=>
   have:=size_of_none hc
   obtain rfl:i=s.size:=by omega
   rw [toks_end hc] at ht
   injection ht with ht; subst ht
   exact ⟨_,rfl,.fin⟩
  | some c=>
   have hm:=token_made hc (i:Nat)
   cases hk:token s i c.toNat (i:Nat) with
   | inl e=>rw [toks_bad hc hk] at ht; cases ht
   | inr p=>
    rw [hk] at hm
    obtain ⟨⟨k,w,n,f,hp⟩,h1,h2⟩:=hm p rfl
    have hpl:=pass_le (s:=s) h2
    rw [toks_more hc hk] at ht
    obtain ⟨r,hr,hch⟩:=ih (pass s p.2) (acc++[p.1]) l (by omega) hpl.2 (fun c hc=>pass_fix h2 hc) ht
    refine ⟨p.1::r,by rw [hr,List.append_assoc]; rfl,?_⟩
    rw [hp]
    refine .more hc (hs c hc) ?_ h1 h2 hch
    rw [hk,← hp]
theorem Chain.head {s:ByteArray} {i:Nat} {l:List (List AVal)} (h:Chain s i l):∃ k w n f r,l=tokC k w n f (i:Nat)::r:=by
 cases h with
 | fin=>exact ⟨_,_,_,_,_,rfl⟩
 | more=>exact ⟨_,_,_,_,_,rfl⟩
theorem Chain.le {s:ByteArray} {i:Nat} {l:List (List AVal)} (h:Chain s i l):i≤s.size:=by
 cases h with
 | fin=>exact Nat.le_refl _
 | more hc=>exact Nat.le_of_lt (size_of_some hc)
def SameL (pl:Bool) (l m:List (List AVal)):Prop:=l.length=m.length∧∀ (q:Nat) (c:List AVal),l[q]? = some c→∃ k s n f i i',c=tokC k s n f i∧m[q]? = some (tokC k s n f i')∧(pl=true→i=i')
theorem SameL.cons {pl:Bool} {l m:List (List AVal)} (h:SameL pl l m) {k:Int} {s:ByteArray} {n:Int} {f:Nat} {i i':Int} (hi:pl=true→i=i'):SameL pl (tokC k s n f i::l) (tokC k s n f i'::m):=by
 refine ⟨by simp [h.1],fun q c hq=> ?_⟩
 cases q with
 | zero=>
  rw [List.getElem?_cons_zero] at hq
  injection hq with hq
  exact ⟨k,s,n,f,i,i',hq.symm,rfl,hi⟩
 | succ q=>exact h.2 q c hq
end Go.Am.Rl
namespace Go.Am.Rl
open Go.Proofs
section
variable {s t:ByteArray} {i o e m:Nat} {b:UInt8}
theorem skip_win {p:Nat→Bool} (hps:∀ c,sep c=true→p c=false) (h:Agree s t i o m) (hm:skip p s i≤m) (hi:i≤s.size) (hb:t[o+(m - i)]? = some b) (hs:sep b.toNat=true):skip p t o=o+(skip p s i - i):=by
 have hle:=skip_le (p:=p) hi
 have hbs:=size_of_some hb
 refine skip_agree h hm hi (fun b' hb'=> ?_) (by omega)
 rcases Nat.lt_or_eq_of_le hm with hlt | heq
 ·rw [h.at hle.1 hlt] at hb'
  exact skip_here hi b' hb'
 ·rw [heq,hb] at hb'; injection hb' with hb'; subst hb'; exact hps _ hs
theorem name_win {c:Nat} {x:List AVal} {pl:Int} (h:Agree s t i o m) (hem:e≤m) (hi:i≤s.size) (hb:t[o+(m - i)]? = some b) (hs:sep b.toNat=true) (hk:nameTok s i c pl = .inr (x,e)):nameTok t o c pl = .inr (x,o+(e - i)):=by
 have hle:=skip_le (p:=isNam) hi
 have hbs:=size_of_some hb
 have hes:skip isNam s i=e:=by
  unfold nameTok lowTok at hk
  repeat' split at hk
  all_goals first | (cases hk; done) | (injection hk with hk; injection hk with _ hk)
 have hsk:skip isNam t o=o+(e - i):=by
  rw [← hes]
  exact skip_win (fun c hc=>sep_nam hc) h (by omega) hi hb hs
 have hx:t.extract o (o+(e - i))=s.extract i e:=ext_agree h (by omega) hem (by omega) (by omega)
 unfold nameTok at hk ⊢
 rw [hsk,hx]
 rw [hes] at hk
 unfold lowTok at hk ⊢
 repeat' split at hk
 all_goals first | (cases hk; done) | skip
 ·rename_i h1 h2
  injection hk with hk; injection hk with hk; subst hk
  rw [if_pos h1,if_pos h2]
 ·rename_i h1 h2 h3
  injection hk with hk; injection hk with hk; subst hk
  rw [if_pos h1,if_neg h2,if_neg h3]
 ·rename_i h1
  injection hk with hk; injection hk with hk; subst hk
  rw [if_neg h1]
theorem num_dot_win {j e':Nat} (h:Agree s t i o m) (hem:e'≤m) (hi:i≤s.size) (hb:t[o+(m - i)]? = some b) (hs:sep b.toNat=true) (hj:j=skip isDig s i) (hdot:dotted s j=true) (he':e'=skip isDig s (j+1)) :
  skip isDig t o=o+(j - i)∧dotted t (o+(j - i))=true∧skip isDig t (o+(j - i)+1)=o+(e' - i)∧t.extract o (o+(j - i))=s.extract i j∧t.extract (o+(j - i)+1) (o+(e' - i))=s.extract (j+1) e':=by
 have hle:=skip_le (p:=isDig) hi
 rw [← hj] at hle
 obtain ⟨d,hdt,hdd⟩:=dotted_next hdot
 have hj1:=size_of_some hdt
 have hbs:=size_of_some hb
 have hle2:=skip_le (p:=isDig) (s:=s) (i:=j+1) (by omega)
 have hnx:=skip_next hdt hdd
 rw [← he'] at hle2 hnx
 obtain ⟨c,hc,h46⟩:∃ c,s[j]? = some c∧((c.toNat:Int)==46)=true:=by
  cases hc:s[j]? with
  | none=>unfold dotted at hdot; rw [hc] at hdot; cases hdot
  | some c=>rw [dotted_at hc hdt,Bool.and_eq_true] at hdot; exact ⟨c,rfl,hdot.1⟩
 have tj:t[o+(j - i)]? = some c:=by rw [h.at hle.1 (by omega),hc]
 have hf:=h.from (j:=j+1) (by omega)
 have e1:o+(j+1 - i)=o+(j - i)+1:=by omega
 rw [e1] at hf
 have tj1:t[o+(j - i)+1]? = some d:=by
  have:=hf 0 (by omega)
  rw [Nat.add_zero,Nat.add_zero,hdt] at this; exact this
 have e2:o+(j - i)+1+(e' - (j+1))=o+(e' - i):=by omega
 refine ⟨?_,by rw [dotted_at tj tj1,h46,hdd]; rfl,?_,ext_agree h hle.1 (by omega) hle.2 (by omega),?_⟩
 ·have:=skip_agree (p:=isDig) (h.less (e':=j) (by omega)) (by omega) hi (fun b' hb'=>by
   rw [← hj,tj] at hb'; injection hb' with hb'; subst hb'
   have:c.toNat=46:=by have:=eq_of_beq h46; omega
   rw [this]; rfl) (by omega)
  rw [← hj] at this; exact this
 ·have:=skip_win (p:=isDig) (b:=b) (m:=m) (fun c hc=>sep_dig hc) hf (by omega) (by omega) (by rw [show o+(j - i)+1+(m - (j+1))=o+(m - i) by omega]; exact hb) hs
  rw [← he',e2] at this; exact this
 ·have:=ext_agree hf hle2.1 hem hle2.2 (by omega)
  rw [e2] at this; exact this
theorem num_int_win {j:Nat} (h:Agree s t i o m) (hjm:j≤m) (hi:i≤s.size) (hb:t[o+(m - i)]? = some b) (hs:sep b.toNat=true) (hj:j=skip isDig s i) (hdot:dotted s j=false) :
  skip isDig t o=o+(j - i)∧dotted t (o+(j - i))=false∧t.extract o (o+(j - i))=s.extract i j:=by
 have hle:=skip_le (p:=isDig) hi
 have hbs:=size_of_some hb
 rw [← hj] at hle
 refine ⟨?_,?_,ext_agree h hle.1 hjm hle.2 (by omega)⟩
 ·have:=skip_win (p:=isDig) (fun c hc=>sep_dig hc) h (by omega) hi hb hs
  rw [← hj] at this; exact this
 ·have nodot:∀ {q:Nat} {b:UInt8},t[q]? = some b→sep b.toNat=true→dotted t q=false:=by
   intro q b hb hs
   cases h1:t[q+1]? with
   | none=>exact dotted_none h1
   | some d=>
    rw [dotted_at hb h1]
    have:((b.toNat:Int)==46)=false:=by
     rcases sep_cases hs with h | h | h | h | h <;> rw [h] <;> rfl
    rw [this]; rfl
  rcases Nat.lt_or_eq_of_le hjm with h1 | h1
  ·rcases Nat.lt_or_eq_of_le (show j+1≤m from h1) with h2 | h2
   ·have q1:=h.at hle.1 h1
    have q2:=h.at (j:=j+1) (by omega) h2
    rw [show o+(j+1 - i)=o+(j - i)+1 by omega] at q2
    unfold dotted at hdot ⊢
    rw [q1,q2]; exact hdot
   ·cases h3:t[o+(j - i)]? with
    | none=>unfold dotted; rw [h3]
    | some c=>
     have hb':t[o+(j - i)+1]? = some b:=by rw [← hb]; congr 1; omega
     rw [dotted_at h3 hb',sep_dig hs,Bool.and_false]
  ·rw [h1]; exact nodot hb hs
theorem num_win {x:List AVal} {pl:Int} (h:Agree s t i o m) (hem:e≤m) (hi:i≤s.size) (hb:t[o+(m - i)]? = some b) (hs:sep b.toNat=true) (hk:numTok s i pl = .inr (x,e)):numTok t o pl = .inr (x,o+(e - i)):=by
 obtain ⟨j,hj⟩:∃ j,j=skip isDig s i:=⟨_,rfl⟩
 unfold numTok numAt at hk ⊢
 rw [← hj] at hk
 split at hk
 ·cases hk
 ·rename_i hlead
  split at hk
  ·rename_i hdot
   obtain ⟨e',he'⟩:∃ e',e'=skip isDig s (j+1):=⟨_,rfl⟩
   rw [← he'] at hk
   obtain ⟨rfl,hz⟩:=numF_end hk
   obtain ⟨k1,k2,k3,k4,k5⟩:=num_dot_win h hem hi hb hs hj hdot he'
   rw [k1,k4,if_neg hlead,k2,if_pos rfl,k3,k5,hz]
  ·rename_i hdot
   obtain ⟨rfl,hz⟩:=numI_end hk
   obtain ⟨k1,k2,k3⟩:=num_int_win h hem hi hb hs hj (by simpa using hdot)
   rw [k1,k3,if_neg hlead,k2,if_neg (by simp),hz]
theorem signIn_win (h:Agree s t i o m) (hb:t[o+(m - i)]? = some b) (hs:sep b.toNat=true) (him:i≤m):∀ l:List ByteArray,(∀ g ∈ l,plain g)→i+(signIn s i l).size≤m→0 < (signIn s i l).size→signIn t o l=signIn s i l
 | [],_,_,h=>absurd h (Nat.lt_irrefl 0)
 | g::r,hp,hm,h0=>by
  have hpg:=hp g (List.mem_cons_self ..)
  cases hst:stands s i g with
  | true=>
   have e:signIn s i (g::r)=g:=by simp only [signIn,hst,if_true]
   rw [e] at hm ⊢
   have:stands t o g=true:=stands_of hpg.1 (fun k hk=>by rw [h k (by omega)]; exact stands_at hst k hk)
   simp only [signIn,this,if_true]
  | false=>
   have e:signIn s i (g::r)=signIn s i r:=by simp only [signIn,hst,Bool.false_eq_true,if_false]
   rw [e] at hm h0 ⊢
   have hnt:stands t o g=false:=by
    cases ht:stands t o g with
    | false=>rfl
    | true=>
     have hat:=stands_at ht
     rcases Nat.lt_or_ge (m - i) g.size with hlt | hge
     ·have:=hat (m - i) hlt
      rw [hb] at this
      have h9:sep b.toNat=false:=hpg.2 _ _ this.symm
      rw [hs] at h9; cases h9
     ·have:stands s i g=true:=stands_of hpg.1 (fun k hk=>by rw [← h k (by omega)]; exact hat k hk)
      rw [hst] at this; cases this
   simp only [signIn,hnt,Bool.false_eq_true,if_false]
   exact signIn_win h hb hs him r (fun g hg=>hp g (List.mem_cons_of_mem _ hg)) hm h0
theorem sign_win {x:List AVal} {pl:Int} (h:Agree s t i o m) (hem:e≤m) (him:i≤m) (hb:t[o+(m - i)]? = some b) (hs:sep b.toNat=true) (hk:signTok s i pl = .inr (x,e)):signTok t o pl = .inr (x,o+(e - i)):=by
 unfold signTok at hk ⊢
 split at hk
 ·cases hk
 ·rename_i h0
  have h0':¬ (signAt s i).size=0:=fun e=>h0 (decide_eq_true e)
  injection hk with hk; injection hk with hk he
  have hei:e - i=(signAt s i).size:=by omega
  have hsg:signAt t o=signAt s i:=signIn_win h hb hs him signs signs_plain (by show i+(signAt s i).size≤m; omega) (by show 0 < (signAt s i).size; omega)
  rw [hsg,if_neg h0,hk,hei]
theorem token_win {c:UInt8} {x:List AVal} {pl:Int} (hc:s[i]? = some c) (h:Agree s t i o m) (hem:e≤m) (hb:t[o+(m - i)]? = some b) (hs:sep b.toNat=true) (hk:token s i c.toNat pl = .inr (x,e)):token t o c.toNat pl = .inr (x,o+(e - i)):=by
 have hi:=size_of_some hc
 have hm:=token_made hc pl
 rw [hk] at hm
 obtain ⟨_,h1,h2⟩:=hm _ rfl
 have ht:=size_of_some hb
 simp only at h1 h2
 unfold token at hk ⊢
 repeat' split at hk
 ·rename_i g1
  rw [if_pos g1]
  exact name_win h hem (by omega) hb hs hk
 ·rename_i g1 g2
  rw [if_neg g1,if_pos g2]
  exact num_win h hem (by omega) hb hs hk
 ·rename_i g1 g2 g3
  rw [if_neg g1,if_neg g2,if_pos g3]
  exact bit_agree (h.less hem) hk
 ·rename_i g1 g2 g3 g4
  rw [if_neg g1,if_neg g2,if_neg g3,if_pos g4]
  exact quo_agree (h.less hem) (by omega) h1 hk
 ·rename_i g1 g2 g3 g4
  rw [if_neg g1,if_neg g2,if_neg g3,if_neg g4]
  exact sign_win h hem (by omega) hb hs hk
theorem pass_win (h:Agree s t i o m):∀ (d k r:Nat),r - k≤d→i≤k→r≤m→pass s k=r→(∃ c,s[r]? = some c∧sep c.toNat=false)→pass t (o+(k - i))=pass t (o+(r - i)):=by
 intro d
 induction d with
 | zero=>
  intro k r hd hik hrm hp hr
  obtain ⟨c,hc,_⟩:=hr
  have hsz:=size_of_some hc
  rcases Nat.lt_or_ge s.size k with h1 | h1
  ·rw [pass_ge h1] at hp; omega
  ·have:=(pass_le (s:=s) h1).1
   obtain rfl:k=r:=by omega
   rfl
 | succ d ih=>
  intro k r hd hik hrm hp hr
  obtain ⟨cr,hcr,hsr⟩:=hr
  have hrs:=size_of_some hcr
  by_cases hk:k=r
  ·subst hk; rfl
  ·have hkr:k < r:=by
    rcases Nat.lt_or_ge s.size k with h1 | h1
    ·rw [pass_ge h1] at hp; omega
    ·have:=(pass_le (s:=s) h1).1; omega
   obtain ⟨c,hc⟩:=byte_at (show k < s.size by omega)
   have htk:=h.at hik (show k < m by omega)
   rw [hc] at htk
   cases h37:((c.toNat:Int)==37) with
   | true=>
    rw [pass_line hc h37] at hp
    rw [pass_line htk h37]
    have hs1:=skip_next hc (p:=noLine) (by
     have:=eq_of_beq h37
     unfold noLine; simp; omega)
    have hs2:=skip_le (p:=noLine) (s:=s) (i:=k) (by omega)
    have hk'r:skip noLine s k≤r:=by rw [← hp]; exact (pass_le hs2.2).1
    have hne:skip noLine s k≠r:=by
     intro e
     have:=skip_here (p:=noLine) (s:=s) (i:=k) (by omega) cr (by rw [e]; exact hcr)
     unfold noLine at this
     have h10:cr.toNat=10:=by simpa using this
     rw [h10] at hsr; cases hsr
    have hsk:skip noLine t (o+(k - i))=o+(k - i)+(skip noLine s k - k):=by
     have hf:=h.from (j:=k) hik
     refine skip_agree (e:=m) hf (by omega) (by omega) (fun b' hb'=> ?_) ?_
     ·have:=hf (skip noLine s k - k) (by omega)
      rw [this,show k+(skip noLine s k - k)=skip noLine s k by omega] at hb'
      exact skip_here (by omega) b' hb'
     ·have:=h.at (j:=skip noLine s k) (by omega) (by omega)
      obtain ⟨c2,hc2⟩:=byte_at (show skip noLine s k < s.size by omega)
      rw [hc2] at this
      have:=size_of_some this
      omega
    rw [hsk,show o+(k - i)+(skip noLine s k - k)=o+(skip noLine s k - i) by omega]
    exact ih (skip noLine s k) r (by omega) (by omega) hrm hp ⟨cr,hcr,hsr⟩
   | false=>
    cases hbl:blank c.toNat with
    | true=>
     rw [pass_blank hc h37 hbl] at hp
     rw [pass_blank htk h37 hbl,show o+(k - i)+1=o+(k+1 - i) by omega]
     exact ih (k+1) r (by omega) (by omega) hrm hp ⟨cr,hcr,hsr⟩
    | false=>
     rw [pass_stop hc h37 hbl] at hp
     exact absurd hp hk
theorem pass_blanks_all:∀ (d k:Nat),s.size - k≤d→(∀ j c,k≤j→s[j]? = some c→((c.toNat:Int)==37)=false)→∀ j c,k≤j→j < pass s k→s[j]? = some c→blank c.toNat=true:=by
 intro d
 induction d with
 | zero=>
  intro k hd _ j c h1 h2 hc
  have:=size_of_some hc
  omega
 | succ d ih=>
  intro k hd hn j c h1 h2 hc
  have hj:=size_of_some hc
  obtain ⟨ck,hck⟩:=byte_at (show k < s.size by omega)
  have h37:=hn k ck (Nat.le_refl _) hck
  cases hbl:blank ck.toNat with
  | true=>
   rw [pass_blank hck h37 hbl] at h2
   rcases Nat.lt_or_eq_of_le h1 with h3 | h3
   ·exact ih (k+1) (by omega) (fun j c h=>hn j c (by omega)) j c h3 h2 hc
   ·subst h3; rw [hck] at hc; injection hc with hc; subst hc; exact hbl
  | false=>
   rw [pass_stop hck h37 hbl] at h2
   omega
end
end Go.Am.Rl
