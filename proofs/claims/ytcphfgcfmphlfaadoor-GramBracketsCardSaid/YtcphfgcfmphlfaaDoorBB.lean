/- Parts: BR7, BR8, BR9. -/
import Derived.Test.YtcphfgcfmphlfaaDoorBA
import Derived.Test.YtcphfgcfmphlfaaDoorGA
import Derived.Test.YtcphfgcfmphlfaaDoorVE
set_option linter.unusedVariables false
set_option linter.unusedSimpArgs false
namespace Go.Am.Rl
open Go.Proofs
def erk (c:List AVal):TK:=(tkOf c).er
section
variable {t:ByteArray} {i j:Nat}
theorem lx_lb (hc:t[i]? = some 123):LX t i [lbT] (pass t (i+1)):=
 lx_sign (w:=w_lb) hc (by decide) (by decide) (by rw [show (signs.filter fun g=>g[0]? ==some 123)=[w_lb] by kernel_rfl]; exact sign_single _ rfl hc) rfl
theorem lx_rb (hc:t[i]? = some 125):LX t i [rbT] (pass t (i+1)):=
 lx_sign (w:=w_rb) hc (by decide) (by decide) (by rw [show (signs.filter fun g=>g[0]? ==some 125)=[w_rb] by kernel_rfl]; exact sign_single _ rfl hc) rfl
theorem lx_lp2 (hc:t[i]? = some 40):LX t i [lpT] (pass t (i+1)):=
 lx_sign (w:=w_lp) hc (by decide) (by decide) (by rw [show (signs.filter fun g=>g[0]? ==some 40)=[w_lp] by kernel_rfl]; exact sign_single _ rfl hc) rfl
theorem signIn_stands {s:ByteArray}:∀ l:List ByteArray,0 < (signIn s i l).size→stands s i (signIn s i l)=true
 | [],h=>absurd h (Nat.lt_irrefl 0)
 | g::r,h=>by
  cases hst:stands s i g with
  | true=>simp only [signIn,hst,if_true]
  | false=>
   have e:signIn s i (g::r)=signIn s i r:=by simp only [signIn,hst,Bool.false_eq_true,if_false]
   rw [e] at h ⊢
   exact signIn_stands r h
theorem tok_sign_inv {s w:ByteArray} {c:Nat} {k:Int} {n:Int} {f e:Nat} {pl:Int} (hk:kept w=false) (hw:0 < w.size) (hk6:k=6∨k=7) (h:token s i c pl = .inr (tokC k w n f pl,e)):k=6∧n=0∧f=0∧e=i+w.size∧stands s i w=true:=by
 unfold token nameTok lowTok numTok numAt numF numI bitTok quoTok signTok at h
 repeat' split at h
 all_goals first | (cases h; done) | skip
 all_goals
  injection h with h
  injection h with h he
  obtain ⟨e1,e2,e3,e4⟩:=tokC_inj h
 all_goals first | (subst e1; omega) | skip
 ·rename_i hkk
  rw [e2] at hkk; rw [hkk] at hk; cases hk
 ·refine ⟨e1.symm,e3.symm,e4.symm,by rw [← he,e2],?_⟩
  rw [← e2]
  exact signIn_stands signs (by show 0 < (signAt s i).size; rw [e2]; exact hw)
end
theorem er_p2 {E M:List TK} (h:M.map TK.er=E) (i:Nat):(tk E i).p=0:=by
 rw [← h,same1_map M i]; rfl
theorem tkAt_me (E:List TK):TkAt E 0 E:=fun q x hq=>by
 unfold tk; rw [Nat.zero_add,List.getD_eq_getElem?_getD,hq]; rfl
section
variable (x:ByteArray)
def S1:ByteArray:=((preT++w_lb)++x)++(⟨#[125,46]⟩:ByteArray)
def S2:ByteArray:=((preT++(⟨#[123,40]⟩:ByteArray))++x)++(⟨#[10,41,125,46]⟩:ByteArray)
theorem at_self (s:ByteArray):AtB s 0 s:=fun q _=>by rw [Nat.zero_add]
structure At1:Prop where
 sz:(S1 x).size=22+x.size
 pre:AtB (S1 x) 0 preT
 lb:(S1 x)[19]? = some (123:UInt8)
 xs:∀ q,q < x.size→(S1 x)[20+q]? = x[q]?
 rb:(S1 x)[20+x.size]? = some (125:UInt8)
 dot:(S1 x)[20+x.size+1]? = some (46:UInt8)
structure At2:Prop where
 sz:(S2 x).size=25+x.size
 pre:AtB (S2 x) 0 preT
 lb:(S2 x)[19]? = some (123:UInt8)
 lp:(S2 x)[20]? = some (40:UInt8)
 xs:∀ q,q < x.size→(S2 x)[21+q]? = x[q]?
 nl:(S2 x)[20+x.size+1]? = some (10:UInt8)
 rp:(S2 x)[20+x.size+2]? = some (41:UInt8)
 rb:(S2 x)[20+x.size+3]? = some (125:UInt8)
 dot:(S2 x)[20+x.size+4]? = some (46:UInt8)
theorem at1:At1 x:=by
 have h:AtB (S1 x) 0 (((preT++w_lb)++x)++(⟨#[125,46]⟩:ByteArray)):=at_self _
 have p20:(preT++w_lb).size=20:=rfl
 have h1:=h.left.left
 have h2:=h.left.right
 have h3:=h.right
 rw [p20,Nat.zero_add] at h2
 rw [ByteArray.size_append,p20,Nat.zero_add] at h3
 refine ⟨by unfold S1; rw [ByteArray.size_append,ByteArray.size_append,p20]; show 20+x.size+2=_; omega,h1.left,?_,h2,?_,?_⟩
 ·have:=h1 19 (by decide); rw [Nat.zero_add] at this; rw [this]; rfl
 ·have:=h3 0 (by decide); rw [Nat.add_zero] at this; rw [this]; rfl
 ·have:=h3 1 (by decide); rw [this]; rfl
theorem at2:At2 x:=by
 have h:AtB (S2 x) 0 (((preT++(⟨#[123,40]⟩:ByteArray))++x)++(⟨#[10,41,125,46]⟩:ByteArray)):=at_self _
 have p21:(preT++(⟨#[123,40]⟩:ByteArray)).size=21:=rfl
 have h1:=h.left.left
 have h2:=h.left.right
 have h3:=h.right
 rw [p21,Nat.zero_add] at h2
 rw [ByteArray.size_append,p21,Nat.zero_add] at h3
 have g:∀ q (c:UInt8),q < 4→(⟨#[10,41,125,46]⟩:ByteArray)[q]? = some c→(S2 x)[20+x.size+(q+1)]? = some c:=fun q c hq hc=>by
  have:=h3 q hq; rw [hc] at this; rw [← this]; congr 1; omega
 refine ⟨by unfold S2; rw [ByteArray.size_append,ByteArray.size_append,p21]; show 21+x.size+4=_; omega,h1.left,?_,?_,h2,g 0 10 (by decide) rfl,g 1 41 (by decide) rfl,g 2 125 (by decide) rfl,g 3 46 (by decide) rfl⟩
 ·have:=h1 19 (by decide); rw [Nat.zero_add] at this; rw [this]; rfl
 ·have:=h1 20 (by decide); rw [Nat.zero_add] at this; rw [this]; rfl
theorem agree12 {i:Nat} (hi:20≤i):Agree (S1 x) (S2 x) i (i+1) (20+x.size):=fun k hk=>by
 have a:=(at1 x).xs (i+k - 20) (by omega)
 have b:=(at2 x).xs (i+k - 20) (by omega)
 rw [show 20+(i+k - 20)=i+k by omega] at a
 rw [show 21+(i+k - 20)=i+1+k by omega] at b
 rw [a,b]
variable {x}
theorem lex1 {l1:List (List AVal)} (ht:tokens (S1 x) = .inr l1):∃ r,Chain (S1 x) (pass (S1 x) 20) r∧(lexT (S1 x)).map TK.er=ptoks++(lbT::r.map erk):=by
 have a:=at1 x
 have nb:Nb (S1 x) 19:=⟨123,a.lb,by decide⟩
 obtain ⟨l',e1,e2⟩:=((lx_pre a.pre nb).trans (lx_lb a.lb)) []
 have hp0:pass (S1 x) 0=0:=(show Nb (S1 x) 0 from ⟨45,by have:=a.pre 0 (by decide); rw [Nat.zero_add] at this; rw [this]; rfl,by decide⟩).pass
 have ht':=ht
 unfold tokens at ht
 split at ht
 ·cases ht
 rw [hp0,e2] at ht
 cases h:toks (S1 x) (pass (S1 x) (19+1)) ([]++l') with
 | inl e=>rw [h] at ht; cases ht
 | inr l0=>
  rw [h] at ht
  injection ht with ht
  have hle:(20:Nat)≤(S1 x).size:=by rw [a.sz]; omega
  have hp:=pass_le (s:=S1 x) hle
  obtain ⟨r,hr,hch⟩:=chain_of _ _ _ _ (Nat.le_refl _) hp.2 (fun c hc=>pass_fix hle hc) h
  refine ⟨r,hch,?_⟩
  have e3:lexT (S1 x)=l1.map tkOf:=by unfold lexT; rw [ht']; rfl
  rw [e3,← ht,hr,List.nil_append,List.map_map]
  have e4:(TK.er ∘ tkOf)=fun c=>(tkOf c).er:=rfl
  rw [e4,List.map_append,e1]
  show (ptoks++[lbT])++r.map erk=_
  rw [List.append_assoc]; rfl
theorem Chain.start {s:ByteArray} {i:Nat} {c:List AVal} {R:List (List AVal)} (h:Chain s i (c::R)) (h8:(tkOf c).k≠8):∃ b,s[i]? = some b∧sep b.toNat=false:=by
 cases h with
 | fin=>exact absurd rfl h8
 | more g1 g2=>exact ⟨_,g1,g2⟩
theorem Chain.nil {s:ByteArray} {i:Nat} (h:Chain s i []):False:=by cases h
theorem lexY {c1:List AVal} {R:List (List AVal)} (h8:(tkOf c1).k≠8):∀ (Y:List (List AVal)) (i:Nat),20≤i→Chain (S1 x) i (Y++c1::R)→(∀ c ∈ Y,(tkOf c).k≠8)→∃ q,i≤q∧Chain (S1 x) q (c1::R)∧(q≤20+x.size→∃ Y',Y'.map erk=Y.map erk∧∀ acc,toks (S2 x) (pass (S2 x) (i+1)) acc=toks (S2 x) (pass (S2 x) (q+1)) (acc++Y'))
 | [],i,hi,h,_=>⟨i,Nat.le_refl _,h,fun _=>⟨[],rfl,fun acc=>by rw [List.append_nil]⟩⟩
 | c::Y,i,hi,h,hY=>by
  have hc8:=hY c (List.mem_cons_self ..)
  have h:Chain (S1 x) i (c::(Y++c1::R)):=h
  obtain ⟨L,hL⟩:∃ L,L=Y++c1::R:=⟨_,rfl⟩
  rw [← hL] at h
  cases h with
  | fin=>exact absurd rfl hc8
  | @more _ b k w n f e0 _ hc hs ht h1 h2 r=>
   rw [hL] at r
   have hpl:=pass_le (s:=S1 x) h2
   obtain ⟨q,q1,q2,q3⟩:=lexY h8 Y (pass (S1 x) e0) (by omega) r (fun c hc=>hY c (List.mem_cons_of_mem _ hc))
   refine ⟨q,by omega,q2,fun hq=> ?_⟩
   obtain ⟨Y',e1,e2⟩:=q3 hq
   have a2:=at2 x
   have hag:=agree12 x hi
   have hnl:(S2 x)[i+1+(20+x.size - i)]? = some (10:UInt8):=by rw [← a2.nl]; congr 1; omega
   have tw:=token_win hc hag (show e0≤20+x.size by omega) hnl (by decide) ht
   have hc2:(S2 x)[i+1]? = some b:=by
    have:=hag 0 (by omega)
    exact this.trans hc
   have tw2:=tok_pl hc2 tw ((i+1:Nat):Int)
   have hst:∃ b,(S1 x)[pass (S1 x) e0]? = some b∧sep b.toNat=false:=by
    cases Y with
    | nil=>exact Chain.start r h8
    | cons c' Y=>exact Chain.start (c:=c') r (hY c' (List.mem_cons_of_mem _ (List.mem_cons_self ..)))
   have hpw:=pass_win hag _ e0 (pass (S1 x) e0) (Nat.le_refl _) (by omega) (by omega) rfl hst
   rw [show i+1+(pass (S1 x) e0 - i)=pass (S1 x) e0+1 by omega] at hpw
   refine ⟨tokC k w n f ((i+1:Nat):Int)::Y',by rw [List.map_cons,List.map_cons,e1]; rfl,fun acc=> ?_⟩
   rw [(show Nb (S2 x) (i+1) from ⟨b,hc2,hs⟩).pass,toks_more hc2 tw2]
   dsimp only
   rw [hpw,e2,List.append_assoc]; rfl
end
end Go.Am.Rl
namespace Go.Am.Rl
open Go.Proofs
theorem tk_lt {E:List TK} {i:Nat} (h:(tk E i).k≠8):∃ t,E[i]? = some t∧tk E i=t:=by
 unfold tk at h ⊢
 rw [List.getD_eq_getElem?_getD] at h ⊢
 cases hi:E[i]? with
 | none=>rw [hi] at h; exact absurd rfl h
 | some t=>exact ⟨t,rfl,rfl⟩
theorem chain_sign {s w:ByteArray} {i:Nat} {c:List AVal} {R:List (List AVal)} (h:Chain s i (c::R)) (hk:(tkOf c).k=6∨(tkOf c).k=7) (hw:(tkOf c).s=w) (hw0:0 < w.size) (hkept:kept w=false):erk c=⟨6,w,0,0,0⟩∧stands s i w=true∧Chain s (pass s (i+w.size)) R∧i+w.size≤s.size:=by
 cases h with
 | fin=>rcases hk with h | h <;> cases h
 | @more _ b k w' n f e0 _ hc hs ht h1 h2 r=>
  have hw:w'=w:=hw
  subst hw
  obtain ⟨e1,e2,e3,e4,e5⟩:=tok_sign_inv hkept hw0 hk ht
  subst e1; subst e2; subst e3; subst e4
  exact ⟨rfl,e5,r,h2⟩
section
variable {x:ByteArray} {l1:List (List AVal)} {e:Nat} {E1:List TK}
theorem texts (hx:x.size≤2000) (ht:tokens (S1 x) = .inr l1) (hE1:(lexT (S1 x)).map TK.er=E1) (he:11≤e) (k1:Sign (tk E1 e)) (s1:(tk E1 e).s=w_rb) (k2:Sign (tk E1 (e+1))) (s2:(tk E1 (e+1)).s=w_dot) (h8:(tk E1 (e+2)).k=8) :
  (∀ l2,tokens (S2 x) = .inr l2→∃ E2,(lexT (S2 x)).map TK.er=E2∧TwH E1 E2 11 e∧TkAt E2 0 ptoks∧tk E2 10=lbT∧tk E2 11=lpT∧((tk E2 (e+1)=rpT∧tk E2 (e+2)=rbT∧tk E2 (e+3)=dotT∧(tk E2 (e+4)).k=8)∨tk E2 (e+1)=rbT))∧
  ((∀ (q:Nat) (c:UInt8),x[q]? = some c→((c.toNat:Int)==37)=false)→∃ l2 E2,tokens (S2 x) = .inr l2∧(lexT (S2 x)).map TK.er=E2∧tk E2 (e+1)=rpT):=by
 obtain ⟨r,hch,hE⟩:=lex1 ht
 rw [hE1] at hE
 have hok:=lexT_ok ht
 have hker:∀ i,(tk E1 i).k=(tk (lexT (S1 x)) i).k:=fun i=>by rw [← hE1,same1_map]; rfl
 have hlen1:E1.length=(lexT (S1 x)).length:=by rw [← hE1,List.length_map]
 have hlr:E1.length=11+r.length:=by rw [hE]; simp [ptoks]; omega
 have ne8:∀ {t:TK},Sign t→t.k≠8:=fun h=>by rcases h with h | h <;> rw [h] <;> decide
 obtain ⟨t1,ht1,htk1⟩:=tk_lt (ne8 k1)
 obtain ⟨t2,ht2,htk2⟩:=tk_lt (ne8 k2)
 have hl2:=(List.getElem?_eq_some_iff.mp ht2).1
 have hl3:E1.length=e+3:=by
  have hlast:=hok.fin
  have hoth:=hok.mid
  rw [← hlen1] at hlast hoth
  have a1:e+1≠E1.length - 1:=fun h=>ne8 k2 (by rw [h,hker]; exact hlast)
  rcases Nat.lt_or_ge (e+2) (E1.length - 1) with h | h
  ·exact absurd (by rw [← hker]; exact h8) (hoth (e+2) (by omega))
  ·omega
 have hrl:r.length=(e - 11)+3:=by omega
 have hrE:∀ i,E1[11+i]? = (r.map erk)[i]? :=fun i=>by
  have e0:E1=(ptoks++[lbT])++r.map erk:=by rw [hE,List.append_assoc]; rfl
  rw [e0,List.getElem?_append_right (show (ptoks++[lbT]).length≤11+i from by show 11≤11+i; omega)]
  congr 1
  show 11+i - 11=i
  omega
 obtain ⟨y,hy⟩:∃ y,y=e - 11:=⟨_,rfl⟩
 rw [← hy] at hrl
 have hye:e=11+y:=by omega
 obtain ⟨Y,c1,c2,c3,hr,hYl⟩:∃ Y c1 c2 c3,r=Y++c1::c2::[c3]∧Y.length=y:=by
  have hd:(r.drop y).length=3:=by rw [List.length_drop]; omega
  match hz:r.drop y,hd with
  | [c1,c2,c3],_=>exact ⟨r.take y,c1,c2,c3,by rw [← hz,List.take_append_drop],by rw [List.length_take]; omega⟩
 have hc1:tk E1 e=erk c1:=by
  rw [hye,hrE,hr,List.getElem?_map,List.getElem?_append_right (by omega),hYl,Nat.sub_self] at ht1
  rw [htk1]; injection ht1 with ht1; exact ht1.symm
 have hc2:tk E1 (e+1)=erk c2:=by
  rw [hye,show 11+y+1=11+(y+1) by omega,hrE,hr,List.getElem?_map,List.getElem?_append_right (by omega),hYl,show y+1 - y=1 by omega] at ht2
  rw [htk2]; injection ht2 with ht2; exact ht2.symm
 have hY8:∀ c ∈ Y,(tkOf c).k≠8:=by
  intro c hc
  obtain ⟨i,hi⟩:=List.mem_iff_getElem?.mp hc
  have hiy:i < y:=by rw [← hYl]; exact (List.getElem?_eq_some_iff.mp hi).1
  have h1:=hok.mid (11+i) (by omega)
  rw [← hker] at h1
  have h2:E1[11+i]? = some (erk c):=by rw [hrE,hr,List.getElem?_map,List.getElem?_append_left (by omega),hi]; rfl
  have h3:tk E1 (11+i)=erk c:=by unfold tk; rw [List.getD_eq_getElem?_getD,h2]; rfl
  rw [h3] at h1; exact h1
 have k1':(tkOf c1).k=6∨(tkOf c1).k=7:=by rw [hc1] at k1; exact k1
 have k2':(tkOf c2).k=6∨(tkOf c2).k=7:=by rw [hc2] at k2; exact k2
 have s1':(tkOf c1).s=w_rb:=by rw [hc1] at s1; exact s1
 have s2':(tkOf c2).s=w_dot:=by rw [hc2] at s2; exact s2
 have c18:(tkOf c1).k≠8:=by rcases k1' with h | h <;> rw [h] <;> decide
 have a1:=at1 x
 have a2:=at2 x
 obtain ⟨i1,hi1⟩:∃ i1,i1=pass (S1 x) 20:=⟨_,rfl⟩
 have h20:(20:Nat)≤(S1 x).size:=by rw [a1.sz]; omega
 have hi20:=(pass_le (s:=S1 x) h20).1
 rw [hr,← hi1] at hch
 rw [← hi1] at hi20
 obtain ⟨q,q1,q2,q3⟩:=lexY c18 Y i1 hi20 hch hY8
 obtain ⟨r1,r2,r3,r4⟩:=chain_sign q2 k1' s1' (by decide) (by kernel_rfl)
 have wrb:w_rb.size=1:=rfl
 have wdot:w_dot.size=1:=rfl
 rw [wrb] at r3 r4
 obtain ⟨p,hp⟩:∃ p,p=pass (S1 x) (q+1):=⟨_,rfl⟩
 rw [← hp] at r3
 obtain ⟨r5,r6,r7,r8⟩:=chain_sign r3 k2' s2' (by decide) (by kernel_rfl)
 rw [wdot] at r7 r8
 have hz:pass (S1 x) (p+1)=(S1 x).size:=by
  obtain ⟨z,hz⟩:∃ z,z=pass (S1 x) (p+1):=⟨_,rfl⟩
  rw [← hz] at r7 ⊢
  cases r7 with
  | fin=>rfl
  | more _ _ _ _ _ r=>exact r.nil.elim
 have hqp:q+1≤p:=by rw [hp]; exact (pass_le r4).1
 have hqM:q≤20+x.size:=by rw [a1.sz] at r8; omega
 obtain ⟨Y',hY',hty⟩:=q3 hqM
 obtain ⟨l',g1,g2⟩:=((lx_pre a2.pre ⟨123,a2.lb,by decide⟩).trans ((lx_lb a2.lb).trans (by
  rw [(show Nb (S2 x) (19+1) from ⟨40,a2.lp,by decide⟩).pass]; exact lx_lp2 a2.lp))) []
 have hst:∃ b,(S1 x)[i1]? = some b∧sep b.toNat=false:=by
  cases Y with
  | nil=>exact Chain.start hch c18
  | cons c Y=>exact Chain.start (c:=c) hch (hY8 c (List.mem_cons_self ..))
 have hpw:=pass_win (agree12 x (Nat.le_refl 20)) _ 20 i1 (Nat.le_refl _) (Nat.le_refl _) (by omega) hi1.symm hst
 rw [show 20+1+(20 - 20)=20+1 by omega,show 20+1+(i1 - 20)=i1+1 by omega] at hpw
 have hp0:pass (S2 x) 0=0:=(show Nb (S2 x) 0 from ⟨45,by have:=a2.pre 0 (by decide); rw [Nat.zero_add] at this; rw [this]; rfl,by decide⟩).pass
 have hto:toks (S2 x) 0 []=toks (S2 x) (pass (S2 x) (q+1)) (l'++Y'):=by
  rw [g2,List.nil_append,hpw,hty]
 have g1:l'.map erk=ptoks++[lbT,lpT]:=g1
 have fin:∀ (l2:List (List AVal)) (Z:List TK) (z:TK) (Z':List TK),tokens (S2 x) = .inr l2→l2.map erk=(ptoks++[lbT,lpT])++(Y.map erk++Z)→Z=z::Z'→(z=rpT∨z=rbT)→∃ E2,(lexT (S2 x)).map TK.er=E2∧TwH E1 E2 11 e∧TkAt E2 0 ptoks∧tk E2 10=lbT∧tk E2 11=lpT∧TkAt E2 (e+1) Z:=by
  intro l2 Z z Z' hl2 hmap hZ hz
  have e3:(lexT (S2 x)).map TK.er=l2.map erk:=by
   have:lexT (S2 x)=l2.map tkOf:=by unfold lexT; rw [hl2]; rfl
   rw [this,List.map_map]; rfl
  obtain ⟨E2,hE2⟩:∃ E2,E2=l2.map erk:=⟨_,rfl⟩
  have me:=tkAt_me E2
  rw [hE2,hmap,← hmap,← hE2] at me
  have me:TkAt E2 0 ((ptoks++[lbT,lpT])++(Y.map erk++Z)):=by rw [← hmap,← hE2]; exact tkAt_me E2
  have m1:=me.left.left
  have m2:=me.left.right
  have m3:=me.right.left
  have m4:=me.right.right
  have y12:0+(ptoks++[lbT,lpT]).length=12:=rfl
  have p10:0+ptoks.length=10:=rfl
  rw [y12] at m3 m4
  rw [p10] at m2
  rw [List.length_map,hYl,show 12+y=e+1 by omega] at m4
  refine ⟨E2,by rw [e3,hE2],⟨er_p2 hE1,er_p2 (by rw [e3,hE2]),fun i h1 h2=> ?_,by rw [hc1,r1]; rfl,?_⟩,m1,m2.head,m2.tail.head,m4⟩
  ·obtain ⟨c,hc⟩:∃ c,Y[i - 11]? = some c:=⟨_,List.getElem?_eq_getElem (by omega)⟩
   have b1:=m3 (i - 11) (erk c) (by rw [List.getElem?_map,hc]; rfl)
   rw [show 12+(i - 11)=i+1 by omega] at b1
   have b2:E1[11+(i - 11)]? = some (erk c):=by rw [hrE,hr,List.getElem?_map,List.getElem?_append_left (by omega),hc]; rfl
   rw [show 11+(i - 11)=i by omega] at b2
   rw [b1]
   unfold tk; rw [List.getD_eq_getElem?_getD,b2]; rfl
  ·rw [hZ] at m4
   rcases hz with rfl | rfl
   ·exact .inl m4.head
   ·exact .inr m4.head
 have big:¬ (decide (((S2 x).size:Int) > 65536)=true)→tokens (S2 x)=(match toks (S2 x) (pass (S2 x) (q+1)) (l'++Y') with
   | .inl e=>.inl e
   | .inr l=>.inr (l++[endTok (S2 x)])):=fun hb=>by
  unfold tokens; rw [if_neg hb,hp0,hto]; rfl
 have small:¬ (decide (((S2 x).size:Int) > 65536)=true):=by
  have:=a2.sz
  simp; omega
 have big:=big small
 have caseM:q=20+x.size→∃ l2,tokens (S2 x) = .inr l2∧l2.map erk=(ptoks++[lbT,lpT])++(Y.map erk++[rpT,rbT,dotT,endT]):=by
  intro hq
  have h1:pass (S2 x) (q+1)=20+x.size+2:=by
   rw [hq,pass_blank a2.nl (by decide) (by decide)]
   exact (show Nb (S2 x) (20+x.size+2) from ⟨41,a2.rp,by decide⟩).pass
  have L1:=lx_rp a2.rp
  rw [(show Nb (S2 x) (20+x.size+2+1) from ⟨125,a2.rb,by decide⟩).pass] at L1
  have L2:=lx_rb a2.rb
  rw [(show Nb (S2 x) (20+x.size+3+1) from ⟨46,a2.dot,by decide⟩).pass] at L2
  have L3:=lx_dot a2.dot
  have hend:(S2 x)[20+x.size+4+1]? = none:=byte_none (by rw [a2.sz]; omega)
  rw [pass_end hend] at L3
  obtain ⟨l3,e3,e4⟩:=(L1.trans (L2.trans L3)) (l'++Y')
  rw [h1,e4,toks_end hend] at big
  refine ⟨_,big,?_⟩
  have e3:l3.map erk=[rpT,rbT,dotT]:=e3
  rw [List.map_append,List.map_append,List.map_append,g1,hY',e3]
  simp only [List.append_assoc]; rfl
 constructor
 ·intro l2 hl2
  by_cases hq:q=20+x.size
  ·obtain ⟨l3,hl3',hmap⟩:=caseM hq
   rw [hl2] at hl3'
   injection hl3' with hl3'
   subst hl3'
   obtain ⟨E2,b1,b2,b3,b4,b5,b6⟩:=fin l2 _ _ _ hl2 hmap rfl (.inl rfl)
   exact ⟨E2,b1,b2,b3,b4,b5,.inl ⟨b6.head,b6.tail.head,b6.tail.tail.head,by rw [show e+4=e+1+1+1+1 by omega,b6.tail.tail.tail.head]; rfl⟩⟩
  ·have hlt:q < 20+x.size:=by omega
   have hS1q:(S1 x)[q]? = some (125:UInt8):=by have:=stands_at r2 0 (by decide); rw [Nat.add_zero] at this; rw [this]; rfl
   have hS2q:(S2 x)[q+1]? = some (125:UInt8):=by
    have:=agree12 x (i:=q) (by omega) 0 (by omega)
    exact this.trans hS1q
   rw [(show Nb (S2 x) (q+1) from ⟨125,hS2q,by decide⟩).pass] at big
   obtain ⟨l3,e3,e4⟩:=lx_rb hS2q (l'++Y')
   rw [e4] at big
   cases hh:toks (S2 x) (pass (S2 x) (q+1+1)) (l'++Y'++l3) with
   | inl er=>rw [hh,hl2] at big; cases big
   | inr l0=>
    rw [hh,hl2] at big
    injection big with big
    have hle:q+1+1≤(S2 x).size:=size_of_some hS2q
    have hp:=pass_le (s:=S2 x) hle
    obtain ⟨r9,hr9,_⟩:=chain_of _ _ _ _ (Nat.le_refl _) hp.2 (fun c hc=>pass_fix hle hc) hh
    have e3:l3.map erk=[rbT]:=e3
    obtain ⟨E2,b1,b2,b3,b4,b5,b6⟩:=fin l2 (rbT::r9.map erk) rbT _ hl2 (by
     rw [big,hr9,List.map_append,List.map_append,List.map_append,g1,hY',e3]
     simp only [List.append_assoc]; rfl) rfl (.inr rfl)
    exact ⟨E2,b1,b2,b3,b4,b5,.inr b6.head⟩
 ·intro hno
  have no37:∀ k,20≤k→∀ j c,k≤j→(S1 x)[j]? = some c→((c.toNat:Int)==37)=false:=by
   intro k hk j c hj hc
   rcases Nat.lt_or_ge j (20+x.size) with h | h
   ·have:=a1.xs (j - 20) (by omega)
    rw [show 20+(j - 20)=j by omega,hc] at this
    exact hno _ c this.symm
   ·rcases Nat.lt_or_eq_of_le h with h | h
    ·have hs:=size_of_some hc
     rw [a1.sz] at hs
     have:j=20+x.size+1:=by omega
     subst this
     rw [a1.dot] at hc; injection hc with hc; subst hc; rfl
    ·subst h
     rw [a1.rb] at hc; injection hc with hc; subst hc; rfl
  have hpM:p=20+x.size+1:=by
   rcases Nat.lt_or_ge p (20+x.size+1) with h | h
   ·have:=pass_blanks_all _ (p+1) (Nat.le_refl _) (no37 (p+1) (by omega)) (20+x.size+1) 46 (by omega) (by rw [hz,a1.sz]; omega) a1.dot
    cases this
   ·rw [a1.sz] at r8; omega
  have hqM2:q=20+x.size:=by
   rcases Nat.lt_or_ge q (20+x.size) with h | h
   ·have:=pass_blanks_all _ (q+1) (Nat.le_refl _) (no37 (q+1) (by omega)) (20+x.size) 125 (by omega) (by rw [← hp]; omega) a1.rb
    cases this
   ·omega
  obtain ⟨l2,hl2',hmap⟩:=caseM hqM2
  obtain ⟨E2,b1,b2,b3,b4,b5,b6⟩:=fin l2 _ _ _ hl2' hmap rfl (.inl rfl)
  exact ⟨l2,E2,hl2',b1,b6.head⟩
end
end Go.Am.Rl
namespace Go.Am.Rl
open Go.Proofs
def has37 (x:ByteArray):Prop:=∃ (q:Nat) (c:UInt8),x[q]? = some c∧((c.toNat:Int)==37)=true
theorem no37 {x:ByteArray} (h:¬ has37 x):∀ (q:Nat) (c:UInt8),x[q]? = some c→((c.toNat:Int)==37)=false:=fun q c hc=>by
 cases hh:((c.toNat:Int)==37) with
 | false=>rfl
 | true=>exact absurd ⟨q,c,hc,hh⟩ h
theorem isS_sign2 {E:List TK} {s:PS} {w:ByteArray} (h:isS E s w=true):Sign (tk E s.at_)∧(tk E s.at_).s=w:=by
 unfold isS at h
 rw [Bool.and_eq_true,Bool.or_eq_true] at h
 exact ⟨h.1.elim (fun h=>.inl (eq_of_beq h)) fun h=>.inr (eq_of_beq h),seq_eq h.2⟩
theorem er_at {nodes:List ND} {i:Nat} {m:ND} (h:(nodes.map ND.er)[i]? = some m):∃ m',nodes[i]? = some m'∧m'.k=m.k∧m'.l=m.l:=by
 rw [List.getElem?_map] at h
 cases hn:nodes[i]? with
 | none=>rw [hn] at h; cases h
 | some m'=>
  rw [hn] at h; injection h with h
  exact ⟨m',rfl,by rw [← h]; rfl,by rw [← h]; rfl⟩
structure BrOk (x:ByteArray) (nodes:List ND) (root:Nat):Prop where
 len:nodes.length≤100000
 lens:∀ (i:Nat) (m:ND),nodes[i]? = some m→m.l.length≤100000
 sh:∃ f fs cl c cs b a az mR mF mC mK mB A,nodes[root]? = some mR∧mR.l=f::fs∧nodes[f]? = some mF∧mF.l=[cl]∧nodes[cl]? = some mC∧mC.l=c::cs∧nodes[c]? = some mK∧mK.l=[0,b]∧nodes[b]? = some mB∧mB.l=a::az∧nodes[a]? = some A∧
  (fs=[]→cs=[]→az=[]→A.k=6→A.l.length=1→∀ r2,Parses (S2 x) r2→(∃ nodes2,r2 = .tree nodes2 root∧nodes.map ND.er=nodes2.map ND.er)∨∃ er p,r2 = .flaw er p∧er≠0∧(er=25∨has37 x))
theorem brackets {x:ByteArray} (hx:x.size≤2000) {nodes:List ND} {root:Nat} (hp:Parses (S1 x) (.tree nodes root)):BrOk x nodes root:=by
 rcases hp with ⟨e,_,h⟩ | ⟨⟨l1,ht⟩,⟨e,p,_,h⟩ | ⟨i,st,ev,h,hi,hlen⟩⟩
 ·cases h
 ·cases h
 injection h with h1 h2
 subst h1; subst h2
 have hb:=module_bound ev
 obtain ⟨E1,hE1⟩:∃ E1,(lexT (S1 x)).map TK.er=E1:=⟨_,rfl⟩
 have a1:Same1 (lexT (S1 x)) E1:=by rw [← hE1]; exact same1_map _
 have evE:=Tw.ev (tw_rule a1) ev
 obtain ⟨r,_,hlex⟩:=lex1 ht
 rw [hE1] at hlex
 have h0:TkAt E1 0 (ptoks++(lbT::r.map erk)):=by rw [← hlex]; exact tkAt_me E1
 have hlb:tk E1 10=lbT:=h0.right.head
 have hpp:=er_p2 hE1
 obtain ⟨i',hi',hsh⟩:=shape hpp h0.left hlb evE
 injection hi' with hi'
 subst hi'
 obtain ⟨f,fs,cl,c,cs,b,a,az,mF,mC,mK,mB,A,s1,s2,s3,s4,s5,s6,s7,s8,s9,s10,hcond⟩:=hsh.sh
 have hmap:st.er.nodes=st.nodes.map ND.er:=rfl
 rw [hmap] at s1 s2 s4 s6 s8 s10
 obtain ⟨mR',b1,_,b1l⟩:=er_at s1
 obtain ⟨mF',b2,_,b2l⟩:=er_at s2
 obtain ⟨mC',b3,_,b3l⟩:=er_at s4
 obtain ⟨mK',b4,_,b4l⟩:=er_at s6
 obtain ⟨mB',b5,_,b5l⟩:=er_at s8
 obtain ⟨A',b6,b6k,b6l⟩:=er_at s10
 refine ⟨by omega,fun i m hm=>by have:=hb m (List.mem_of_getElem? hm); omega,f,fs,cl,c,cs,b,a,az,mR',mF',mC',mK',mB',A',b1,by rw [b1l],b2,by rw [b2l,s3],b3,by rw [b3l,s5],b4,by rw [b4l,s7],b5,by rw [b5l,s9],b6,fun z1 z2 z3 hk hl r2 hp2=> ?_⟩
 obtain ⟨a0,s0,ev0,r1,r2',r3,r4,r5⟩:=hcond z1 z2 z3 (by rw [← b6k]; exact hk) (by rw [← b6l]; exact hl)
 have he:11≤s0.at_:=ev0.grow.1
 obtain ⟨q1,q2⟩:=isS_sign2 r1
 obtain ⟨q3,q4⟩:=isS_sign2 r2'
 obtain ⟨T1,T2⟩:=texts hx ht hE1 he q1 q2 q3 q4 r3
 have hL:s0.nodes.length+6≤16384:=by
  have:=congrArg List.length r5
  rw [hmap,List.length_map,List.length_append] at this
  have:st.nodes.length=s0.nodes.length+6:=this
  omega
 rcases hp2 with ⟨er,ht2,rfl⟩ | ⟨⟨l2,ht2⟩,hp2⟩
 ·refine .inr ⟨_,_,rfl,(tokens_sort _).1 _ ht2,.inr ?_⟩
  refine Classical.byContradiction fun hno=> ?_
  obtain ⟨l2,E2,h1,_⟩:=T2 (no37 hno)
  rw [ht2] at h1; cases h1
 obtain ⟨E2,hE2,H,t0,t10,t11,alt⟩:=T1 l2 ht2
 have a2:Same1 (lexT (S2 x)) E2:=by rw [← hE2]; exact same1_map _
 obtain ⟨S1',S2'⟩:=second H t0 t10 t11 ev0 rfl hL
 rcases alt with ⟨d1,d2,d3,d4⟩ | d1
 ·rcases S1' d1 d2 d3 d4 with ⟨st2,ev2,hn2⟩ | ⟨q,er2⟩
  ·rcases hp2 with ⟨e',p',ev',rfl⟩ | ⟨i2,st',ev',rfl,_⟩
   ·have:=Ev.det (Tw.ev (tw_rule a2) ev') ev2
    simp [Out1.er] at this
   ·have:=Ev.det (Tw.ev (tw_rule a2) ev') ev2
    simp only [Out1.er,Out1.ok.injEq,Val.er,Val.n.injEq] at this
    refine .inl ⟨st'.nodes,by rw [this.1,r4],?_⟩
    have h9:st'.nodes.map ND.er=st2.nodes:=by rw [← this.2]; rfl
    rw [h9,hn2,← r5]; rfl
  ·rcases hp2 with ⟨e',p',ev',rfl⟩ | ⟨i2,st',ev',rfl,_⟩
   ·have:=Ev.det (Tw.ev (tw_rule a2) ev') er2
    simp only [Out1.er,Out1.err.injEq] at this
    exact .inr ⟨e',p',rfl,by omega,.inl this.1⟩
   ·have:=Ev.det (Tw.ev (tw_rule a2) ev') er2
    simp [Out1.er] at this
 ·obtain ⟨er,q,her,er2⟩:=S2' d1
  rcases hp2 with ⟨e',p',ev',rfl⟩ | ⟨i2,st',ev',rfl,_⟩
  ·have:=Ev.det (Tw.ev (tw_rule a2) ev') er2
   simp only [Out1.er,Out1.err.injEq] at this
   refine .inr ⟨e',p',rfl,by omega,.inr ?_⟩
   refine Classical.byContradiction fun hno=> ?_
   obtain ⟨l3,E3,_,h2,h3⟩:=T2 (no37 hno)
   rw [hE2] at h2
   subst h2
   rw [d1] at h3
   have:=congrArg TK.s h3
   have h4:seq w_rb w_rp=true:=by rw [show w_rb=w_rp from this]; kernel_rfl
   rw [show seq w_rb w_rp=false from by kernel_rfl] at h4
   cases h4
  ·have:=Ev.det (Tw.ev (tw_rule a2) ev') er2
   simp [Out1.er] at this
end Go.Am.Rl
