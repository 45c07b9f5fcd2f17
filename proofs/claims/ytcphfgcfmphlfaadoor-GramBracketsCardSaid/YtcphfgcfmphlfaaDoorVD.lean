/- Parts: V24, V25, V26, V27, V28. -/
import Derived.Test.YtcphfgcfmphlfaaDoorVC
set_option linter.unusedVariables false
set_option linter.unusedSimpArgs false
namespace Go.Am.Rl
open Go.Proofs
theorem pass_more {s:ByteArray} {n i:Nat} (h:s.size - i≤n):passW s n i=pass s i:=passW_more s _ _ _ h (Nat.le_refl _)
theorem pass_end {s:ByteArray} {i:Nat} (h:s[i]? = none):pass s i=i:=by
 rw [← pass_more (n:=s.size - i+1) (by omega)]
 simp only [passW,h]
theorem pass_line {s:ByteArray} {i:Nat} {b:UInt8} (h:s[i]? = some b) (hb:((b.toNat:Int)==37)=true):pass s i=pass s (skip noLine s i):=by
 have hs:=skip_next h (p:=noLine) (by
  have:=eq_of_beq hb
  unfold noLine; simp; omega)
 rw [← pass_more (n:=s.size - i+1) (by omega)]
 simp only [passW,h,hb,if_true]
 exact pass_more (by omega)
theorem pass_blank {s:ByteArray} {i:Nat} {b:UInt8} (h:s[i]? = some b) (hl:((b.toNat:Int)==37)=false) (hb:blank b.toNat=true):pass s i=pass s (i+1):=by
 rw [← pass_more (n:=s.size - i+1) (by omega)]
 simp only [passW,h,hb,hl,if_true,Bool.false_eq_true,if_false]
 exact pass_more (by omega)
theorem pass_stop {s:ByteArray} {i:Nat} {b:UInt8} (h:s[i]? = some b) (hl:((b.toNat:Int)==37)=false) (hb:blank b.toNat=false):pass s i=i:=by
 rw [← pass_more (n:=s.size - i+1) (by omega)]
 simp only [passW,h,hb,hl,Bool.false_eq_true,if_false]
abbrev Res:=(Int × Int) ⊕ List (List AVal)
def toksW (s:ByteArray):Nat→Nat→List (List AVal)→Res
 | 0,_,acc=>.inr acc
 | n+1,i,acc=>match s[i]? with
  | none=>.inr acc
  | some c=>match token s i c.toNat (i:Nat) with
   | .inl e=>.inl (e,(i:Nat))
   | .inr p=>toksW s n (pass s p.2) (acc++[p.1])
theorem toksW_more (s:ByteArray):∀ n m i acc,s.size - i≤n→s.size - i≤m→toksW s n i acc=toksW s m i acc
 | 0,0,i,acc,_,_=>rfl
 | 0,m+1,i,acc,h,_=>by simp only [toksW,byte_none (show ¬ i < s.size by omega)]
 | n+1,0,i,acc,_,h=>by simp only [toksW,byte_none (show ¬ i < s.size by omega)]
 | n+1,m+1,i,acc,h1,h2=>by
  simp only [toksW]
  split
  ·rfl
  ·rename_i c hc
   have hm:=token_made hc (i:Nat)
   split
   ·rfl
   ·rename_i p hp
    rw [hp] at hm
    obtain ⟨_,h3,h4⟩:=hm p rfl
    have h5:=(pass_le (s:=s) h4).1
    exact toksW_more s n m _ _ (by omega) (by omega)
def toks (s:ByteArray) (i:Nat) (acc:List (List AVal)):Res:=toksW s (s.size - i) i acc
theorem toks_end {s:ByteArray} {i:Nat} {acc:List (List AVal)} (h:s[i]? = none):toks s i acc = .inr acc:=by
 unfold toks
 rw [toksW_more s _ (s.size - i+1) i acc (by omega) (by omega)]
 simp only [toksW,h]
theorem toks_bad {s:ByteArray} {i:Nat} {acc:List (List AVal)} {c:UInt8} {e:Int} (h:s[i]? = some c) (ht:token s i c.toNat (i:Nat) = .inl e):toks s i acc = .inl (e,(i:Nat)):=by
 unfold toks
 rw [toksW_more s _ (s.size - i+1) i acc (by omega) (by omega)]
 simp only [toksW,h,ht]
theorem toks_more {s:ByteArray} {i:Nat} {acc:List (List AVal)} {c:UInt8} {p:List AVal × Nat} (h:s[i]? = some c) (ht:token s i c.toNat (i:Nat) = .inr p):toks s i acc=toks s (pass s p.2) (acc++[p.1]):=by
 have hm:=token_made h (i:Nat)
 rw [ht] at hm
 obtain ⟨_,h3,h4⟩:=hm p rfl
 have h5:=(pass_le (s:=s) h4).1
 unfold toks
 rw [toksW_more s _ (s.size - i+1) i acc (by omega) (by omega)]
 simp only [toksW,h,ht]
 exact toksW_more s _ _ _ _ (by omega) (by omega)
def endTok (s:ByteArray):List AVal:=tokC 8 ⟨#[]⟩ 0 0 (s.size:Nat)
def tokens (s:ByteArray):Res:=if decide ((s.size:Int) > 65536)=true then .inl (3,0) else match toks s (pass s 0) [] with
 | .inl e=>.inl e
 | .inr l=>.inr (l++[endTok s])
structure OutT (B:Nat) (H:AHeap) (x:AVal) (l:List (List AVal)):Prop where
 gr:Grow H 31 5 x l.length l.flatten
 own:∀ j,rid x=some j→B≤j
 nx:B≤H.next
theorem OutT.new {B:Nat} {H:AHeap} (h:B≤H.next):OutT B H .nils []:=⟨Grow.nils _ _ _,fun j h=>(by cases h),h⟩
theorem OutT.frame {B:Nat} {H H':AHeap} {x:AVal} {l:List (List AVal)} (h:OutT B H x l) (hn:H.next≤H'.next) (hf:∀ j,B≤j→j < H.next→H'.get j=H.get j):OutT B H' x l:=
 ⟨h.gr.frame fun id hid=>hf id (h.own id hid) (h.gr.lt hid),h.own,Nat.le_trans h.nx hn⟩
theorem OutT.push {B:Nat} {H:AHeap} {x:AVal} {l:List (List AVal)} (h:OutT B H x l) (c:List AVal) (hc:c.length=5∧ones c=true) (hl:l.length < 1000000) :
  ∃ x' H',aapp 31 5 48 (H.push (.cells 31 c)) x (.sl H.next 0 1 (some 1))=some (x',H')∧OutT B H' x' (l++[c])∧∀ j,j < B→H'.get j=H.get j:=by
 have hg:(H.push (.cells 31 c)).get H.next=some (.cells 31 c):=by rw [AHeap.get_push,if_pos rfl]
 have hgr:Grow (H.push (.cells 31 c)) 31 5 x l.length l.flatten:=h.gr.frame fun id hid=>by
  have:=h.gr.lt hid
  rw [AHeap.get_push,if_neg (by omega)]
 obtain ⟨x',H',h1,h2,h3,h4,h5⟩:=hgr.one hg hc.1 hc.2 (by omega) (b:=48) (by omega) (by omega)
 have hn:(H.push (.cells 31 c)).next=H.next+1:=rfl
 have hnx:=h.nx
 refine ⟨x',H',h1,⟨?_,fun j hj=> ?_,?_⟩,fun j hj=> ?_⟩
 ·have e1:(l++[c]).flatten=l.flatten++c:=by simp
  have e2:(l++[c]).length=l.length+1:=by simp
  rw [e1,e2]; exact h2
 ·have:=h5 j hj; omega
 ·omega
 ·rw [h4 j (by omega) (fun e=>by have:=h.own j e; omega),AHeap.get_push,if_neg (by omega)]
def TokOut (H H':AHeap) (a:AVal) (res:Res):Prop:=
 (match res with
  | .inl e=>a = .tup [.nils,.agg [.int .i64 e.1,.int .i64 e.2]]
  | .inr l=>∃ x,a = .tup [x,.agg [.int .i64 0,.int .i64 0]]∧OutT H.next H' x l)∧H.next≤H'.next∧∀ j,j < H.next→H'.get j=H.get j
end Go.Am.Rl
namespace Go.Am.Rl
open Go.Proofs
def Numbered (t:Tok):Prop:=∀ e,t = .inl e→(e != 0)=true
theorem Numbered.ok {p:List AVal × Nat}:Numbered (.inr p):=fun e h=>by cases h
theorem Numbered.no {e:Int} (h:(e != 0)=true):Numbered (.inl e):=fun e' h'=>by injection h' with h'; subst h'; exact h
theorem token_numbered (s:ByteArray) (i c:Nat) (pl:Int):Numbered (token s i c pl):=by
 unfold token nameTok lowTok numTok numAt numF numI bitTok quoTok signTok
 cases bits s i <;> cases quote s (c:Int) i
 all_goals
  repeat' split
  all_goals first | exact Numbered.ok | exact Numbered.no (by decide) | (rename_i h; cases h; first | exact Numbered.ok | exact Numbered.no (by decide))
section
variable {H0:AHeap} {s:ByteArray} {b B:Nat} {k k':List AItem} {Q:Env→AHeap→Prop}
end
end Go.Am.Rl
namespace Go.Am.Rl
open Go.Proofs
theorem reg10_7 {c:Nat} {v0 v3 v4 v5:AVal} {H:AHeap} {k:List AItem} {Q:Env→AHeap→Prop} (h:DR Tryd.prog (kof k9) 102 k [(0,v0),(3,v3),(4,v4),(5,v5),(6,.int .u8 (c:Nat)),(29,.bool (blank c))] H Q) :
  DR Tryd.prog (kof k9) 102 (.code (.region false r9_7 [0,3,4,5,6,29])::k) [(0,v0),(3,v3),(4,v4),(5,v5),(6,.int .u8 (c:Nat))] H Q:=by
 have hb:blank c=(((((c:Int)==32) || ((c:Int)==9)) || ((c:Int)==10)) || ((c:Int)==13)):=by
  unfold blank
  cases ((c:Int)==9) <;> cases ((c:Int)==10) <;> cases ((c:Int)==13) <;> cases ((c:Int)==32) <;> rfl
 rw [hb] at h
 cases h1:((c:Int)==32) with
 | true=>
  rw [h1] at h
  refine DR.go rfl ?_
  simp -dsimp only [SZ,EZ,astep,aun,AVal.cells,seval,abin,h1]
  exact h
 | false=>
  cases h2:((c:Int)==9) with
  | true=>
   rw [h1,h2] at h
   refine DR.go rfl ?_
   simp -dsimp only [SZ,EZ,astep,aun,AVal.cells,seval,abin,h1,h2]
   exact h
  | false=>
   cases h3:((c:Int)==10) with
   | true=>
    rw [h1,h2,h3] at h
    refine DR.go rfl ?_
    simp -dsimp only [SZ,EZ,astep,aun,AVal.cells,seval,abin,h1,h2,h3]
    exact h
   | false=>
    rw [h1,h2,h3] at h
    refine DR.go rfl ?_
    simp -dsimp only [SZ,EZ,astep,aun,AVal.cells,seval,abin,h1,h2,h3]
    exact h
theorem blank_line {c:Nat} (h:blank c=true):((c:Int)==37)=false:=by
 rw [beq_eq_false_iff_ne]
 unfold blank at h
 simp only [Bool.or_eq_true] at h
 rcases h with ((h | h) | h) | h
 all_goals
  have:=eq_of_beq h
  omega
section
variable {H0:AHeap} {s:ByteArray} {b r B:Nat} {k k':List AItem} {Q:Env→AHeap→Prop}
theorem loop10 (hsz:s.size < 1000000) (hbB:b < B) (hrB:r < B) (hbr:b≠r) (hk:aexitTo 0 k=some k') :
  ∀ (d i:Nat) (acc:List (List AVal)) (x:AVal) (H:AHeap),s.size - i≤d→i≤s.size→acc.length≤i→H.get b=some (.cells 26 [.int .i64 0,.int .i64 0])→H.get r=some (.cells 54 (scanCells s (i:Nat) 0))→OutT B H x acc→(∀ j,j < B→j≠r→H.get j=H0.get j)→
   (∀ x' H' l,toks s (pass s i) acc = .inr l→l.length≤s.size→H'.get b=some (.cells 26 [.int .i64 0,.int .i64 0])→OutT B H' x' l→(∀ j,j < B→j≠r→H'.get j=H0.get j)→DR Tryd.prog (kof k9) 102 k' [(0,.str s),(3,.ptr b 0),(5,x')] H' Q)→
   (∀ e H',toks s (pass s i) acc = .inl e→aload H' (some 2) (.ptr b 0)=some (.agg [.int .i64 e.1,.int .i64 e.2])→B≤H'.next→(∀ j,j < B→j≠b→j≠r→H'.get j=H0.get j)→Q [(2,.nils),(3,.ptr b 0)] H')→
   DR Tryd.prog (kof k9) 102 (.code l9_0::.inLoop l9_0::k) [(0,.str s),(3,.ptr b 0),(4,.ptr r 0),(5,x)] H Q:=by
 have hl:∀ H,alenT H 0 (.str s)=some s.size:=fun _=>rfl
 intro d
 induction d with
 | zero=>
  intro i acc x H hi his hacc hb hr hO hf hend hbad
  have l1:=load_cell hr (o:=1) (v:=.int .i64 (i:Nat)) rfl
  have hc:decide ((i:Int) < (s.size:Int))=false:=by simp; omega
  have hpe:pass s i=i:=pass_end (byte_none (by omega))
  refine DR.go rfl ?_
  simp -dsimp only [SZ,EZ,astep,aun,AVal.cells,seval,l1,hl,hc,abin]
  refine DR.ne rfl rfl ?_
  refine DR.exit (k':=k') (by simpa [aexitTo] using hk) ?_
  exact DR.only [0,3,5] (hend x H acc (by rw [hpe]; exact toks_end (byte_none (by omega))) (by omega) hb hO hf)
 | succ d ih=>
  intro i acc x H hi his hacc hb hr hO hf hend hbad
  have l1:=load_cell hr (o:=1) (v:=.int .i64 (i:Nat)) rfl
  rcases Nat.lt_or_ge i s.size with hlt | hge
  ·have hc:decide ((i:Int) < (s.size:Int))=true:=by simp; omega
   obtain ⟨c,hct⟩:=byte_at hlt
   have hx:=idx_at hct
   have hnx:=hO.nx
   have hw:IntKind.i64.wrap ((i:Int)+1)=((i+1:Nat):Int):=wrap64 (n:=i+1) (by omega)
   refine DR.go rfl ?_
   simp -dsimp only [SZ,EZ,astep,aun,AVal.cells,seval,l1,hl,hc,abin]
   refine DR.ye rfl rfl ?_
   refine DR.go rfl ?_
   simp -dsimp only [SZ,EZ,astep,aun,AVal.cells,seval,l1,hx]
   refine DR.nm rfl ?_
   refine DR.only [0,3,4,5,6] ?_
   refine reg10_7 ?_
   cases hbl:blank c.toNat with
   | true=>
    have hps:=pass_blank hct (blank_line hbl) hbl
    rw [hps] at hend hbad
    have sr:=astore_one hr (o:=1) (x:=.int .i64 ((i+1:Nat):Int)) (by simp [scanCells]) rfl
    obtain ⟨H2,hH2,r2,n2,f2⟩:=upd hr (.cells 54 ((scanCells s (i:Nat) 0).set 1 (.int .i64 ((i+1:Nat):Int))))
    rw [← hH2] at sr
    refine DR.ye rfl rfl ?_
    refine DR.go rfl ?_
    simp -dsimp only [SZ,EZ,astep,aun,AVal.cells,seval,l1,abin_addI,hw,sr]
    refine DR.exit rfl ?_
    refine DR.nm rfl ?_
    refine DR.inLoop ?_
    refine ih (i+1) acc x H2 (by omega) (by omega) (by omega) ?_ r2 ?_ ?_ hend hbad
    ·rw [f2 b hbr]; exact hb
    ·exact hO.frame (by omega) fun j h1 h2=>f2 j (by omega)
    ·intro j h1 h2; rw [f2 j h2,hf j h1 h2]
   | false=>
    refine DR.ne rfl rfl ?_
    refine DR.go rfl ?_
    simp -dsimp only [SZ,EZ,astep,aun,AVal.cells,seval,abin]
    cases h37:((c.toNat:Int)==37) with
    | true=>
     have hps:=pass_line hct h37
     rw [hps] at hend hbad
     have hs1:=skip_next hct (p:=noLine) (by
      have:=eq_of_beq h37
      unfold noLine; simp; omega)
     have hs2:=(skip_le (p:=noLine) (s:=s) (i:=i) his).2
     obtain ⟨j,hj⟩:∃ j,j=skip noLine s i:=⟨_,rfl⟩
     rw [← hj] at hend hbad hs1 hs2
     have sr:=astore_one hr (o:=1) (x:=.int .i64 (j:Nat)) (by simp [scanCells]) rfl
     obtain ⟨H2,hH2,r2,n2,f2⟩:=upd hr (.cells 54 ((scanCells s (i:Nat) 0).set 1 (.int .i64 (j:Nat))))
     rw [← hH2] at sr
     refine DR.ye rfl rfl ?_
     refine DR.go rfl ?_
     simp -dsimp only [SZ,EZ,astep,aun,AVal.cells,seval,l1]
     refine (g17 (p:=noLine) hr (fun b H=>of_chk t22 b H) (by omega) i).mono ?_
     rintro a H' ⟨rfl,rfl⟩
     rw [← hj]
     simp -dsimp only [SZ,EZ,astep,aun,AVal.cells,seval,sr]
     refine DR.exit rfl ?_
     refine DR.nm rfl ?_
     refine DR.inLoop ?_
     refine ih j acc x H2 (by omega) hs2 (by omega) ?_ r2 ?_ ?_ hend hbad
     ·rw [f2 b hbr]; exact hb
     ·exact hO.frame (by omega) fun j h1 h2=>f2 j (by omega)
     ·intro j h1 h2; rw [f2 j h2,hf j h1 h2]
    | false=>
     have hps:=pass_stop hct h37 hbl
     rw [hps] at hend hbad
     refine DR.ne rfl rfl ?_
     refine DR.go rfl ?_
     simp -dsimp only [SZ,EZ,astep,aun,AVal.cells,seval]
     refine (g19 hct hr hsz).mono ?_
     intro a H1 hT
     have hpl:=token_pl s i c.toNat (i:Nat)
     have hm:=token_made hct 0
     obtain ⟨H2,hH2,g2,n2,f2⟩:=psh H1 (.cells 31 [.int .i64 0,.str ⟨#[]⟩,.int .i64 0,.flt .f64 0,.int .i64 0])
     have g2:H2.get H1.next=some (.cells 31 tok0):=g2
     cases ht:token s i c.toNat 0 with
     | inl e=>
      rw [ht] at hT hpl
      have hne:=token_numbered s i c.toNat 0 e ht
      obtain ⟨⟨⟨cs,j,rfl,hl5,ho⟩,r1⟩,n1,f1⟩:=hT
      have st2:=(res35 g2 rfl cs hl5 ho).1
      obtain ⟨H3,hH3,g3,n3,f3⟩:=upd g2 (.cells 31 cs)
      have r3:H3.get r=some (.cells 54 (scanCells s (i:Nat) e)):=(f3 r (by omega)).trans ((f2 r (by omega)).trans r1)
      have le:=load_cell r3 (o:=2) (v:=.int .i64 e) rfl
      have lp:=load_cell r3 (o:=1) (v:=.int .i64 (i:Nat)) rfl
      have gb:=(f3 b (by omega)).trans ((f2 b (by omega)).trans ((f1 b (by omega) hbr).trans hb))
      have st:=store_all (n:=2) gb (new:=[.int .i64 e,.int .i64 (i:Nat)]) rfl rfl rfl
      simp -dsimp only [SZ,EZ,astep,aun,AVal.cells,seval,← hH2,st2,← hH3]
      refine DR.go rfl ?_
      simp -dsimp only [SZ,EZ,astep,aun,AVal.cells,seval,le,abin,hne]
      refine DR.ye rfl rfl ?_
      refine DR.nm rfl ?_
      refine DR.draw (by kernel_rfl) d9_13 ?_
      simp -dsimp only [m9_13,SZ,EZ,astep,aun,AVal.cells,seval,DS_nil,DS_cons,seesAll,staysAll,abit,List.getD_cons_zero,List.getD_cons_succ,AOp.quiet,AOp.reads,true_and,and_true,decide_true,decide_false,and_self,le,lp,Env.parts,afill,AVal.cells,LZ,st]
      refine DR.ret (hbad (e,(i:Nat)) _ (toks_bad hct hpl.symm) (load_all (n:=2) (by rw [AHeap.get_set,if_pos rfl,if_pos (AHeap.get_lt gb)]) rfl) ?_ ?_)
      ·show B≤H3.next; omega
      ·intro j hj hne hnr; rw [AHeap.get_set,if_neg hne,f3 j (by omega),f2 j (by omega),f1 j (by omega) hnr,hf j hj hnr]
     | inr p=>
      rw [ht] at hT hpl hm
      obtain ⟨⟨rfl,r1⟩,n1,f1⟩:=hT
      obtain ⟨hc5,ho⟩:=hm.cells
      obtain ⟨⟨tk,ts,tn,tf,htk⟩,hp1,hp2⟩:=hm p rfl
      have hple:=pass_le (s:=s) hp2
      have hpl:token s i c.toNat (i:Nat) = .inr (tokC tk ts tn tf (i:Nat),p.2):=by rw [← hpl]; show (Sum.inr (p.1.set 4 (.int .i64 (i:Nat)),p.2):Tok)=_; rw [htk]; rfl
      have st2:=(res35 g2 rfl p.1 hc5 ho).1
      obtain ⟨H3,hH3,g3,n3,f3⟩:=upd g2 (.cells 31 p.1)
      have r3:H3.get r=some (.cells 54 (scanCells s (i:Nat) 0)):=(f3 r (by omega)).trans ((f2 r (by omega)).trans r1)
      have le:=load_cell r3 (o:=2) (v:=.int .i64 0) rfl
      have lp:=load_cell r3 (o:=1) (v:=.int .i64 (i:Nat)) rfl
      have st4:=astore_one g3 (o:=4) (x:=.int .i64 (i:Nat)) (by omega) rfl
      obtain ⟨H4,hH4,g4,n4,f4⟩:=upd g3 (.cells 31 (p.1.set 4 (.int .i64 (i:Nat))))
      rw [← hH4] at st4
      have hset:p.1.set 4 (.int .i64 (i:Nat))=tokC tk ts tn tf (i:Nat):=by rw [htk]; rfl
      rw [hset] at g4
      have ld4:=load_all (n:=5) g4 rfl
      have hO4:OutT B H4 x acc:=hO.frame (by omega) fun j h1 h2=>by rw [f4 j (by omega),f3 j (by omega),f2 j (by omega),f1 j h2 (by omega)]
      obtain ⟨x',H5,ha,hO5,f5⟩:=hO4.push (tokC tk ts tn tf (i:Nat)) ⟨rfl,rfl⟩ (by omega)
      have r5:H5.get r=some (.cells 54 (scanCells s (i:Nat) 0)):=by rw [f5 r hrB,f4 r (by omega)]; exact r3
      have sr:=astore_one r5 (o:=1) (x:=.int .i64 (p.2:Nat)) (by simp [scanCells]) rfl
      obtain ⟨H6,hH6,r6,n6,f6⟩:=upd r5 (.cells 54 ((scanCells s (i:Nat) 0).set 1 (.int .i64 (p.2:Nat))))
      rw [← hH6] at sr
      unfold tokC at ld4 ha
      simp -dsimp only [SZ,EZ,astep,aun,AVal.cells,seval,← hH2,st2,← hH3]
      refine DR.go rfl ?_
      simp -dsimp only [SZ,EZ,astep,aun,AVal.cells,seval,le,abin,bne_self_eq_false]
      refine DR.ne rfl rfl ?_
      refine DR.go rfl ?_
      simp -dsimp only [SZ,EZ,astep,aun,AVal.cells,seval,lp,st4]
      refine DR.go rfl ?_
      simp -dsimp only [SZ,EZ,astep,aun,AVal.cells,seval,ld4,Env.parts,afill,AVal.cells,LZ,ha]
      refine DR.go rfl ?_
      simp -dsimp only [SZ,EZ,astep,aun,AVal.cells,seval,sr]
      refine DR.nm rfl ?_
      refine DR.inLoop ?_
      refine ih p.2 (acc++[tokC tk ts tn tf (i:Nat)]) x' H6 (by omega) hp2 (by simp; omega) ?_ r6 ?_ ?_ ?_ ?_
      ·rw [f6 b hbr,f5 b hbB,f4 b (by omega),f3 b (by omega),f2 b (by omega),f1 b (by omega) hbr]; exact hb
      ·exact hO5.frame (by omega) fun j h1 h2=>f6 j (by omega)
      ·intro j h1 h2; rw [f6 j h2,f5 j h1,f4 j (by omega),f3 j (by omega),f2 j (by omega),f1 j (by omega) h2,hf j h1 h2]
      ·intro y Hy l h; exact hend y Hy l (by rw [toks_more hct hpl]; exact h)
      ·intro e Hy h; exact hbad e Hy (by rw [toks_more hct hpl]; exact h)
  ·have hc:decide ((i:Int) < (s.size:Int))=false:=by simp; omega
   have hpe:pass s i=i:=pass_end (byte_none (by omega))
   refine DR.go rfl ?_
   simp -dsimp only [SZ,EZ,astep,aun,AVal.cells,seval,l1,hl,hc,abin]
   refine DR.ne rfl rfl ?_
   refine DR.exit (k':=k') (by simpa [aexitTo] using hk) ?_
   exact DR.only [0,3,5] (hend x H acc (by rw [hpe]; exact toks_end (byte_none (by omega))) (by omega) hb hO hf)
end
theorem g9 {H:AHeap} {s:ByteArray} (hsz:s.size < 1000000):DCall Tryd.prog 9 [.str s] H fun a H'=>TokOut H H' a (tokens s):=by
 refine DCall.of_body (fn:=Tryd.f9) (by kernel_rfl) c9 (by kernel_rfl) (by simp [f9]) ?_
 unfold f9
 simp only []
 have hl:∀ H,alenT H 0 (.str s)=some s.size:=fun _=>rfl
 obtain ⟨H1,hH1,g1,n1,f1⟩:=psh H (.cells 26 [.int .i64 0,.int .i64 0])
 refine DR.go rfl ?_
 simp -dsimp only [SZ,EZ,astep,aun,AVal.cells,seval,← hH1]
 refine DR.nm rfl ?_
 refine DR.go rfl ?_
 simp -dsimp only [SZ,EZ,astep,aun,AVal.cells,seval,hl,abin]
 unfold tokens
 cases hbig:decide ((s.size:Int) > 65536) with
 | true=>
  rw [if_pos rfl]
  have st:=store_all (n:=2) g1 (new:=[.int .i64 3,.int .i64 0]) rfl rfl rfl
  have ld:=load_all (n:=2) (H:=H1.set H.next (.cells 26 [.int .i64 3,.int .i64 0])) (by rw [AHeap.get_set,if_pos rfl,if_pos (AHeap.get_lt g1)]) rfl
  refine DR.ye rfl rfl ?_
  refine DR.go rfl ?_
  simp -dsimp only [SZ,EZ,astep,aun,AVal.cells,seval,Env.parts,afill,AVal.cells,LZ,st]
  refine DR.nm rfl ?_
  refine DR.ret ⟨.tup [.nils,.agg [.int .i64 3,.int .i64 0]],by simp [aresult,ares,Env.get,ld],rfl,?_,fun j hj=> ?_⟩
  ·show H.next≤H1.next; omega
  ·rw [AHeap.get_set,if_neg (by omega),f1 j hj]
 | false=>
  rw [if_neg (by simp)]
  obtain ⟨H2,hH2,g2,n2,f2⟩:=psh H1 (.cells 54 [.str s,.int .i64 0,.int .i64 0])
  have gb:=(f2 H.next (by omega)).trans g1
  refine DR.ne rfl rfl ?_
  refine DR.go rfl ?_
  simp -dsimp only [SZ,EZ,astep,aun,AVal.cells,seval,Env.parts,afill,AVal.cells,LZ,List.drop_succ_cons,List.drop_zero,← hH2]
  refine DR.go rfl ?_
  simp -dsimp only [SZ,EZ,astep,aun,AVal.cells,seval]
  refine DR.nm rfl ?_
  refine DR.loop ?_
  refine loop10 (H0:=H2) (B:=H2.next) (b:=H.next) (r:=H1.next) hsz (by omega) (by omega) (by omega) rfl s.size 0 [] .nils H2 (by omega) (by omega) (by simp) gb g2 (OutT.new (Nat.le_refl _)) (fun _ _ _=>rfl) ?_ ?_
  ·intro x H3 l ht hll g3 hO f3
   rw [ht]
   obtain ⟨y,H4,ha,hO4,f4⟩:=hO.push (endTok s) ⟨rfl,rfl⟩ (by omega)
   have g4:=(f4 H.next (by omega)).trans g3
   have st:=store_all (n:=2) g4 (new:=[.int .i64 0,.int .i64 0]) rfl rfl rfl
   have ld:=load_all (n:=2) (H:=H4.set H.next (.cells 26 [.int .i64 0,.int .i64 0])) (by rw [AHeap.get_set,if_pos rfl,if_pos (AHeap.get_lt g4)]) rfl
   have hnx:=hO4.nx
   unfold endTok tokC at ha
   refine DR.go rfl ?_
   simp -dsimp only [SZ,EZ,astep,aun,AVal.cells,seval,hl,Env.parts,afill,AVal.cells,LZ,ha,st]
   refine DR.nm rfl ?_
   refine DR.ret ⟨.tup [y,.agg [.int .i64 0,.int .i64 0]],by simp [aresult,ares,Env.get,ld],⟨y,rfl,?_⟩,?_,fun j hj=> ?_⟩
   ·have hO5:OutT H2.next (H4.set H.next (.cells 26 [.int .i64 0,.int .i64 0])) y (l++[endTok s]):=hO4.frame (Nat.le_refl _) fun j h1 _=>by rw [AHeap.get_set,if_neg (by omega)]
    exact ⟨hO5.gr,fun j hj=>by have:=hO5.own j hj; omega,by have:=hO5.nx; omega⟩
   ·show H.next≤H4.next; omega
   ·rw [AHeap.get_set,if_neg (by omega),f4 j (by omega),f3 j (by omega) (by omega),f2 j (by omega),f1 j hj]
  ·intro e H3 ht ld hn f3
   rw [ht]
   exact ⟨.tup [.nils,.agg [.int .i64 e.1,.int .i64 e.2]],by simp [aresult,ares,Env.get,ld],rfl,by omega,fun j hj=>by rw [f3 j (by omega) (by omega) (by omega),f2 j (by omega),f1 j hj]⟩
end Go.Am.Rl
namespace Go.Am.Rl
open Go.Proofs
def IsTok (c:List AVal):Prop:=∃ k s n f i,c=tokC k s n f i
def RowT (H:AHeap) (x:AVal) (l:List (List AVal)):Prop:=
 (x = .nils∧l=[])∨∃ id c r,x = .sl id 0 l.length c∧H.get id=some (.cells 31 (l.flatten++r))
theorem OutT.row {B:Nat} {H:AHeap} {x:AVal} {l:List (List AVal)} (h:OutT B H x l) (hl:∀ c ∈ l,IsTok c):RowT H x l:=by
 obtain ⟨h1,⟨rfl,h2⟩ | ⟨id,rfl,h2⟩⟩:=h.gr
 ·exact .inl ⟨rfl,List.eq_nil_of_length_eq_zero h2⟩
 ·exact .inr ⟨id,none,[],rfl,by rw [List.append_nil]; exact h2⟩
theorem RowT.frame {H H':AHeap} {x:AVal} {l:List (List AVal)} (h:RowT H x l) (hf:∀ j,rid x=some j→H'.get j=H.get j):RowT H' x l:=by
 rcases h with h | ⟨id,c,r,rfl,h⟩
 ·exact .inl h
 ·exact .inr ⟨id,c,r,rfl,(hf id rfl).trans h⟩
theorem RowT.lt {H:AHeap} {x:AVal} {l:List (List AVal)} (h:RowT H x l) {j:Nat} (hj:rid x=some j):j < H.next:=by
 rcases h with ⟨rfl,_⟩ | ⟨id,c,r,rfl,h⟩
 ·cases hj
 ·simp only [rid,Option.some.injEq] at hj; subst hj; exact AHeap.get_lt h
theorem RowT.len {H:AHeap} {x:AVal} {l:List (List AVal)} (h:RowT H x l) (H':AHeap):alenT H' 1 x=some l.length:=by
 rcases h with ⟨rfl,rfl⟩ | ⟨id,c,r,rfl,h⟩ <;> rfl
theorem drop_flat {l:List (List AVal)} (hl:∀ c ∈ l,c.length=5):∀ i,l.flatten.drop (i * 5)=(l.drop i).flatten:=by
 induction l with
 | nil=>intro i; simp
 | cons c l ih=>
  intro i
  cases i with
  | zero=>simp
  | succ i=>
   have hc:=hl c (List.mem_cons_self ..)
   rw [List.flatten_cons,List.drop_succ_cons,← ih (fun c h=>hl c (List.mem_cons_of_mem _ h)) i,Nat.succ_mul,List.drop_append,hc]
   have e1:List.drop (i * 5+5) c=[]:=List.drop_eq_nil_of_le (by omega)
   rw [e1,List.nil_append,Nat.add_sub_cancel]
theorem RowT.at {H:AHeap} {x:AVal} {l:List (List AVal)} (h:RowT H x l) (hl:∀ c ∈ l,IsTok c) {i:Nat} {c:List AVal} (hi:l[i]? = some c) (H':AHeap) :
  ∃ id,aiaddr H' 5 x (.int .i64 (i:Nat))=some (.ptr id (i * 5))∧rid x=some id∧∃ t,H.get id=some (.cells 31 t)∧i * 5+5≤t.length∧t.drop (i * 5)=c++t.drop (i * 5+5)∧c.length=5:=by
 have hlt:i < l.length:=(List.getElem?_eq_some_iff.mp hi).1
 have h5:∀ c ∈ l,c.length=5:=fun c hc=>by obtain ⟨_,_,_,_,_,rfl⟩:=hl c hc; rfl
 rcases h with ⟨rfl,rfl⟩ | ⟨id,cp,r,rfl,h⟩
 ·simp at hlt
 ·have hc5:=h5 c (List.mem_of_getElem? hi)
  have hfl:l.flatten.length=l.length * 5:=by
   clear hi hlt h hl
   induction l with
   | nil=>rfl
   | cons a l ih=>rw [List.flatten_cons,List.length_append,ih (fun c h=>h5 c (List.mem_cons_of_mem _ h)),h5 a (List.mem_cons_self ..),List.length_cons]; omega
  have hd:l.drop i=c::l.drop (i+1):=by
   rw [List.drop_eq_getElem_cons hlt]
   rw [List.getElem?_eq_getElem hlt] at hi; injection hi with hi; rw [hi]
  have e1:(l.flatten++r).drop (i * 5)=c++((l.drop (i+1)).flatten++r):=by
   rw [List.drop_append_of_le_length (by omega),drop_flat h5,hd,List.flatten_cons,List.append_assoc]
  refine ⟨id,?_,rfl,_,h,?_,?_,hc5⟩
  ·simp only [aiaddr]
   rw [if_pos (by omega)]; simp
  ·rw [List.length_append]; omega
  ·rw [← List.drop_drop,e1]
   congr 1
   rw [List.drop_append,hc5,(List.drop_eq_nil_of_le (by omega):List.drop 5 c=[])]; simp
theorem load_at {H:AHeap} {id o:Nat} {t c:List AVal} (h:H.get id=some (.cells 31 t)) (hle:o+5≤t.length) (hd:t.drop o=c++t.drop (o+5)) (hc:c.length=5):aload H (some 5) (.ptr id o)=some (.agg c):=by
 have hl:(t.drop o).length=t.length - o:=List.length_drop
 simp only [aload,cellsAt,h]
 rw [if_pos (by omega)]
 obtain ⟨a,z,hz⟩:∃ a z,t.drop o=a::z:=by
  cases hz:t.drop o with
  | nil=>rw [hz] at hl; simp at hl; omega
  | cons a z=>exact ⟨a,z,rfl⟩
 have hlen:5≤(a::z).length:=by rw [← hz]; omega
 rw [hz]
 show (if 5≤(a::z).length then some (AVal.agg (List.take 5 (a::z))) else none)=_
 rw [if_pos hlen,← hz,hd,List.take_append_of_le_length (by omega),List.take_of_length_le (by omega)]
end Go.Am.Rl
namespace Go.Am.Rl
open Go.Proofs
theorem toks_all {s:ByteArray}:∀ (d i:Nat) (acc l:List (List AVal)),s.size - i≤d→i≤s.size→acc.length≤i→(∀ c ∈ acc,IsTok c)→toks s i acc = .inr l→(∀ c ∈ l,IsTok c)∧l.length≤s.size:=by
 intro d
 induction d with
 | zero=>
  intro i acc l hi his ha hacc ht
  rw [toks_end (byte_none (by omega))] at ht
  injection ht with ht; subst ht
  exact ⟨hacc,by omega⟩
 | succ d ih=>
  intro i acc l hi his ha hacc ht
  cases hc:s[i]? with
  | none=>
   rw [toks_end hc] at ht
   injection ht with ht; subst ht
   exact ⟨hacc,by omega⟩
  | some c=>
   have hm:=token_made hc (i:Nat)
   cases hk:token s i c.toNat (i:Nat) with
   | inl e=>rw [toks_bad hc hk] at ht; cases ht
   | inr p=>
    rw [hk] at hm
    obtain ⟨htok,h1,h2⟩:=hm p rfl
    have hp:=pass_le (s:=s) h2
    rw [toks_more hc hk] at ht
    refine ih (pass s p.2) (acc++[p.1]) l (by omega) hp.2 (by simp; omega) ?_ ht
    intro c hc
    rcases List.mem_append.mp hc with hc | hc
    ·exact hacc c hc
    ·rw [List.mem_singleton.mp hc]
     obtain ⟨k,s',m,f,h⟩:=htok
     exact ⟨k,s',m,f,_,h⟩
theorem tokens_all {s:ByteArray} {l:List (List AVal)} (h:tokens s = .inr l):(∀ c ∈ l,IsTok c)∧l.length≤s.size+1:=by
 unfold tokens at h
 split at h
 ·cases h
 ·cases ht:toks s (pass s 0) [] with
  | inl e=>rw [ht] at h; cases h
  | inr l'=>
   rw [ht] at h
   injection h with h; subst h
   have hp:=pass_le (s:=s) (i:=0) (by omega)
   obtain ⟨h1,h2⟩:=toks_all _ _ _ _ (Nat.le_refl _) hp.2 (by simp) (by simp) ht
   refine ⟨fun c hc=> ?_,by simp; omega⟩
   rcases List.mem_append.mp hc with hc | hc
   ·exact h1 c hc
   ·rw [List.mem_singleton.mp hc]; exact ⟨_,_,_,_,_,rfl⟩
def resErr:Res→Int × Int
 | .inl e=>e
 | .inr _=>(0,0)
def resRow:Res→List (List AVal)
 | .inl _=>[]
 | .inr l=>l
theorem res_all (s:ByteArray):(∀ c ∈ resRow (tokens s),IsTok c)∧(resRow (tokens s)).length≤s.size+1:=by
 cases h:tokens s with
 | inl e=>exact ⟨fun c hc=>(by cases hc),by simp [resRow]⟩
 | inr l=>exact tokens_all h
theorem TokOut.row {H H':AHeap} {a:AVal} {s:ByteArray} (h:TokOut H H' a (tokens s)) :
  ∃ x,a = .tup [x,.agg [.int .i64 (resErr (tokens s)).1,.int .i64 (resErr (tokens s)).2]]∧RowT H' x (resRow (tokens s))∧(∀ j,rid x=some j→H.next≤j)∧H.next≤H'.next∧∀ j,j < H.next→H'.get j=H.get j:=by
 have hall:=res_all s
 obtain ⟨h,hn,hf⟩:=h
 cases ht:tokens s with
 | inl e=>
  rw [ht] at h
  exact ⟨.nils,h,.inl ⟨rfl,rfl⟩,fun j hj=>(by cases hj),hn,hf⟩
 | inr l=>
  rw [ht] at h hall
  obtain ⟨x,h,hO⟩:=h
  exact ⟨x,h,hO.row hall.1,hO.own,hn,hf⟩
end Go.Am.Rl
