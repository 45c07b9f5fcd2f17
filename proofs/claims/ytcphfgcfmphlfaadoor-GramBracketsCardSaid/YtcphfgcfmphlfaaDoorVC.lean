/- Parts: V17, V18, V19, V20, V21, V22, V23. -/
import Derived.Test.YtcphfgcfmphlfaaDoorVB
import Derived.Test.YtcphfgcfmphlfaaDoorVX
set_option linter.unusedVariables false
set_option linter.unusedSimpArgs false
namespace Go.Am.Rl
open Go.Proofs
theorem emp (p:ByteArray):(p.toList==(⟨#[]⟩:ByteArray).toList)=decide (p.size=0):=by
 rw [Go.ByteArray.toList_eq,Go.ByteArray.toList_eq]
 have:p.size=p.data.toList.length:=by rw [Array.length_toList]; rfl
 rw [this]
 cases p.data.toList with
 | nil=>rfl
 | cons a l=>rfl
def byteCells (w:ByteArray):List AVal:=w.data.toList.map fun b=>.int .u8 b.toNat
theorem byteCells_at {w:ByteArray} {i:Nat} {b:UInt8} (h:w[i]? = some b):(byteCells w)[i]? = some (.int .u8 b.toNat):=by
 have hlt:=size_of_some h
 have h1:w.data.toList[i]? = some b:=by
  rw [getElem?_pos w i hlt] at h
  rw [Array.getElem?_toList,← h]
  show w.data[i]? = some (w.data[i]'hlt)
  rw [getElem?_pos w.data i hlt]
 unfold byteCells
 rw [List.getElem?_map,h1]; rfl
theorem byteCells_row {H:AHeap} {id:Nat} {w:ByteArray} (h:H.get id=some (.cells 5 (byteCells w))):Row H 5 (.sl id 0 w.size none) (byteCells w):=by
 have hl:(byteCells w).length=w.size:=by unfold byteCells; rw [List.length_map,Array.length_toList]; rfl
 refine ⟨?_,by rw [hl]; rfl,?_,rfl,rfl⟩
 ·simp only [sliceCells,h]
  rw [if_pos (by omega)]
  simp only [Nat.mul_one,Nat.zero_mul,List.drop_zero]
  rw [List.take_of_length_le (by omega)]
 ·simp [rowOf,h]
section
variable {H:AHeap} {s hd pt:ByteArray} {r b:Nat} {e0:Int} {a0:Int} {k k':List AItem} {Q:Env→AHeap→Prop}
theorem reg35_4 {j:Nat} (hr:H.get r=some (.cells 54 (scanCells s a0 e0))) (hsz:s.size < 1000000) (hj:j≤s.size) (h:∀ H1,H1=H→DR Tryd.prog (kof k27) 135 k [(0,.ptr r 0),(2,.ptr b 0),(4,.int .i64 (j:Nat)),(5,.str hd),(6,.str ⟨#[]⟩),(54,.bool (dotted s j))] H1 Q) :
  DR Tryd.prog (kof k27) 135 (.code (.region false r27_4 [0,2,4,5,6,54])::k) [(0,.ptr r 0),(2,.ptr b 0),(4,.int .i64 (j:Nat)),(5,.str hd),(6,.str ⟨#[]⟩)] H Q:=by
 have hl:∀ H,alenT H 0 (.str s)=some s.size:=fun _=>rfl
 have l0:=load_cell hr (o:=0) (v:=.str s) rfl
 have hw:IntKind.i64.wrap ((j:Int)+1)=((j+1:Nat):Int):=wrap64 (n:=j+1) (by omega)
 cases hc:decide (((j+1:Nat):Int) < (s.size:Int)) with
 | false=>
  have h:=h H rfl
  rw [dotted_none (byte_none (by have:=of_decide_eq_false hc; omega))] at h
  refine DR.go rfl ?_
  simp -dsimp only [SZ,EZ,astep,aun,AVal.cells,seval,l0,hl,abin,hw,hc]
  exact h
 | true=>
  have hlt:j+1 < s.size:=by have:=of_decide_eq_true hc; omega
  obtain ⟨c,hct⟩:=byte_at (s:=s) (n:=j) (by omega)
  obtain ⟨d,hdt⟩:=byte_at (s:=s) (n:=j+1) hlt
  have hx:=idx_at hct
  have hx1:=idx_at hdt
  rw [dotted_at hct hdt] at h
  cases h46:((c.toNat:Int)==46) with
  | false=>
   rw [h46] at h
   refine DR.go rfl ?_
   simp -dsimp only [SZ,EZ,astep,aun,AVal.cells,seval,l0,hl,abin,hw,hc,hx,h46]
   exact h H rfl
  | true=>
   rw [h46,Bool.true_and] at h
   refine DR.go rfl ?_
   simp -dsimp only [SZ,EZ,astep,aun,AVal.cells,seval,l0,hl,abin,hw,hc,hx,h46,hx1]
   refine (of_chk t34 d H).mono ?_
   rintro a H1 ⟨rfl,rfl⟩
   simp -dsimp only [SZ,EZ,astep,aun,AVal.cells,seval]
   exact h _ rfl
theorem reg35_8 {vj:AVal} (hsz:hd.size < 1000000) (hpz:pt.size < 1000000) (h:DR Tryd.prog (kof k27) 135 k [(0,.ptr r 0),(2,.ptr b 0),(4,vj),(5,.str hd),(6,.str pt),(91,.bool ((decide ((hd.size:Int) > 1)&&lead0 hd 0) || (!decide (pt.size=0)&&decide ((hd.size:Int)+(pt.size:Int) > 15)) || decide ((hd.size:Int) > 18)))] H Q) :
  DR Tryd.prog (kof k27) 135 (.code (.region false r27_8 [0,2,4,5,6,91])::k) [(0,.ptr r 0),(2,.ptr b 0),(4,vj),(5,.str hd),(6,.str pt)] H Q:=by
 have hl:∀ H,alenT H 0 (.str hd)=some hd.size:=fun _=>rfl
 have hlp:∀ H,alenT H 0 (.str pt)=some pt.size:=fun _=>rfl
 have hw2:IntKind.i64.wrap ((hd.size:Int)+(pt.size:Int))=(hd.size:Int)+(pt.size:Int):=by
  have:=wrap64 (n:=hd.size+pt.size) (by omega)
  rw [Int.natCast_add] at this; exact this
 have tail:∀ (B:Bool),(decide ((hd.size:Int) > 1)&&lead0 hd 0)=B→(∀ (c:UInt8),decide ((hd.size:Int) > 1)=true→hd[0]? = some c→((c.toNat:Int)==48)=B)→
   DR Tryd.prog (kof k27) 135 (.code (.region false r27_8 [0,2,4,5,6,91])::k) [(0,.ptr r 0),(2,.ptr b 0),(4,vj),(5,.str hd),(6,.str pt)] H Q:=by
  intro B hB hB2
  rw [hB] at h
  cases hc:decide ((hd.size:Int) > 1) with
  | false=>
   rw [hc,Bool.false_and] at hB
   subst hB
   rw [Bool.false_or] at h
   cases hp:decide (pt.size=0) with
   | true=>
    rw [hp] at h
    refine DR.go rfl ?_
    simp -dsimp only [SZ,EZ,astep,aun,AVal.cells,seval,hl,abin,hc,emp,hp]
    exact h
   | false=>
    rw [hp] at h
    cases h15:decide ((hd.size:Int)+(pt.size:Int) > 15) with
    | true=>
     rw [h15] at h
     refine DR.go rfl ?_
     simp -dsimp only [SZ,EZ,astep,aun,AVal.cells,seval,hl,hlp,abin,hc,emp,hp,hw2,h15]
     exact h
    | false=>
     rw [h15] at h
     refine DR.go rfl ?_
     simp -dsimp only [SZ,EZ,astep,aun,AVal.cells,seval,hl,hlp,abin,hc,emp,hp,hw2,h15]
     exact h
  | true=>
   obtain ⟨c,hct⟩:=byte_at (s:=hd) (n:=0) (by have:=of_decide_eq_true hc; omega)
   have hx:aidxS (.str hd) (.int .i64 0)=some (.int .u8 c.toNat):=idx_at (n:=0) hct
   have h48:=hB2 c hc hct
   cases B with
   | true=>
    rw [Bool.true_or,Bool.true_or] at h
    refine DR.go rfl ?_
    simp -dsimp only [SZ,EZ,astep,aun,AVal.cells,seval,hl,abin,hc,hx,h48]
    exact h
   | false=>
    rw [Bool.false_or] at h
    cases hp:decide (pt.size=0) with
    | true=>
     rw [hp] at h
     refine DR.go rfl ?_
     simp -dsimp only [SZ,EZ,astep,aun,AVal.cells,seval,hl,abin,hc,hx,h48,emp,hp]
     exact h
    | false=>
     rw [hp] at h
     cases h15:decide ((hd.size:Int)+(pt.size:Int) > 15) with
     | true=>
      rw [h15] at h
      refine DR.go rfl ?_
      simp -dsimp only [SZ,EZ,astep,aun,AVal.cells,seval,hl,hlp,abin,hc,hx,h48,emp,hp,hw2,h15]
      exact h
     | false=>
      rw [h15] at h
      refine DR.go rfl ?_
      simp -dsimp only [SZ,EZ,astep,aun,AVal.cells,seval,hl,hlp,abin,hc,hx,h48,emp,hp,hw2,h15]
      exact h
 refine tail _ rfl ?_
 intro c hc hct
 rw [hc,Bool.true_and]
 unfold lead0
 rw [hct]
theorem loop35a {x v0 v2 v4 v6:AVal} {w:ByteArray} (hrow:Row H 5 x (byteCells w)) (hsz:w.size < 1000000) (hk:aexitTo 0 k=some k') :
  ∀ (d i:Nat) (v:Int),i+d=w.size→(∀ y,y=wholeW w d i v→DR Tryd.prog (kof k27) 135 k' [(0,v0),(2,v2),(4,v4),(6,v6),(8,.int .i64 y)] H Q)→
   DR Tryd.prog (kof k27) 135 (.code l27_0::.inLoop l27_0::k) [(0,v0),(2,v2),(4,v4),(6,v6),(8,.int .i64 v),(100,x),(101,.int .i64 (w.size:Nat)),(102,.int .i64 (i:Nat))] H Q:=by
 intro d
 induction d with
 | zero=>
  intro i v hi hend
  have hc:decide ((i:Int) < (w.size:Int))=false:=by simp; omega
  refine DR.go rfl ?_
  simp -dsimp only [SZ,EZ,astep,aun,AVal.cells,seval,hc,abin]
  refine DR.ne rfl rfl ?_
  refine DR.exit (k':=k') (by simpa [aexitTo] using hk) ?_
  exact DR.only [0,2,4,6,8] (hend _ rfl)
 | succ d ih=>
  intro i v hi hend
  have hlt:i < w.size:=by omega
  have hc:decide ((i:Int) < (w.size:Int))=true:=by simp; omega
  obtain ⟨b,hbt⟩:=byte_at hlt
  have hcell:=byteCells_at hbt
  have ha:=hrow.addr H (k:=.i64) (i:=i) (List.getElem?_eq_some_iff.mp hcell).1
  have hld:=hrow.load hcell
  have hw:IntKind.i64.wrap ((i:Int)+1)=((i+1:Nat):Int):=wrap64 (n:=i+1) (by omega)
  simp only [wholeW,hbt] at hend
  refine DR.go rfl ?_
  simp -dsimp only [SZ,EZ,astep,aun,AVal.cells,seval,hc,abin]
  refine DR.ye rfl rfl ?_
  refine DR.go rfl ?_
  simp -dsimp only [SZ,EZ,astep,aun,AVal.cells,seval,ha,hld]
  refine DR.go rfl ?_
  simp -dsimp only [SZ,EZ,astep,aun,AVal.cells,seval,abin_mul,abin_sub8,abin_addI]
  refine DR.go rfl ?_
  simp -dsimp only [SZ,EZ,astep,aun,AVal.cells,seval,abin_addI,hw]
  refine DR.nm rfl ?_
  refine DR.inLoop ?_
  exact ih (i+1) _ (by omega) hend
end
section
variable {H0:AHeap} {pt:ByteArray} {it:Nat} {k k':List AItem} {Q:Env→AHeap→Prop}
theorem loop35b {v2 v4 v8:AVal} (hdig:∀ j,j < pt.size→∃ c,pt[j]? = some c∧isDig c.toNat=true) (hsz:pt.size < 16) (hk:aexitTo 2 k=some k') :
  ∀ (d i:Nat) (H:AHeap),i+d=pt.size→H.get it=some (.siter pt i)→H.next=H0.next→(∀ q,q≠it→H.get q=H0.get q)→
   (∀ H',H'.next=H0.next→(∀ q,q≠it→H'.get q=H0.get q)→DR Tryd.prog (kof k27) 135 k' [(2,v2),(4,v4),(8,v8),(11,.flt .f64 (ten10 pt.size))] H' Q)→
   DR Tryd.prog (kof k27) 135 (.code l27_1::.inLoop l27_1::k) [(2,v2),(4,v4),(8,v8),(11,.flt .f64 (ten10 i)),(124,.ptr it 0)] H Q:=by
 intro d
 induction d with
 | zero=>
  intro i H hi hit hn hf hend
  obtain rfl:i=pt.size:=by omega
  have hc:¬ pt.size < pt.size:=Nat.lt_irrefl _
  refine DR.go rfl ?_
  simp -dsimp only [SZ,EZ,astep,aun,AVal.cells,seval,hit,if_neg hc]
  refine DR.ne rfl rfl ?_
  refine DR.exit (k':=k') (by simpa [aexitTo] using hk) ?_
  exact DR.only [2,4,8,11] (hend _ hn hf)
 | succ d ih=>
  intro i H hi hit hn hf hend
  have hlt:i < pt.size:=by omega
  obtain ⟨c,hc,hcd⟩:=hdig i hlt
  have hdec:Utf8.decode pt i=(c.toNat,1):=by
   have h1:pt[i]=c:=by rw [getElem?_pos pt i hlt] at hc; injection hc
   have h2:c.toNat < 128:=by unfold isDig at hcd; simp at hcd; omega
   rw [Go.decode_ascii pt i hlt (by rw [h1]; exact h2),h1]
  have hm:=abin_ten (n:=i) (by omega)
  refine DR.go rfl ?_
  simp -dsimp only [SZ,EZ,astep,aun,AVal.cells,seval,hit,if_pos hlt,hdec]
  refine DR.ye rfl rfl ?_
  refine DR.go rfl ?_
  simp -dsimp only [SZ,EZ,astep,aun,AVal.cells,seval,hm]
  refine DR.nm rfl ?_
  refine DR.inLoop ?_
  refine ih (i+1) _ (by omega) ?_ ?_ ?_ hend
  ·rw [AHeap.get_set,if_pos rfl,if_pos (AHeap.get_lt hit)]
  ·exact hn
  ·intro q hq; rw [AHeap.get_set,if_neg hq,hf q hq]
end
end Go.Am.Rl
namespace Go.Am.Rl
open Go.Proofs
section
variable {H H1:AHeap} {s hd pt:ByteArray} {r i j:Nat} {e0:Int} {k:List AItem}
theorem err35 {v4 v5 v6 v91:AVal} (h4:∃ m,v4 = .int .i64 m) (hrl:r < H.next) (hn:H.next < H1.next) (hr:H1.get r=some (.cells 54 (scanCells s (i:Nat) e0))) (g1:H1.get H.next=some (.cells 31 tok0)) (f1:∀ j,j < H.next→H1.get j=H.get j) :
  DR Tryd.prog (kof k27) 135 (.code (.seq (.region false r27_9 [2,4]) (.seq (.region false r27_10 [2,3]) .ret))::k) [(0,.ptr r 0),(2,.ptr H.next 0),(4,v4),(5,v5),(6,v6),(91,v91)] H1 fun T' H'=>∃ a,aresult H' T' [.cell 2 (some 5),.tmp 3]=some a∧Told H H' r s i e0 a (.inl 22):=by
 obtain ⟨m,rfl⟩:=h4
 have sr:=astore_one hr (o:=2) (x:=.int .i64 22) (by simp [scanCells]) rfl
 obtain ⟨H2,hH2⟩:∃ H2,H2=H1.set r (.cells 54 ((scanCells s (i:Nat) e0).set 2 (.int .i64 22))):=⟨_,rfl⟩
 rw [← hH2] at sr
 have r2:H2.get r=some (.cells 54 (scanCells s (i:Nat) 22)):=by rw [hH2,AHeap.get_set,if_pos rfl,if_pos (AHeap.get_lt hr)]; rfl
 have f2:∀ j,j≠r→H2.get j=H1.get j:=fun j hj=>by rw [hH2,AHeap.get_set,if_neg hj]
 have hn2:H2.next=H1.next:=by rw [hH2]; rfl
 have g2:H2.get H.next=some (.cells 31 tok0):=(f2 _ (by omega)).trans g1
 have st:=store_all (n:=5) g2 (new:=tok0) rfl rfl rfl
 have ge:(H2.set H.next (.cells 31 tok0)).get H.next=some (.cells 31 tok0):=by rw [AHeap.get_set,if_pos rfl,if_pos (AHeap.get_lt g2)]
 have hld:=load_all (n:=5) ge rfl
 unfold tok0 at st
 refine DR.go rfl ?_
 simp -dsimp only [SZ,EZ,astep,aun,AVal.cells,seval,sr]
 refine DR.go rfl ?_
 simp -dsimp only [SZ,EZ,astep,aun,AVal.cells,seval,Env.parts,afill,st]
 refine DR.nm rfl ?_
 refine DR.ret ?_
 refine ⟨.tup [.agg tok0,.int .i64 m],?_,⟨⟨_,_,rfl,rfl,rfl⟩,?_⟩,?_,fun j hj hne=> ?_⟩
 ·have hld':aload (H2.set H.next (.cells 31 [.int .i64 0,.str ⟨#[]⟩,.int .i64 0,.flt .f64 0,.int .i64 0])) (some 5) (.ptr H.next 0)=_:=hld
  simp [aresult,ares,Env.get,hld']
 ·rw [AHeap.get_set,if_neg (by omega)]; exact r2
 ·show H.next≤H2.next; omega
 ·rw [AHeap.get_set,if_neg (by omega),f2 j hne,f1 j hj]
end
theorem app_empty (s:ByteArray):s++(⟨#[]⟩:ByteArray)=s:=ByteArray.append_empty
theorem cat_small {a b:ByteArray} (h:a.size+b.size < 1000000):abin .add (.str a) (.str b)=some (.str (a++b)):=by
 have hm:IntKind.i64.max=9223372036854775807:=by decide
 simp only [abin]
 rw [hm,if_neg (by omega)]
theorem dotted_next {s:ByteArray} {j:Nat} (h:dotted s j=true):∃ d,s[j+1]? = some d∧isDig d.toNat=true:=by
 cases h1:s[j+1]? with
 | none=>rw [dotted_none h1] at h; cases h
 | some d=>
  cases h0:s[j]? with
  | none=>unfold dotted at h; rw [h0] at h; cases h
  | some c=>
   rw [dotted_at h0 h1,Bool.and_eq_true] at h
   exact ⟨d,rfl,h.2⟩
theorem ext_at {s:ByteArray} {a b k:Nat} (hb:b≤s.size) (hk:k < b - a):(s.extract a b)[k]? = s[a+k]? :=by
 have hsz:(s.extract a b).size=b - a:=size_ext hb
 rw [getElem?_pos (s.extract a b) k (by omega),getElem?_pos s (a+k) (by omega),ByteArray.getElem_extract]
theorem g27 {H:AHeap} {r:Nat} {s:ByteArray} {i:Nat} {e0:Int} (hr:H.get r=some (.cells 54 (scanCells s (i:Nat) e0))) (hsz:s.size < 1000000) (hi:i≤s.size) :
  DCall Tryd.prog 27 [.ptr r 0] H fun a H'=>Told H H' r s i e0 a (numTok s i 0):=by
 refine DCall.of_body (fn:=Tryd.f27) (by kernel_rfl) c27 (by kernel_rfl) (by simp [f27]) ?_
 unfold f27
 simp only []
 obtain ⟨H1,hH1⟩:∃ H1,H1=H.push (.cells 31 [.int .i64 0,.str ⟨#[]⟩,.int .i64 0,.flt .f64 0,.int .i64 0]):=⟨_,rfl⟩
 have hrl:=AHeap.get_lt hr
 have n1:H1.next=H.next+1:=by rw [hH1]; rfl
 have g1:H1.get H.next=some (.cells 31 tok0):=by rw [hH1,AHeap.get_push,if_pos rfl]; rfl
 have f1:∀ j,j < H.next→H1.get j=H.get j:=fun j hj=>by rw [hH1,AHeap.get_push,if_neg (by omega)]
 have r1:H1.get r=some (.cells 54 (scanCells s (i:Nat) e0)):=(f1 r hrl).trans hr
 have l0:=load_cell r1 (o:=0) (v:=.str s) rfl
 have l1:=load_cell r1 (o:=1) (v:=.int .i64 (i:Nat)) rfl
 refine DR.go rfl ?_
 simp -dsimp only [SZ,EZ,astep,aun,AVal.cells,seval,← hH1]
 clear hH1
 obtain ⟨j,hj⟩:∃ j,j=skip isDig s i:=⟨_,rfl⟩
 have hjle:i≤j∧j≤s.size:=by rw [hj]; exact skip_le hi
 have hsl:∀ T:Env,T.get 25=some (.int .i64 (i:Nat))→T.get 26=some (.int .i64 (j:Nat))→aslcS T (.str s) (some (.t 25)) (some (.t 26))=some (.str (s.extract i j)):=fun T e1 e2=>slc_both e1 e2 (by omega) hjle.2
 obtain ⟨hd,hhd⟩:∃ hd,hd=s.extract i j:=⟨_,rfl⟩
 have hds:hd.size=j - i:=by rw [hhd,size_ext hjle.2]
 have hnum:numTok s i 0=numAt s hd j 0:=by unfold numTok; rw [← hj,hhd]
 rw [hnum]
 unfold numAt
 refine DR.go rfl ?_
 simp -dsimp only [SZ,EZ,astep,aun,AVal.cells,seval,l1]
 refine (g17 r1 (fun b H=>of_chk t34 b H) (by omega) i).mono ?_
 rintro a H1 ⟨rfl,rfl⟩
 simp -dsimp only [SZ,EZ,astep,aun,AVal.cells,seval]
 rw [← hj]
 refine DR.nm rfl ?_
 refine DR.draw (by kernel_rfl) d27_2 ?_
 simp -dsimp only [m27_2,SZ,EZ,astep,aun,AVal.cells,seval,DS_nil,DS_cons,seesAll,staysAll,abit,List.getD_cons_zero,List.getD_cons_succ,AOp.quiet,AOp.reads,true_and,and_true,decide_true,decide_false,and_self,l0,l1]
 rw [hsl _ rfl rfl,← hhd]
 simp -dsimp only [SZ,EZ,astep,aun,AVal.cells,seval]
 refine DR.go rfl ?_
 simp -dsimp only [SZ,EZ,astep,aun,AVal.cells,seval]
 refine DR.nm rfl ?_
 refine reg35_4 r1 hsz hjle.2 ?_
 rintro H1 rfl
 cases h7:dotted s j with
 | false=>
  rw [if_neg (show ¬ false=true by simp)]
  refine DR.ne rfl rfl ?_
  refine DR.nm rfl ?_
  refine DR.only [0,2,4,5,6] ?_
  refine reg35_8 (pt:=⟨#[]⟩) (by omega) (show 0 < 1000000 by omega) ?_
  have he:(⟨#[]⟩:ByteArray).size=0:=rfl
  rw [he,show (!decide (0=0))=false by rfl,Bool.false_and,Bool.or_false]
  cases h5:(decide ((hd.size:Int) > 1)&&lead0 hd 0) with
  | true=>
   rw [if_pos rfl,Bool.true_or]
   refine DR.ye rfl rfl ?_
   exact err35 ⟨_,rfl⟩ hrl (by omega) r1 g1 f1
  | false=>
   rw [if_neg (by simp),Bool.false_or]
   unfold numI
   cases h18:decide ((hd.size:Int) > 18) with
   | true=>
    rw [Bool.true_or,if_pos rfl]
    refine DR.ye rfl rfl ?_
    exact err35 ⟨_,rfl⟩ hrl (by omega) r1 g1 f1
   | false=>
    rw [Bool.false_or]
    obtain ⟨H2,hH2⟩:∃ H2,H2=H1.push (.cells 5 (hd.data.toList.map fun b=>AVal.int .u8 b.toNat)):=⟨_,rfl⟩
    have hrow:Row H2 5 (.sl H1.next 0 hd.size none) (byteCells hd):=byteCells_row (by rw [hH2,AHeap.get_push,if_pos rfl]; rfl)
    have f2:∀ j,j < H1.next→H2.get j=H1.get j:=fun j hj=>by rw [hH2,AHeap.get_push,if_neg (by omega)]
    have n2:H2.next=H1.next+1:=by rw [hH2]; rfl
    have hcat:=cat_small (a:=hd) (b:=⟨#[]⟩) (by rw [he]; omega)
    rw [app_empty] at hcat
    have h63:hd.size < 9223372036854775808:=by omega
    have hlh:∀ H b,alenT H 1 (.sl b 0 hd.size none)=some hd.size:=fun _ _=>rfl
    have r2:=(f2 r (by omega)).trans r1
    have g2:=(f2 H.next (by omega)).trans g1
    refine DR.ne rfl rfl ?_
    refine DR.go rfl ?_
    simp -dsimp only [SZ,EZ,astep,aun,AVal.cells,seval]
    refine DR.go rfl ?_
    simp -dsimp only [SZ,EZ,astep,aun,AVal.cells,seval,hcat,if_pos h63,← hH2,hlh]
    clear hH2
    refine DR.nm rfl ?_
    refine DR.loop ?_
    refine loop35a hrow (by omega) rfl hd.size 0 0 (by omega) ?_
    intro y hy
    have hyw:y=whole hd:=hy
    rw [← hyw]
    refine DR.go rfl ?_
    simp -dsimp only [SZ,EZ,astep,aun,AVal.cells,seval,abin,emp,he]
    refine DR.ye rfl rfl ?_
    refine DR.go rfl ?_
    simp -dsimp only [SZ,EZ,astep,aun,AVal.cells,seval,abin]
    cases hmax:decide (y > 576460752303423487) with
    | true=>
     rw [if_pos rfl]
     have sr:=astore_one r2 (o:=2) (x:=.int .i64 22) (by simp [scanCells]) rfl
     obtain ⟨H3,hH3⟩:∃ H3,H3=H2.set r (.cells 54 ((scanCells s (i:Nat) e0).set 2 (.int .i64 22))):=⟨_,rfl⟩
     rw [← hH3] at sr
     have r3:H3.get r=some (.cells 54 (scanCells s (i:Nat) 22)):=by rw [hH3,AHeap.get_set,if_pos rfl,if_pos (AHeap.get_lt r2)]; rfl
     have f3:∀ j,j≠r→H3.get j=H2.get j:=fun j hj=>by rw [hH3,AHeap.get_set,if_neg hj]
     have hn3:H3.next=H2.next:=by rw [hH3]; rfl
     have g3:H3.get H.next=some (.cells 31 tok0):=(f3 _ (by omega)).trans g2
     have st:=store_all (n:=5) g3 (new:=tokC 3 ⟨#[]⟩ y 0 0) rfl rfl rfl
     have ge:(H3.set H.next (.cells 31 (tokC 3 ⟨#[]⟩ y 0 0))).get H.next=some (.cells 31 (tokC 3 ⟨#[]⟩ y 0 0)):=by rw [AHeap.get_set,if_pos rfl,if_pos (AHeap.get_lt g3)]
     have hld:=load_all (n:=5) ge rfl
     unfold tokC at st
     refine DR.ye rfl rfl ?_
     refine DR.go rfl ?_
     simp -dsimp only [SZ,EZ,astep,aun,AVal.cells,seval,sr]
     refine DR.go rfl ?_
     simp -dsimp only [SZ,EZ,astep,aun,AVal.cells,seval,Env.parts,afill,AVal.cells,LZ,st]
     refine DR.nm rfl ?_
     refine DR.ret ?_
     refine ⟨.tup [.agg (tokC 3 ⟨#[]⟩ y 0 0),.int .i64 (j:Nat)],?_,⟨⟨_,_,rfl,rfl,rfl⟩,?_⟩,?_,fun q hq hne=> ?_⟩
     ·have hld':aload (H3.set H.next (.cells 31 [.int .i64 3,.str ⟨#[]⟩,.int .i64 y,.flt .f64 0,.int .i64 0])) (some 5) (.ptr H.next 0)=_:=hld
      simp [aresult,ares,Env.get,hld']
     ·rw [AHeap.get_set,if_neg (by omega)]; exact r3
     ·show H.next≤H3.next; omega
     ·rw [AHeap.get_set,if_neg (by omega),f3 q hne,f2 q (by omega),f1 q hq]
    | false=>
     rw [if_neg (by simp)]
     have st:=store_all (n:=5) g2 (new:=tokC 3 ⟨#[]⟩ y 0 0) rfl rfl rfl
     have ge:(H2.set H.next (.cells 31 (tokC 3 ⟨#[]⟩ y 0 0))).get H.next=some (.cells 31 (tokC 3 ⟨#[]⟩ y 0 0)):=by rw [AHeap.get_set,if_pos rfl,if_pos (AHeap.get_lt g2)]
     have hld:=load_all (n:=5) ge rfl
     unfold tokC at st
     refine DR.ne rfl rfl ?_
     refine DR.go rfl ?_
     simp -dsimp only [SZ,EZ,astep,aun,AVal.cells,seval,Env.parts,afill,AVal.cells,LZ,st]
     refine DR.nm rfl ?_
     refine DR.ret ?_
     refine ⟨.tup [.agg (tokC 3 ⟨#[]⟩ y 0 0),.int .i64 (j:Nat)],?_,⟨rfl,?_⟩,?_,fun q hq hne=> ?_⟩
     ·have hld':aload (H2.set H.next (.cells 31 [.int .i64 3,.str ⟨#[]⟩,.int .i64 y,.flt .f64 0,.int .i64 0])) (some 5) (.ptr H.next 0)=_:=hld
      simp [aresult,ares,Env.get,hld']
     ·rw [AHeap.get_set,if_neg (by omega)]; exact r2
     ·show H.next≤H2.next; omega
     ·rw [AHeap.get_set,if_neg (by omega),f2 q (by omega),f1 q hq]
 | true=>
  rw [if_pos (show true=true by rfl)]
  obtain ⟨d,hdt,hdd⟩:=dotted_next h7
  have hjlt:=size_of_some hdt
  have hw:IntKind.i64.wrap ((j:Int)+1)=((j+1:Nat):Int):=wrap64 (n:=j+1) (by omega)
  obtain ⟨e,he⟩:∃ e,e=skip isDig s (j+1):=⟨_,rfl⟩
  have hele:j+1≤e∧e≤s.size:=by rw [he]; exact skip_le (by omega)
  have helt:j+1+1≤e:=by rw [he]; exact skip_next hdt hdd
  have hsl2:∀ T:Env,T.get 64=some (.int .i64 ((j+1:Nat):Int))→T.get 65=some (.int .i64 (e:Nat))→aslcS T (.str s) (some (.t 64)) (some (.t 65))=some (.str (s.extract (j+1) e)):=fun T e1 e2=>slc_both e1 e2 (by omega) hele.2
  obtain ⟨pt,hpt⟩:∃ pt,pt=s.extract (j+1) e:=⟨_,rfl⟩
  have hps:pt.size=e - (j+1):=by rw [hpt,size_ext hele.2]
  have hdig:∀ q,q < pt.size→∃ c,pt[q]? = some c∧isDig c.toNat=true:=by
   intro q hq
   rw [hpt,ext_at hele.2 (by omega)]
   refine skipW_all (n:=s.size - (j+1)) (i:=j+1) (by omega) ?_
   have:skipW isDig s (s.size - (j+1)) (j+1)=e:=he.symm
   rw [this]; omega
  rw [← he,← hpt]
  refine DR.ye rfl rfl ?_
  refine DR.go rfl ?_
  simp -dsimp only [SZ,EZ,astep,aun,AVal.cells,seval,abin_addI,hw]
  refine DR.go rfl ?_
  simp -dsimp only [SZ,EZ,astep,aun,AVal.cells,seval]
  refine (g17 r1 (fun b H=>of_chk t34 b H) (by omega) (j+1)).mono ?_
  rintro a H1 ⟨rfl,rfl⟩
  simp -dsimp only [SZ,EZ,astep,aun,AVal.cells,seval]
  rw [← he]
  refine DR.go rfl ?_
  simp -dsimp only [SZ,EZ,astep,aun,AVal.cells,seval,l0]
  rw [hsl2 _ rfl rfl,← hpt]
  simp -dsimp only [SZ,EZ,astep,aun,AVal.cells,seval]
  refine DR.nm rfl ?_
  refine reg35_8 (by omega) (by omega) ?_
  have hp0:decide (pt.size=0)=false:=decide_eq_false (by omega)
  rw [hp0,Bool.not_false,Bool.true_and]
  cases h5:(decide ((hd.size:Int) > 1)&&lead0 hd 0) with
  | true=>
   rw [if_pos rfl,Bool.true_or,Bool.true_or]
   refine DR.ye rfl rfl ?_
   exact err35 ⟨_,rfl⟩ hrl (by omega) r1 g1 f1
  | false=>
   rw [if_neg (by simp),Bool.false_or]
   unfold numF
   cases h15:decide ((hd.size:Int)+(pt.size:Int) > 15) with
   | true=>
    rw [Bool.true_or,if_pos rfl]
    refine DR.ye rfl rfl ?_
    exact err35 ⟨_,rfl⟩ hrl (by omega) r1 g1 f1
   | false=>
    have h16:hd.size+pt.size < 16:=by have:=of_decide_eq_false h15; omega
    have h18:decide ((hd.size:Int) > 18)=false:=by simp; omega
    rw [h18,Bool.false_or,if_neg (by simp)]
    obtain ⟨w,hwd⟩:∃ w,w=hd++pt:=⟨_,rfl⟩
    have hws:w.size=hd.size+pt.size:=by rw [hwd,ByteArray.size_append]
    obtain ⟨H2,hH2⟩:∃ H2,H2=H1.push (.cells 5 (w.data.toList.map fun b=>AVal.int .u8 b.toNat)):=⟨_,rfl⟩
    have hrow:Row H2 5 (.sl H1.next 0 w.size none) (byteCells w):=byteCells_row (by rw [hH2,AHeap.get_push,if_pos rfl]; rfl)
    have f2:∀ j,j < H1.next→H2.get j=H1.get j:=fun j hj=>by rw [hH2,AHeap.get_push,if_neg (by omega)]
    have n2:H2.next=H1.next+1:=by rw [hH2]; rfl
    have hcat:=cat_small (a:=hd) (b:=pt) (by omega)
    rw [← hwd] at hcat
    have h63:w.size < 9223372036854775808:=by omega
    have hlh:∀ H b,alenT H 1 (.sl b 0 w.size none)=some w.size:=fun _ _=>rfl
    obtain ⟨H3,hH3⟩:∃ H3,H3=H2.push (.siter pt 0):=⟨_,rfl⟩
    have f3:∀ j,j < H2.next→H3.get j=H2.get j:=fun j hj=>by rw [hH3,AHeap.get_push,if_neg (by omega)]
    have n3:H3.next=H2.next+1:=by rw [hH3]; rfl
    have i3:H3.get H2.next=some (.siter pt 0):=by rw [hH3,AHeap.get_push,if_pos rfl]
    refine DR.ne rfl rfl ?_
    refine DR.go rfl ?_
    simp -dsimp only [SZ,EZ,astep,aun,AVal.cells,seval]
    refine DR.go rfl ?_
    simp -dsimp only [SZ,EZ,astep,aun,AVal.cells,seval,hcat,if_pos h63,← hH2,hlh]
    refine DR.nm rfl ?_
    refine DR.loop ?_
    refine loop35a hrow (by omega) rfl w.size 0 0 (by omega) ?_
    intro y hy
    have hyw:y=whole w:=hy
    rw [← hwd,← hyw]
    refine DR.go rfl ?_
    simp -dsimp only [SZ,EZ,astep,aun,AVal.cells,seval,abin,emp,hp0]
    refine DR.ne rfl rfl ?_
    refine DR.go rfl ?_
    simp -dsimp only [SZ,EZ,astep,aun,AVal.cells,seval]
    refine DR.go rfl ?_
    simp -dsimp only [SZ,EZ,astep,aun,AVal.cells,seval,← hH3]
    refine DR.nm rfl ?_
    refine DR.loop ?_
    refine loop35b (H0:=H3) hdig (by omega) rfl pt.size 0 H3 (by omega) i3 rfl (fun _ _=>rfl) ?_
    intro H4 hn4 f4
    have g4:H4.get H.next=some (.cells 31 tok0):=by rw [f4 _ (by omega),f3 _ (by omega),f2 _ (by omega),g1]
    have r4:H4.get r=some (.cells 54 (scanCells s (i:Nat) e0)):=by rw [f4 _ (by omega),f3 _ (by omega),f2 _ (by omega),r1]
    have hq:=abin_quo y (n:=pt.size) (by omega)
    have st:=store_all (n:=5) g4 (new:=tokC 4 ⟨#[]⟩ 0 (quoW y pt.size) 0) rfl rfl rfl
    have ge:(H4.set H.next (.cells 31 (tokC 4 ⟨#[]⟩ 0 (quoW y pt.size) 0))).get H.next=some (.cells 31 (tokC 4 ⟨#[]⟩ 0 (quoW y pt.size) 0)):=by rw [AHeap.get_set,if_pos rfl,if_pos (AHeap.get_lt g4)]
    have hld:=load_all (n:=5) ge rfl
    unfold tokC at st
    refine DR.go rfl ?_
    simp -dsimp only [SZ,EZ,astep,aun,AVal.cells,seval,hq,Env.parts,afill,AVal.cells,LZ,st]
    refine DR.nm rfl ?_
    refine DR.ret ?_
    refine ⟨.tup [.agg (tokC 4 ⟨#[]⟩ 0 (quoW y pt.size) 0),.int .i64 (e:Nat)],?_,⟨rfl,?_⟩,?_,fun q hq hne=> ?_⟩
    ·have hld':aload (H4.set H.next (.cells 31 [.int .i64 4,.str ⟨#[]⟩,.int .i64 0,.flt .f64 (quoW y pt.size),.int .i64 0])) (some 5) (.ptr H.next 0)=_:=hld
     simp [aresult,ares,Env.get,hld']
    ·rw [AHeap.get_set,if_neg (by omega)]; exact r4
    ·show H.next≤H4.next; omega
    ·rw [AHeap.get_set,if_neg (by omega),f4 q (by omega),f3 q (by omega),f2 q (by omega),f1 q hq]
end Go.Am.Rl
namespace Go.Am.Rl
open Go.Proofs
theorem upd {H:AHeap} {id:Nat} {b0:ABlk} (g:H.get id=some b0) (b:ABlk):∃ H',H'=H.set id b∧H'.get id=some b∧H'.next=H.next∧∀ j,j≠id→H'.get j=H.get j:=
 ⟨_,rfl,by rw [AHeap.get_set,if_pos rfl,if_pos (AHeap.get_lt g)],rfl,fun j hj=>by rw [AHeap.get_set,if_neg hj]⟩
theorem psh (H:AHeap) (b:ABlk):∃ H',H'=H.push b∧H'.get H.next=some b∧H'.next=H.next+1∧∀ j,j < H.next→H'.get j=H.get j:=
 ⟨_,rfl,by rw [AHeap.get_push,if_pos rfl],rfl,fun j hj=>by rw [AHeap.get_push,if_neg (by omega)]⟩
abbrev Tok:=Int ⊕ (List AVal × Nat)
def isName (c:Nat):Bool:=isLow c || isUp c || ((c:Int)==95)
def lowTok (w:ByteArray) (e:Nat) (pl:Int):Tok:=
 if kept w=true then .inr (tokC 7 w 0 0 pl,e)
 else if decide ((w.size:Int) > 64)=true then .inl 23
 else .inr (tokC 1 w 0 0 pl,e)
def nameTok (s:ByteArray) (i c:Nat) (pl:Int):Tok:=
 if isLow c=true then lowTok (s.extract i (skip isNam s i)) (skip isNam s i) pl else .inr (tokC 2 (s.extract i (skip isNam s i)) 0 0 pl,skip isNam s i)
def bitTok (s:ByteArray) (i:Nat) (pl:Int):Tok:=match bits s i with
 | some f=>.inr (tokC 4 ⟨#[]⟩ 0 f pl,i+17)
 | none=>.inl 22
def quoTok (s:ByteArray) (i c:Nat) (pl:Int):Tok:=match quote s (c:Int) i with
 | none=>.inl 23
 | some p=>if ((c:Int)==39)=true then (if decide ((p.1.size:Int) > 64)=true then .inl 23 else .inr (tokC 1 p.1 0 0 pl,p.2)) else .inr (tokC 5 p.1 0 0 pl,p.2)
def signTok (s:ByteArray) (i:Nat) (pl:Int):Tok:=if decide ((signAt s i).size=0)=true then .inl 21 else .inr (tokC 6 (signAt s i) 0 0 pl,i+(signAt s i).size)
def token (s:ByteArray) (i c:Nat) (pl:Int):Tok:=
 if isName c=true then nameTok s i c pl
 else if isDig c=true then numTok s i pl
 else if ((c:Int)==35)=true then bitTok s i pl
 else if (((c:Int)==39) || ((c:Int)==34))=true then quoTok s i c pl
 else signTok s i pl
def withPl (pl:Int):Tok→Tok
 | .inl e=>.inl e
 | .inr p=>.inr (p.1.set 4 (.int .i64 pl),p.2)
theorem numTok_pl (s:ByteArray) (i:Nat) (pl:Int):withPl pl (numTok s i 0)=numTok s i pl:=by
 unfold numTok numAt numF numI
 repeat' split
 all_goals rfl
theorem nameTok_pl (s:ByteArray) (i c:Nat) (pl:Int):withPl pl (nameTok s i c 0)=nameTok s i c pl:=by
 unfold nameTok lowTok
 repeat' split
 all_goals rfl
theorem bitTok_pl (s:ByteArray) (i:Nat) (pl:Int):withPl pl (bitTok s i 0)=bitTok s i pl:=by
 unfold bitTok
 split
 all_goals rfl
theorem quoTok_pl (s:ByteArray) (i c:Nat) (pl:Int):withPl pl (quoTok s i c 0)=quoTok s i c pl:=by
 unfold quoTok
 repeat' split
 all_goals rfl
theorem signTok_pl (s:ByteArray) (i:Nat) (pl:Int):withPl pl (signTok s i 0)=signTok s i pl:=by
 unfold signTok
 repeat' split
 all_goals rfl
theorem token_pl (s:ByteArray) (i c:Nat) (pl:Int):withPl pl (token s i c 0)=token s i c pl:=by
 unfold token
 rw [← numTok_pl s i pl,← nameTok_pl s i c pl,← bitTok_pl s i pl,← quoTok_pl s i c pl,← signTok_pl s i pl]
 repeat' split
 all_goals rfl
def Made (i n:Nat) (t:Tok) (pl:Int):Prop:=∀ p,t = .inr p→(∃ k s m f,p.1=tokC k s m f pl)∧i < p.2∧p.2≤n
theorem Made.one {i n:Nat} {k:Int} {s:ByteArray} {m:Int} {f:Nat} {pl:Int} {e:Nat} (h1:i < e) (h2:e≤n):Made i n (.inr (tokC k s m f pl,e)) pl:=by
 intro p hp; injection hp with hp; subst hp; exact ⟨⟨_,_,_,_,rfl⟩,h1,h2⟩
theorem Made.err {i n:Nat} {e pl:Int}:Made i n (.inl e) pl:=fun p hp=>by cases hp
theorem signIn_le {s:ByteArray} {i:Nat} (hi:i≤s.size):∀ l:List ByteArray,i+(signIn s i l).size≤s.size
 | []=>by show i+0≤s.size; omega
 | g::r=>by
  unfold signIn
  split
  ·rename_i h
   unfold stands at h
   rw [Bool.and_eq_true] at h
   exact of_decide_eq_true h.1
  ·exact signIn_le hi r
theorem signAt_le {s:ByteArray} {i:Nat} (hi:i≤s.size):i+(signAt s i).size≤s.size:=signIn_le hi signs
theorem name_nam {c:Nat} (h:isName c=true):isNam c=true:=by
 unfold isName at h
 unfold isNam
 cases h1:isLow c with
 | true=>rfl
 | false=>
  cases h2:isUp c with
  | true=>rfl
  | false=>
   rw [h1,h2] at h
   have:(c:Int)=95:=eq_of_beq h
   have:c=95:=by omega
   subst this; rfl
theorem token_made {s:ByteArray} {i:Nat} {c:UInt8} (hc:s[i]? = some c) (pl:Int):Made i s.size (token s i c.toNat pl) pl:=by
 have hi:=size_of_some hc
 unfold token
 split
 ·rename_i h
  have h1:=skip_next hc (name_nam h)
  have h2:=(skip_le (p:=isNam) (s:=s) (i:=i) (by omega)).2
  unfold nameTok lowTok
  repeat' split
  all_goals first | exact Made.err | exact Made.one (by omega) h2
 ·split
  ·rename_i h
   have h1:=skip_next hc h
   have h2:=(skip_le (p:=isDig) (s:=s) (i:=i) (by omega)).2
   unfold numTok numAt
   split
   ·exact Made.err
   ·split
    ·rename_i hd
     obtain ⟨d,hdt,_⟩:=dotted_next hd
     have h3:=size_of_some hdt
     have h4:=skip_le (p:=isDig) (s:=s) (i:=skip isDig s i+1) (by omega)
     unfold numF
     split
     ·exact Made.err
     ·exact Made.one (by omega) (by omega)
    ·unfold numI
     split
     ·exact Made.err
     ·exact Made.one (by omega) (by omega)
  ·split
   ·unfold bitTok
    cases hb:bits s i with
    | none=>exact Made.err
    | some f=>
     refine Made.one (by omega) ?_
     rcases Nat.lt_or_ge s.size (i+17) with h | h
     ·rw [bits_small h] at hb; cases hb
     ·exact h
   ·split
    ·unfold quoTok
     cases hq:quote s (c.toNat:Int) i with
     | none=>exact Made.err
     | some p=>
      have:=quoteW_le hq
      dsimp only
      repeat' split
      all_goals first | exact Made.err | exact Made.one (by omega) (by omega)
    ·unfold signTok
     split
     ·exact Made.err
     ·rename_i h
      have h:¬ (signAt s i).size=0:=fun e=>h (decide_eq_true e)
      have hle:=signAt_le (s:=s) (i:=i) (by omega)
      exact Made.one (by omega) hle
end Go.Am.Rl
namespace Go.Am.Rl
open Go.Proofs
theorem res35 {H:AHeap} {b:Nat} {cs:List AVal} (g:H.get b=some (.cells 31 cs)) (hl:cs.length=5) (X:List AVal) (h1:X.length=5) (h2:ones X=true) :
  astore H 5 (.ptr b 0) (.agg X)=some (H.set b (.cells 31 X))∧aload (H.set b (.cells 31 X)) (some 5) (.ptr b 0)=some (.agg X):=
 ⟨store_all (n:=5) g (by omega) h2 hl,load_all (n:=5) (by rw [AHeap.get_set,if_pos rfl,if_pos (AHeap.get_lt g)]) h1⟩
theorem Made.cells {i n:Nat} {pl:Int} {p:List AVal × Nat} (h:Made i n (.inr p) pl):p.1.length=5∧ones p.1=true:=by
 obtain ⟨⟨k,s,m,f,hp⟩,_⟩:=h p rfl
 rw [hp]; exact ⟨rfl,rfl⟩
section
variable {H:AHeap} {s:ByteArray} {i b c:Nat} {k:List AItem} {Q:Env→AHeap→Prop}
end
end Go.Am.Rl
namespace Go.Am.Rl
open Go.Proofs
end Go.Am.Rl
namespace Go.Am.Rl
open Go.Proofs
theorem Told.end {H Hk:AHeap} {r b:Nat} {s:ByteArray} {i:Nat} {X:List AVal} {j:Nat} (hrl:r < H.next) (hb:b=H.next) (g:Hk.get b=some (.cells 31 tok0)) (hr:Hk.get r=some (.cells 54 (scanCells s (i:Nat) 0))) (hn:H.next≤Hk.next) (hf:∀ q,q < H.next→q≠r→Hk.get q=H.get q) :
  Told H (Hk.set b (.cells 31 X)) r s i 0 (.tup [.agg X,.int .i64 (j:Nat)]) (.inr (X,j)):=by
 subst hb
 refine ⟨⟨rfl,?_⟩,hn,fun q hq hne=> ?_⟩
 ·rw [AHeap.get_set,if_neg (by omega)]; exact hr
 ·rw [AHeap.get_set,if_neg (by omega),hf q hq hne]
theorem Told.bad {H Hk:AHeap} {r b:Nat} {s:ByteArray} {i:Nat} {X:List AVal} {j e:Int} (hX:X.length=5∧ones X=true) (hrl:r < H.next) (hb:b=H.next) (g:Hk.get b=some (.cells 31 tok0)) (hr:Hk.get r=some (.cells 54 (scanCells s (i:Nat) e))) (hn:H.next≤Hk.next) (hf:∀ q,q < H.next→q≠r→Hk.get q=H.get q) :
  Told H (Hk.set b (.cells 31 X)) r s i 0 (.tup [.agg X,.int .i64 j]) (.inl e):=by
 subst hb
 refine ⟨⟨⟨_,_,rfl,hX.1,hX.2⟩,?_⟩,hn,fun q hq hne=> ?_⟩
 ·rw [AHeap.get_set,if_neg (by omega)]; exact hr
 ·rw [AHeap.get_set,if_neg (by omega),hf q hq hne]
section
variable {H Hk:AHeap} {r b:Nat} {s w:ByteArray} {i:Nat} {k:List AItem}
theorem tail23 {j e:Int} (hrl:r < H.next) (hb:b=H.next) (g:Hk.get b=some (.cells 31 tok0)) (hr:Hk.get r=some (.cells 54 (scanCells s (i:Nat) e))) (hn:H.next < Hk.next) (hf:∀ q,q < H.next→q≠r→Hk.get q=H.get q) (he:e=0∨e=23) (X:Tok) (hX:e=0→∃ j':Nat,j=j'∧X=if decide ((w.size:Int) > 64)=true then .inl 23 else .inr (tokC 1 w 0 0 0,j')) (hX2:e=23→X = .inl 23) :
  DR Tryd.prog (kof k19) 131 (.code (.region false r19_23 [0,2,3,4,124])::.code (.cond (.t 124) (.region false r19_24 [2,3,4]) .skip)::.code (.seq (.region false r19_25 [2,3]) .ret)::k)
   [(0,.ptr r 0),(2,.ptr b 0),(3,.int .i64 j),(4,.str w)] Hk fun T' H'=>∃ a,aresult H' T' [.cell 2 (some 5),.tmp 3]=some a∧Told H H' r s i 0 a X:=by
 have hl:∀ H,alenT H 0 (.str w)=some w.size:=fun _=>rfl
 have le:=load_cell hr (o:=2) (v:=.int .i64 e) rfl
 rcases he with rfl | rfl
 ·obtain ⟨j',rfl,rfl⟩:=hX rfl
  cases h64:decide ((w.size:Int) > 64) with
  | true=>
   rw [if_pos rfl]
   have sr:=astore_one hr (o:=2) (x:=.int .i64 23) (by simp [scanCells]) rfl
   obtain ⟨H2,hH2,r2,n2,f2⟩:=upd hr (.cells 54 ((scanCells s (i:Nat) 0).set 2 (.int .i64 23)))
   rw [← hH2] at sr
   have g2:=(f2 b (by omega)).trans g
   obtain ⟨st,ld⟩:=res35 g2 rfl (tokC 1 w 0 0 0) rfl rfl
   unfold tokC at st
   refine DR.go rfl ?_
   simp -dsimp only [SZ,EZ,astep,aun,AVal.cells,seval,le,abin,beq_self_eq_true,hl,h64]
   refine DR.ye rfl rfl ?_
   refine DR.go rfl ?_
   simp -dsimp only [SZ,EZ,astep,aun,AVal.cells,seval,sr]
   refine DR.go rfl ?_
   simp -dsimp only [SZ,EZ,astep,aun,AVal.cells,seval,Env.parts,afill,AVal.cells,LZ,st]
   refine DR.nm rfl ?_
   refine DR.ret ⟨.tup [.agg (tokC 1 w 0 0 0),.int .i64 (j':Nat)],?_,Told.bad ⟨rfl,rfl⟩ hrl hb g2 r2 (by omega) fun q hq hne=>by rw [f2 q hne,hf q hq hne]⟩
   have ld':aload (H2.set b (.cells 31 [.int .i64 1,.str w,.int .i64 0,.flt .f64 0,.int .i64 0])) (some 5) (.ptr b 0)=_:=ld
   simp [aresult,ares,Env.get,ld']
  | false=>
   rw [if_neg (by simp)]
   obtain ⟨st,ld⟩:=res35 g rfl (tokC 1 w 0 0 0) rfl rfl
   unfold tokC at st
   refine DR.go rfl ?_
   simp -dsimp only [SZ,EZ,astep,aun,AVal.cells,seval,le,abin,beq_self_eq_true,hl,h64]
   refine DR.ne rfl rfl ?_
   refine DR.go rfl ?_
   simp -dsimp only [SZ,EZ,astep,aun,AVal.cells,seval,Env.parts,afill,AVal.cells,LZ,st]
   refine DR.nm rfl ?_
   refine DR.ret ⟨.tup [.agg (tokC 1 w 0 0 0),.int .i64 (j':Nat)],?_,Told.end hrl hb g hr (by omega) hf⟩
   have ld':aload (Hk.set b (.cells 31 [.int .i64 1,.str w,.int .i64 0,.flt .f64 0,.int .i64 0])) (some 5) (.ptr b 0)=_:=ld
   simp [aresult,ares,Env.get,ld']
 ·rw [hX2 rfl]
  obtain ⟨st,ld⟩:=res35 g rfl (tokC 1 w 0 0 0) rfl rfl
  unfold tokC at st
  have h230:((23:Int)==0)=false:=by decide
  refine DR.go rfl ?_
  simp -dsimp only [SZ,EZ,astep,aun,AVal.cells,seval,le,abin,h230]
  refine DR.ne rfl rfl ?_
  refine DR.go rfl ?_
  simp -dsimp only [SZ,EZ,astep,aun,AVal.cells,seval,Env.parts,afill,AVal.cells,LZ,st]
  refine DR.nm rfl ?_
  refine DR.ret ⟨.tup [.agg (tokC 1 w 0 0 0),.int .i64 j],?_,Told.bad ⟨rfl,rfl⟩ hrl hb g hr (by omega) hf⟩
  have ld':aload (Hk.set b (.cells 31 [.int .i64 1,.str w,.int .i64 0,.flt .f64 0,.int .i64 0])) (some 5) (.ptr b 0)=_:=ld
  simp [aresult,ares,Env.get,ld']
end
end Go.Am.Rl
namespace Go.Am.Rl
open Go.Proofs
theorem bits_tok (s:ByteArray) (i:Nat):bitsTok s i=bitTok s i 0:=by
 unfold bitTok bitsTok
 cases bits s i <;> rfl
theorem reg23_3 {H:AHeap} {c:UInt8} {v0 v2:AVal} {k:List AItem} {Q:Env→AHeap→Prop} (h:∀ H1,H1=H→DR Tryd.prog (kof k19) 131 k [(0,v0),(2,v2),(5,.int .u8 c.toNat),(18,.bool (isUp c.toNat || ((c.toNat:Int)==95)))] H1 Q) :
  DR Tryd.prog (kof k19) 131 (.code (.region false r19_3 [0,2,5,18])::k) [(0,v0),(2,v2),(5,.int .u8 c.toNat)] H Q:=by
 refine DR.go rfl ?_
 simp -dsimp only [SZ,EZ,astep,aun,AVal.cells,seval]
 refine (of_chk t33 c H).mono ?_
 rintro a H1 ⟨rfl,rfl⟩
 simp -dsimp only [SZ,EZ,astep,aun,AVal.cells,seval]
 cases hup:isUp c.toNat with
 | true=>
  rw [hup,Bool.true_or] at h
  simp -dsimp only [SZ,EZ,astep,aun,AVal.cells,seval,hup]
  exact h _ rfl
 | false=>
  rw [hup,Bool.false_or] at h
  simp -dsimp only [SZ,EZ,astep,aun,AVal.cells,seval,hup,abin]
  exact h _ rfl
theorem g19 {H:AHeap} {r:Nat} {s:ByteArray} {i:Nat} {c:UInt8} (hct:s[i]? = some c) (hr:H.get r=some (.cells 54 (scanCells s (i:Nat) 0))) (hsz:s.size < 1000000) :
  DCall Tryd.prog 19 [.ptr r 0] H fun a H'=>Told H H' r s i 0 a (token s i c.toNat 0):=by
 refine DCall.of_body (fn:=Tryd.f19) (by kernel_rfl) c19 (by kernel_rfl) (by simp [f19]) ?_
 unfold f19
 simp only []
 have hi:=size_of_some hct
 have hx:=idx_at hct
 have hmade:=token_made hct 0
 have hrl:=AHeap.get_lt hr
 obtain ⟨H1,hH1,g1,n1,f1⟩:=psh H (.cells 31 [.int .i64 0,.str ⟨#[]⟩,.int .i64 0,.flt .f64 0,.int .i64 0])
 have g1:H1.get H.next=some (.cells 31 tok0):=g1
 have r1:H1.get r=some (.cells 54 (scanCells s (i:Nat) 0)):=(f1 r hrl).trans hr
 have l0:=load_cell r1 (o:=0) (v:=.str s) rfl
 have l1:=load_cell r1 (o:=1) (v:=.int .i64 (i:Nat)) rfl
 refine DR.go rfl ?_
 simp -dsimp only [SZ,EZ,astep,aun,AVal.cells,seval,← hH1]
 clear hH1
 refine DR.nm rfl ?_
 refine DR.nm rfl ?_
 refine DR.draw (by kernel_rfl) d19_1 ?_
 simp -dsimp only [m19_1,SZ,EZ,astep,aun,AVal.cells,seval,DS_nil,DS_cons,seesAll,staysAll,abit,List.getD_cons_zero,List.getD_cons_succ,AOp.quiet,AOp.reads,true_and,and_true,decide_true,decide_false,and_self,l0,l1,hx]
 refine DR.go rfl ?_
 simp -dsimp only [SZ,EZ,astep,aun,AVal.cells,seval]
 refine (of_chk t32 c H1).mono ?_
 rintro a H1 ⟨rfl,rfl⟩
 simp -dsimp only [SZ,EZ,astep,aun,AVal.cells,seval]
 cases hlow:isLow c.toNat with
 | true=>
  have hnm:isName c.toNat=true:=by unfold isName; rw [hlow]; rfl
  have htok:token s i c.toNat 0=lowTok (s.extract i (skip isNam s i)) (skip isNam s i) 0:=by unfold token nameTok; rw [if_pos hnm,if_pos hlow]
  rw [htok]
  obtain ⟨e,he⟩:∃ e,e=skip isNam s i:=⟨_,rfl⟩
  have hele:i≤e∧e≤s.size:=by rw [he]; exact skip_le (by omega)
  obtain ⟨w,hw⟩:∃ w,w=s.extract i e:=⟨_,rfl⟩
  rw [← he,← hw]
  have hsl:∀ T:Env,T.get 83=some (.int .i64 (i:Nat))→T.get 84=some (.int .i64 (e:Nat))→aslcS T (.str s) (some (.t 83)) (some (.t 84))=some (.str (s.extract i e)):=fun T e1 e2=>slc_both e1 e2 (by omega) hele.2
  refine DR.ye rfl rfl ?_
  refine DR.goto rfl ?_
  refine DR.go rfl ?_
  simp -dsimp only [SZ,EZ,astep,aun,AVal.cells,seval,l1]
  refine (g17 r1 (fun b H=>of_chk t39 b H) (by omega) i).mono ?_
  rintro a H1 ⟨rfl,rfl⟩
  simp -dsimp only [SZ,EZ,astep,aun,AVal.cells,seval]
  rw [← he]
  refine DR.nm rfl ?_
  refine DR.draw (by kernel_rfl) d19_17 ?_
  simp -dsimp only [m19_17,SZ,EZ,astep,aun,AVal.cells,seval,DS_nil,DS_cons,seesAll,staysAll,abit,List.getD_cons_zero,List.getD_cons_succ,AOp.quiet,AOp.reads,true_and,and_true,decide_true,decide_false,and_self,l0,l1]
  rw [hsl _ rfl rfl,← hw]
  simp -dsimp only [SZ,EZ,astep,aun,AVal.cells,seval]
  refine DR.go rfl ?_
  simp -dsimp only [SZ,EZ,astep,aun,AVal.cells,seval]
  refine (g32 (H:=H1) w).mono ?_
  rintro a H1 ⟨rfl,rfl⟩
  simp -dsimp only [SZ,EZ,astep,aun,AVal.cells,seval]
  cases hk:kept w with
  | true=>
   have hlt:lowTok w e 0 = .inr (tokC 7 w 0 0 0,e):=by unfold lowTok; rw [if_pos hk]
   rw [hlt]
   obtain ⟨st,ld⟩:=res35 g1 rfl (tokC 7 w 0 0 0) rfl rfl
   unfold tokC at st
   refine DR.ye rfl rfl ?_
   refine DR.go rfl ?_
   simp -dsimp only [SZ,EZ,astep,aun,AVal.cells,seval,Env.parts,afill,AVal.cells,LZ,st]
   refine DR.nm rfl ?_
   refine DR.ret ⟨.tup [.agg (tokC 7 w 0 0 0),.int .i64 (e:Nat)],?_,Told.end hrl rfl g1 r1 (by omega) (fun q hq _=>f1 q hq)⟩
   have ld':aload (H1.set H.next (.cells 31 [.int .i64 7,.str w,.int .i64 0,.flt .f64 0,.int .i64 0])) (some 5) (.ptr H.next 0)=_:=ld
   simp [aresult,ares,Env.get,ld']
  | false=>
   refine DR.ne rfl rfl ?_
   refine DR.nm rfl ?_
   refine DR.goto rfl ?_
   refine DR.nm rfl ?_
   refine DR.only [0,2,3,4] ?_
   refine tail23 hrl rfl g1 r1 (by omega) (fun q hq _=>f1 q hq) (.inl rfl) _ (fun _=>⟨e,rfl,?_⟩) (fun h=>absurd h (by decide))
   unfold lowTok
   rw [hk,if_neg (by simp)]
 | false=>
  refine DR.ne rfl rfl ?_
  have hnm0:isName c.toNat=(isUp c.toNat || ((c.toNat:Int)==95)):=by unfold isName; rw [hlow,Bool.false_or]
  refine DR.nm rfl ?_
  refine DR.only [0,2,5] ?_
  refine reg23_3 ?_
  rintro H1 rfl
  rw [← hnm0]
  cases hnm:isName c.toNat with
  | true=>
   have htok:token s i c.toNat 0 = .inr (tokC 2 (s.extract i (skip isNam s i)) 0 0 0,skip isNam s i):=by unfold token nameTok; rw [if_pos hnm,hlow,if_neg (by simp)]
   rw [htok]
   obtain ⟨e,he⟩:∃ e,e=skip isNam s i:=⟨_,rfl⟩
   have hele:i≤e∧e≤s.size:=by rw [he]; exact skip_le (by omega)
   obtain ⟨w,hw⟩:∃ w,w=s.extract i e:=⟨_,rfl⟩
   rw [← he,← hw]
   have hsl:∀ T:Env,T.get 104=some (.int .i64 (i:Nat))→T.get 105=some (.int .i64 (e:Nat))→aslcS T (.str s) (some (.t 104)) (some (.t 105))=some (.str (s.extract i e)):=fun T e1 e2=>slc_both e1 e2 (by omega) hele.2
   obtain ⟨st,ld⟩:=res35 g1 rfl (tokC 2 w 0 0 0) rfl rfl
   unfold tokC at st
   refine DR.ye rfl rfl ?_
   refine DR.goto rfl ?_
   refine DR.go rfl ?_
   simp -dsimp only [SZ,EZ,astep,aun,AVal.cells,seval,l1]
   refine (g17 r1 (fun b H=>of_chk t39 b H) (by omega) i).mono ?_
   rintro a H1 ⟨rfl,rfl⟩
   simp -dsimp only [SZ,EZ,astep,aun,AVal.cells,seval]
   rw [← he]
   refine DR.nm rfl ?_
   refine DR.draw (by kernel_rfl) d19_21 ?_
   simp -dsimp only [m19_21,SZ,EZ,astep,aun,AVal.cells,seval,DS_nil,DS_cons,seesAll,staysAll,abit,List.getD_cons_zero,List.getD_cons_succ,AOp.quiet,AOp.reads,true_and,and_true,decide_true,decide_false,and_self,l0,l1]
   rw [hsl _ rfl rfl,← hw]
   simp -dsimp only [DS_nil,DS_cons,seesAll,staysAll,abit,List.getD_cons_zero,List.getD_cons_succ,AOp.quiet,AOp.reads,true_and,and_true,decide_true,decide_false,and_self,SZ,EZ,astep,aun,AVal.cells,seval,Env.parts,afill,AVal.cells,LZ,st]
   refine DR.nm rfl ?_
   refine DR.ret ⟨.tup [.agg (tokC 2 w 0 0 0),.int .i64 (e:Nat)],?_,Told.end hrl rfl g1 r1 (by omega) (fun q hq _=>f1 q hq)⟩
   have ld':aload (H1.set H.next (.cells 31 [.int .i64 2,.str w,.int .i64 0,.flt .f64 0,.int .i64 0])) (some 5) (.ptr H.next 0)=_:=ld
   simp [aresult,ares,Env.get,ld']
  | false=>
   refine DR.ne rfl rfl ?_
   refine DR.go rfl ?_
   simp -dsimp only [SZ,EZ,astep,aun,AVal.cells,seval]
   refine (of_chk t34 c H1).mono ?_
   rintro a H1 ⟨rfl,rfl⟩
   simp -dsimp only [SZ,EZ,astep,aun,AVal.cells,seval]
   cases hdg:isDig c.toNat with
   | true=>
    have htok:token s i c.toNat 0=numTok s i 0:=by unfold token; rw [if_neg (by simp [hnm]),if_pos hdg]
    rw [htok] at hmade ⊢
    refine DR.ye rfl rfl ?_
    refine DR.go rfl ?_
    simp -dsimp only [SZ,EZ,astep,aun,AVal.cells,seval]
    refine (g27 r1 hsz (by omega)).mono ?_
    intro a H2 hT
    cases hn:numTok s i 0 with
    | inl er=>
     rw [hn] at hT
     obtain ⟨⟨⟨cs,j,rfl,hl5,ho⟩,r2⟩,n2,f2⟩:=hT
     have g2:=(f2 H.next (by omega) (by omega)).trans g1
     obtain ⟨st,ld⟩:=res35 g2 rfl cs hl5 ho
     simp -dsimp only [SZ,EZ,astep,aun,AVal.cells,seval,st]
     refine DR.nm rfl ?_
     exact DR.ret ⟨.tup [.agg cs,.int .i64 j],by simp [aresult,ares,Env.get,ld],Told.bad ⟨hl5,ho⟩ hrl rfl g2 r2 (by omega) (fun q hq hne=>by rw [f2 q (by omega) hne,f1 q hq])⟩
    | inr p=>
     rw [hn] at hT hmade
     obtain ⟨⟨rfl,r2⟩,n2,f2⟩:=hT
     have g2:=(f2 H.next (by omega) (by omega)).trans g1
     obtain ⟨st,ld⟩:=res35 g2 rfl p.1 hmade.cells.1 hmade.cells.2
     simp -dsimp only [SZ,EZ,astep,aun,AVal.cells,seval,st]
     refine DR.nm rfl ?_
     exact DR.ret ⟨.tup [.agg p.1,.int .i64 (p.2:Nat)],by simp [aresult,ares,Env.get,ld],Told.end hrl rfl g2 r2 (by omega) (fun q hq hne=>by rw [f2 q (by omega) hne,f1 q hq])⟩
   | false=>
    refine DR.ne rfl rfl ?_
    refine DR.go rfl ?_
    simp -dsimp only [SZ,EZ,astep,aun,AVal.cells,seval,abin]
    cases h35:((c.toNat:Int)==35) with
    | true=>
     have htok:token s i c.toNat 0=bitsTok s i:=by rw [bits_tok]; unfold token; rw [if_neg (by simp [hnm]),if_neg (by simp [hdg]),if_pos h35]
     rw [htok] at hmade ⊢
     refine DR.ye rfl rfl ?_
     refine DR.go rfl ?_
     simp -dsimp only [SZ,EZ,astep,aun,AVal.cells,seval]
     refine (g28 r1 hsz hi).mono ?_
     intro a H2 hT
     cases hn:bitsTok s i with
     | inl er=>
      rw [hn] at hT
      obtain ⟨⟨⟨cs,j,rfl,hl5,ho⟩,r2⟩,n2,f2⟩:=hT
      have g2:=(f2 H.next (by omega) (by omega)).trans g1
      obtain ⟨st,ld⟩:=res35 g2 rfl cs hl5 ho
      simp -dsimp only [SZ,EZ,astep,aun,AVal.cells,seval,st]
      refine DR.nm rfl ?_
      exact DR.ret ⟨.tup [.agg cs,.int .i64 j],by simp [aresult,ares,Env.get,ld],Told.bad ⟨hl5,ho⟩ hrl rfl g2 r2 (by omega) (fun q hq hne=>by rw [f2 q (by omega) hne,f1 q hq])⟩
     | inr p=>
      rw [hn] at hT hmade
      obtain ⟨⟨rfl,r2⟩,n2,f2⟩:=hT
      have g2:=(f2 H.next (by omega) (by omega)).trans g1
      obtain ⟨st,ld⟩:=res35 g2 rfl p.1 hmade.cells.1 hmade.cells.2
      simp -dsimp only [SZ,EZ,astep,aun,AVal.cells,seval,st]
      refine DR.nm rfl ?_
      exact DR.ret ⟨.tup [.agg p.1,.int .i64 (p.2:Nat)],by simp [aresult,ares,Env.get,ld],Told.end hrl rfl g2 r2 (by omega) (fun q hq hne=>by rw [f2 q (by omega) hne,f1 q hq])⟩
    | false=>
     have htok0:token s i c.toNat 0=if (((c.toNat:Int)==39) || ((c.toNat:Int)==34))=true then quoTok s i c.toNat 0 else signTok s i 0:=by unfold token; rw [if_neg (by simp [hnm]),if_neg (by simp [hdg]),if_neg (by simp [h35])]
     refine DR.ne rfl rfl ?_
     refine DR.go rfl ?_
     simp -dsimp only [SZ,EZ,astep,aun,AVal.cells,seval,abin]
     cases h39:((c.toNat:Int)==39) with
     | true=>
      have htok:token s i c.toNat 0=quoTok s i c.toNat 0:=by rw [htok0,h39]; rfl
      rw [htok]
      unfold quoTok
      rw [h39]
      refine DR.ye rfl rfl ?_
      refine DR.goto rfl ?_
      refine DR.go rfl ?_
      simp -dsimp only [SZ,EZ,astep,aun,AVal.cells,seval]
      refine (g29 (m:=(c.toNat:Int)) r1 hsz (by omega)).mono ?_
      intro a H2 hT
      cases hq:quote s (c.toNat:Int) i with
      | none=>
       rw [hq] at hT
       obtain ⟨⟨⟨j,rfl⟩,r2⟩,n2,f2⟩:=hT
       have g2:=(f2 H.next (by omega) (by omega)).trans g1
       simp -dsimp only [SZ,EZ,astep,aun,AVal.cells,seval]
       refine DR.nm rfl ?_
       refine DR.only [0,2,3,4] ?_
       exact tail23 hrl rfl g2 r2 (by omega) (fun q hq hne=>by rw [f2 q (by omega) hne,f1 q hq]) (.inr rfl) _ (fun h=>absurd h (by decide)) (fun _=>rfl)
      | some p=>
       rw [hq] at hT
       obtain ⟨⟨rfl,r2⟩,n2,f2⟩:=hT
       have g2:=(f2 H.next (by omega) (by omega)).trans g1
       simp -dsimp only [SZ,EZ,astep,aun,AVal.cells,seval]
       refine DR.nm rfl ?_
       refine DR.only [0,2,3,4] ?_
       exact tail23 hrl rfl g2 r2 (by omega) (fun q hq hne=>by rw [f2 q (by omega) hne,f1 q hq]) (.inl rfl) _ (fun _=>⟨p.2,rfl,if_pos rfl⟩) (fun h=>absurd h (by decide))
     | false=>
      rw [h39,Bool.false_or] at htok0
      refine DR.ne rfl rfl ?_
      refine DR.go rfl ?_
      simp -dsimp only [SZ,EZ,astep,aun,AVal.cells,seval,abin]
      cases h34:((c.toNat:Int)==34) with
      | true=>
       rw [h34,if_pos rfl] at htok0
       rw [htok0]
       unfold quoTok
       rw [h39]
       refine DR.ye rfl rfl ?_
       refine DR.go rfl ?_
       simp -dsimp only [SZ,EZ,astep,aun,AVal.cells,seval]
       refine (g29 (m:=(c.toNat:Int)) r1 hsz (by omega)).mono ?_
       intro a H2 hT
       cases hq:quote s (c.toNat:Int) i with
       | none=>
        rw [hq] at hT
        obtain ⟨⟨⟨j,rfl⟩,r2⟩,n2,f2⟩:=hT
        have g2:=(f2 H.next (by omega) (by omega)).trans g1
        obtain ⟨st,ld⟩:=res35 g2 rfl (tokC 5 ⟨#[]⟩ 0 0 0) rfl rfl
        unfold tokC at st
        simp -dsimp only [SZ,EZ,astep,aun,AVal.cells,seval]
        refine DR.go rfl ?_
        simp -dsimp only [SZ,EZ,astep,aun,AVal.cells,seval,Env.parts,afill,AVal.cells,LZ,st]
        refine DR.nm rfl ?_
        refine DR.ret ⟨.tup [.agg (tokC 5 ⟨#[]⟩ 0 0 0),.int .i64 j],?_,Told.bad ⟨rfl,rfl⟩ hrl rfl g2 r2 (by omega) (fun q hq hne=>by rw [f2 q (by omega) hne,f1 q hq])⟩
        have ld':aload (H2.set H.next (.cells 31 [.int .i64 5,.str ⟨#[]⟩,.int .i64 0,.flt .f64 0,.int .i64 0])) (some 5) (.ptr H.next 0)=_:=ld
        simp [aresult,ares,Env.get,ld']
       | some p=>
        rw [hq] at hT
        obtain ⟨⟨rfl,r2⟩,n2,f2⟩:=hT
        have g2:=(f2 H.next (by omega) (by omega)).trans g1
        obtain ⟨st,ld⟩:=res35 g2 rfl (tokC 5 p.1 0 0 0) rfl rfl
        unfold tokC at st
        simp -dsimp only [SZ,EZ,astep,aun,AVal.cells,seval]
        refine DR.go rfl ?_
        simp -dsimp only [SZ,EZ,astep,aun,AVal.cells,seval,Env.parts,afill,AVal.cells,LZ,st]
        refine DR.nm rfl ?_
        refine DR.ret ⟨.tup [.agg (tokC 5 p.1 0 0 0),.int .i64 (p.2:Nat)],?_,Told.end hrl rfl g2 r2 (by omega) (fun q hq hne=>by rw [f2 q (by omega) hne,f1 q hq])⟩
        have ld':aload (H2.set H.next (.cells 31 [.int .i64 5,.str p.1,.int .i64 0,.flt .f64 0,.int .i64 0])) (some 5) (.ptr H.next 0)=_:=ld
        simp [aresult,ares,Env.get,ld']
      | false=>
       rw [h34,if_neg (by simp)] at htok0
       rw [htok0]
       refine DR.ne rfl rfl ?_
       refine DR.go rfl ?_
       simp -dsimp only [SZ,EZ,astep,aun,AVal.cells,seval]
       refine (g30 r1 (by omega)).mono ?_
       rintro a H1 ⟨rfl,rfl⟩
       simp -dsimp only [SZ,EZ,astep,aun,AVal.cells,seval]
       unfold signTok
       obtain ⟨g,hg⟩:∃ g,g=signAt s i:=⟨_,rfl⟩
       have hle:=signAt_le (s:=s) (i:=i) (by omega)
       rw [← hg] at hle ⊢
       have hl:∀ H,alenT H 0 (.str g)=some g.size:=fun _=>rfl
       have hw:IntKind.i64.wrap ((i:Int)+(g.size:Int))=((i+g.size:Nat):Int):=by
        have:=wrap64 (n:=i+g.size) (by omega)
        rw [Int.natCast_add] at this ⊢; exact this
       cases h0:decide (g.size=0) with
       | true=>
        rw [if_pos rfl]
        have sr:=astore_one r1 (o:=2) (x:=.int .i64 21) (by simp [scanCells]) rfl
        obtain ⟨H2,hH2,r2,n2,f2⟩:=upd r1 (.cells 54 ((scanCells s (i:Nat) 0).set 2 (.int .i64 21)))
        rw [← hH2] at sr
        have r2:H2.get r=some (.cells 54 (scanCells s (i:Nat) 21)):=r2
        have l12:=load_cell r2 (o:=1) (v:=.int .i64 (i:Nat)) rfl
        have g2:=(f2 H.next (by omega)).trans g1
        obtain ⟨st,ld⟩:=res35 g2 rfl (tokC 6 g 0 0 0) rfl rfl
        unfold tokC at st
        have lz:∀ X,aload (H2.set H.next (.cells 31 X)) none (.ptr r 1)=some (.int .i64 (i:Nat)):=fun X=>load_cell (by rw [AHeap.get_set,if_neg (by omega)]; exact r2) rfl
        refine DR.go rfl ?_
        simp -dsimp only [SZ,EZ,astep,aun,AVal.cells,seval,abin,emp,h0]
        refine DR.ye rfl rfl ?_
        refine DR.go rfl ?_
        simp -dsimp only [SZ,EZ,astep,aun,AVal.cells,seval,sr]
        refine DR.nm rfl ?_
        refine DR.draw (by kernel_rfl) d19_15 ?_
        simp -dsimp only [m19_15,SZ,EZ,astep,aun,AVal.cells,seval,DS_nil,DS_cons,seesAll,staysAll,abit,List.getD_cons_zero,List.getD_cons_succ,AOp.quiet,AOp.reads,true_and,and_true,decide_true,decide_false,and_self,Bool.true_beq,Bool.false_beq,l12,lz,hl,abin_addI,hw,Env.parts,afill,AVal.cells,LZ,st]
        refine DR.nm rfl ?_
        refine DR.ret ⟨.tup [.agg (tokC 6 g 0 0 0),.int .i64 ((i+g.size:Nat):Int)],?_,Told.bad ⟨rfl,rfl⟩ hrl rfl g2 r2 (by omega) (fun q hq hne=>by rw [f2 q hne,f1 q hq])⟩
        have ld':aload (H2.set H.next (.cells 31 [.int .i64 6,.str g,.int .i64 0,.flt .f64 0,.int .i64 0])) (some 5) (.ptr H.next 0)=_:=ld
        simp [aresult,ares,Env.get,ld']
       | false=>
        rw [if_neg (by simp)]
        obtain ⟨st,ld⟩:=res35 g1 rfl (tokC 6 g 0 0 0) rfl rfl
        unfold tokC at st
        have lz:∀ X,aload (H1.set H.next (.cells 31 X)) none (.ptr r 1)=some (.int .i64 (i:Nat)):=fun X=>load_cell (by rw [AHeap.get_set,if_neg (by omega)]; exact r1) rfl
        refine DR.go rfl ?_
        simp -dsimp only [SZ,EZ,astep,aun,AVal.cells,seval,abin,emp,h0]
        refine DR.ne rfl rfl ?_
        refine DR.nm rfl ?_
        refine DR.draw (by kernel_rfl) d19_15 ?_
        simp -dsimp only [m19_15,SZ,EZ,astep,aun,AVal.cells,seval,DS_nil,DS_cons,seesAll,staysAll,abit,List.getD_cons_zero,List.getD_cons_succ,AOp.quiet,AOp.reads,true_and,and_true,decide_true,decide_false,and_self,Bool.true_beq,Bool.false_beq,l1,lz,hl,abin_addI,hw,Env.parts,afill,AVal.cells,LZ,st]
        refine DR.nm rfl ?_
        refine DR.ret ⟨.tup [.agg (tokC 6 g 0 0 0),.int .i64 ((i+g.size:Nat):Int)],?_,Told.end hrl rfl g1 r1 (by omega) (fun q hq _=>f1 q hq)⟩
        have ld':aload (H1.set H.next (.cells 31 [.int .i64 6,.str g,.int .i64 0,.flt .f64 0,.int .i64 0])) (some 5) (.ptr H.next 0)=_:=ld
        simp [aresult,ares,Env.get,ld']
end Go.Am.Rl
