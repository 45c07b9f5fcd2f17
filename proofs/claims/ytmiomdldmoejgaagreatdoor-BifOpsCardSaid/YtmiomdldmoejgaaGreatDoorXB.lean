/- Parts: B33, B34, B14, BF, B15, B35, B36, B16, B17, B18, B19, B20, B21, B24m, B37, OA. -/
import Derived.Test.YtmiomdldmoejgaaGreatDoorXA
import Derived.Test.YtmiomdldmoejgaaGreatDoorFnP
import Derived.Test.YtmiomdldmoejgaaGreatDoorAmS
set_option linter.unusedVariables false
set_option linter.unusedSimpArgs false
set_option maxRecDepth 20000
namespace Go.Am.Rl
open Go.Proofs
mutual
def words:TM→Nat
 | .mk k _ _ _ _ l=>own k l.length+wordsL l
def wordsL:List TM→Nat
 | []=>0
 | t::r=>words t+wordsL r
end
mutual
def deep:TM→Nat→Prop
 | .mk _ _ _ _ _ l,d=>1≤d∧deeps l (d - 1)
def deeps:List TM→Nat→Prop
 | [],_=>True
 | t::r,d=>deep t d∧deeps r d
end
mutual
def fine:TM→Prop
 | .mk k n f s nl l=>TM.pl (.mk k n f s nl l)∧fines l
def fines:List TM→Prop
 | []=>True
 | t::r=>fine t∧fines r
end
theorem words_eq (t:TM):words t=own t.k t.l.length+wordsL t.l:=by cases t; rfl
theorem deep_eq (t:TM) (d:Nat):deep t d↔1≤d∧deeps t.l (d - 1):=by cases t; rfl
theorem fine_eq (t:TM):fine t↔TM.pl t∧fines t.l:=by cases t; rfl
theorem wordsL_app:∀ a b:List TM,wordsL (a++b)=wordsL a+wordsL b
 | [],b=>by simp [wordsL]
 | t::r,b=>by simp only [List.cons_append,wordsL,wordsL_app r b]; omega
theorem wordsL_take {l:List TM} {i:Nat} {x:TM} (h:l[i]? = some x):wordsL (l.take (i+1))=wordsL (l.take i)+words x:=by
 rw [List.take_add_one,h,wordsL_app]; simp [wordsL]
theorem wordsL_le {l:List TM} {i:Nat}:wordsL (l.take i)≤wordsL l:=by
 have:=wordsL_app (l.take i) (l.drop i)
 rw [List.take_append_drop] at this
 omega
theorem words_le {l:List TM} {x:TM} {i:Nat} (h:l[i]? = some x):wordsL (l.take i)+words x≤wordsL l:=by
 rw [← wordsL_take h]; exact wordsL_le
theorem deeps_iff {d:Nat}:∀ {l:List TM},deeps l d↔∀ x ∈ l,deep x d
 | []=>by simp [deeps]
 | t::r=>by simp [deeps,deeps_iff (l:=r)]
theorem fines_iff:∀ {l:List TM},fines l↔∀ x ∈ l,fine x
 | []=>by simp [fines]
 | t::r=>by simp [fines,fines_iff (l:=r)]
theorem all_take {l:List TM} {p:TM→Prop} {i:Nat} {x:TM} (h:∀ y ∈ l.take i,p y) (hx:l[i]? = some x) (hp:p x):∀ y ∈ l.take (i+1),p y:=by
 intro y hy
 rw [List.take_add_one,hx] at hy
 rcases List.mem_append.mp hy with hy | hy
 ·exact h y hy
 ·simp at hy; subst hy; exact hp
theorem sub_nat {a b:Nat} (ha:a≤65536) (h:b≤a):abin .sub (i64 (a:Nat)) (i64 (b:Nat))=some (i64 ((a - b:Nat):Int)):=by
 have hw:IntKind.i64.wrap ((a:Int) - (b:Int))=((a - b:Nat):Int):=by rw [show (a:Int) - (b:Int)=((a - b:Nat):Int) by omega]; exact wrap64 (n:=a - b) (by omega)
 simp only [abin,hw]; rfl
theorem add_nat {a b:Nat} (h:a+b < 9223372036854775808):abin .add (i64 (a:Nat)) (i64 (b:Nat))=some (i64 ((a+b:Nat):Int)):=by
 have hw:IntKind.i64.wrap ((a:Int)+(b:Int))=((a+b:Nat):Int):=by rw [show (a:Int)+(b:Int)=((a+b:Nat):Int) by omega]; exact wrap64 (n:=a+b) h
 simp only [abin,hw]; rfl
section
variable {t:TM} {H:AHeap} {id:Nat} {k k':List AItem} {Q:Env→AHeap→Prop}
theorem loop52x {d m:Nat} (ok:t.ok) (hm:m≤65536) (hd:d≤200) (hd1:1≤d) (ih:∀ x ∈ t.l,x.ok→∀ (d m:Nat) H,d≤200→m≤65536→DCall Tryz.prog 69 [x.agg,i64 d,i64 m] H fun r H'=>(∃ n:Int,r=i64 n∧(n < 0∨(n=words x∧words x≤m∧deep x d)))∧H'=H)
  (g:H.get id=some (.cells 27 (TM.c5 t))) (hk:aexitTo 0 k=some k') (hend:words t≤m→deep t d→DR Tryz.prog (kof k69) 44 k' [(7,i64 (words t:Nat))] H Q) (hret:∀ T,T.get 6=some (i64 (-1))→Q T H) :
  ∀ (e i:Nat),i+e=t.l.length→own t.k t.l.length+wordsL (t.l.take i)≤m→(∀ x ∈ t.l.take i,deep x (d - 1))→DR Tryz.prog (kof k69) 44 (.code l69_0::.inLoop l69_0::k) [(1,i64 d),(2,i64 m),(3,.ptr id 0),(7,i64 ((own t.k t.l.length+wordsL (t.l.take i):Nat):Int)),(8,i64 (i:Nat))] H Q:=by
 intro e
 have l4:=load_cell g (o:=4) (v:=t.row) rfl
 have hl:=TM.lenT ok H
 induction e with
 | zero=>
  intro i hi hc hdd
  have hcmp:abin .lss (i64 (i:Nat)) (i64 (t.l.length:Nat))=some (.bool false):=by simp [abin]; omega
  refine Dg rfl ?_
  simp -dsimp only [SE,astep,seval,l4,hl,hcmp]
  refine Dn rfl rfl ?_
  refine Dm rfl ?_
  refine DR.exit hk ?_
  rw [List.take_of_length_le (by omega)] at hc hdd ⊢
  have he:=hend (by rw [words_eq]; exact hc) ((deep_eq t d).mpr ⟨hd1,deeps_iff.mpr hdd⟩)
  rw [words_eq] at he
  exact DR.only [7] he
 | succ e ih2=>
  intro i hi hc hdd
  have hcmp:abin .lss (i64 (i:Nat)) (i64 (t.l.length:Nat))=some (.bool true):=by simp [abin]; omega
  have hlt:i < t.l.length:=by omega
  have hx:t.l[i]? = some t.l[i]:=List.getElem?_eq_getElem hlt
  have hxo:=TM.ok_at ok hx
  have ra:=TM.row_at ok hx H
  have la:=TM.load t.l[i] (TM.flat (t.l.drop (i+1))) H
  have hle:=TM.len_le ok
  have hadd:abin .add (i64 (i:Nat)) (i64 1)=some (i64 ((i+1:Nat):Int)):=add_nat (b:=1) (by omega)
  have hs1:abin .sub (i64 d) (i64 1)=some (i64 ((d - 1:Nat):Int)):=sub_nat (b:=1) (by omega) hd1
  have hs2:=sub_nat hm hc
  refine Dg rfl ?_
  simp -dsimp only [SE,astep,seval,l4,hl,hcmp]
  refine Dy rfl rfl ?_
  refine Dg rfl ?_
  simp -dsimp only [SE,astep,seval,l4,ra,la,hs1,hs2]
  refine (ih _ (List.getElem_mem hlt) hxo (d - 1) _ H (by omega) (by omega)).mono ?_
  rintro r H' ⟨⟨n,rfl,hn⟩,he⟩
  obtain rfl:=he.symm
  simp -dsimp only [SE,astep,seval]
  rcases hn with hn | ⟨rfl,hw,hdp⟩
  ·have hb:abin .lss (i64 n) (i64 0)=some (.bool true):=by simp [abin,hn]
   refine Dg rfl ?_
   simp -dsimp only [SE,astep,seval,hb]
   refine Dy rfl rfl ?_
   refine Dg rfl ?_
   simp -dsimp only [SE,astep,seval]
   refine Dm rfl ?_
   exact DR.ret (hret _ rfl)
  ·have hb:abin .lss (i64 (words t.l[i]:Nat)) (i64 0)=some (.bool false):=by simp [abin]
   have ha2:=add_nat (a:=own t.k t.l.length+wordsL (t.l.take i)) (b:=words t.l[i]) (by omega)
   refine Dg rfl ?_
   simp -dsimp only [SE,astep,seval,hb]
   refine Dn rfl rfl ?_
   refine Dg rfl ?_
   simp -dsimp only [SE,astep,seval,ha2]
   refine Dg rfl ?_
   simp -dsimp only [SE,astep,seval,hadd]
   refine Dm rfl ?_
   refine DR.inLoop ?_
   have he2:own t.k t.l.length+wordsL (t.l.take i)+words t.l[i]=own t.k t.l.length+wordsL (t.l.take (i+1)):=by rw [wordsL_take hx]; omega
   rw [he2]
   exact ih2 (i+1) (by omega) (by omega) (all_take hdd hx hdp)
end
theorem g52x:∀ t:TM,t.ok→∀ (d m:Nat) (H:AHeap),d≤200→m≤65536→DCall Tryz.prog 69 [t.agg,i64 d,i64 m] H fun r H'=>(∃ n:Int,r=i64 n∧(n < 0∨(n=words t∧words t≤m∧deep t d)))∧H'=H:=by
 refine TM.all fun t ih ok d m H hd hm=> ?_
 refine DCall.ints (TM.pures2 t d m) ?_ H
 obtain ⟨H1,hH1,g1,n1,f1⟩:=psh AHeap.empty (.cells 27 (TM.c5 t))
 have la:=load_all (n:=5) g1 rfl
 refine DCall.of_body (fn:=Tryz.f69) (by kernel_rfl) c69 (by kernel_rfl) (by simp [f69]) ?_
 unfold f69
 simp only []
 refine Dg rfl ?_
 simp -dsimp only [SE,astep,seval,← hH1]
 by_cases hd1:d < 1
 ·have hb1:abin .lss (i64 d) (i64 1)=some (.bool true):=by simp [abin]; omega
  refine Dg rfl ?_
  simp -dsimp only [SE,astep,seval,hb1]
  refine Dy rfl rfl ?_
  refine Dg rfl ?_
  simp -dsimp only [SE,astep,seval]
  refine Dm rfl ?_
  exact DR.ret ⟨_,by simp [aresult,ares,Env.get] <;> rfl,⟨_,rfl,.inl (by decide)⟩⟩
 have hb1:abin .lss (i64 d) (i64 1)=some (.bool false):=by simp [abin]; omega
 refine Dg rfl ?_
 simp -dsimp only [SE,astep,seval,hb1,la]
 refine (g85x t ok H1).mono ?_
 rintro r H' ⟨rfl,he⟩
 obtain rfl:=he.symm
 by_cases ho:own t.k t.l.length≤m
 ·have hb2:abin .gtr (i64 (own t.k t.l.length:Nat)) (i64 m)=some (.bool false):=by simp [abin]; omega
  simp -dsimp only [SE,astep,seval,hb2]
  refine Dn rfl rfl ?_
  refine Dg rfl ?_
  simp -dsimp only [SE,astep,seval,la]
  refine (g85x t ok H1).mono ?_
  rintro r H' ⟨rfl,he⟩
  obtain rfl:=he.symm
  simp -dsimp only [SE,astep,seval]
  refine Dg rfl ?_
  simp -dsimp only [SE,astep,seval]
  refine Dm rfl ?_
  refine DR.loop ?_
  have hend:words t≤m→deep t d→DR Tryz.prog (kof k69) 44 [.code (.seq (.region false r69_11 [6]) .ret)] [(7,i64 (words t:Nat))] H1 fun T' H'=>∃ r,aresult H' T' [.tmp 6]=some r∧∃ n:Int,r=i64 n∧(n < 0∨(n=words t∧words t≤m∧deep t d)):=by
   intro hw hdp
   refine Dg rfl ?_
   simp -dsimp only [SE,astep,seval]
   refine Dm rfl ?_
   exact DR.ret ⟨_,by simp [aresult,ares,Env.get] <;> rfl,⟨_,rfl,.inr ⟨rfl,hw,hdp⟩⟩⟩
  have:=loop52x (k:=[.inBlock 0,.code (.seq (.region false r69_11 [6]) .ret)]) ok hm hd (by omega) ih g1 rfl hend (fun T hT=>⟨_,by simp [aresult,ares,hT] <;> rfl,_,rfl,.inl (by decide)⟩) t.l.length 0 (by omega) (by simpa [wordsL] using ho) (by simp)
  simp only [List.take_zero,wordsL,Nat.add_zero] at this
  exact this
 ·have hb2:abin .gtr (i64 (own t.k t.l.length:Nat)) (i64 m)=some (.bool true):=by simp [abin]; omega
  simp -dsimp only [SE,astep,seval,hb2]
  refine Dy rfl rfl ?_
  refine Dg rfl ?_
  simp -dsimp only [SE,astep,seval]
  refine Dm rfl ?_
  exact DR.ret ⟨_,by simp [aresult,ares,Env.get] <;> rfl,⟨_,rfl,.inl (by decide)⟩⟩
end Go.Am.Rl
namespace Go.Am.Rl
open Go.Proofs
def right (t:TM):Prop:=words t≤65536∧deep t 200∧fine t
section
variable {t:TM} {H:AHeap} {id:Nat} {k k':List AItem} {Q:Env→AHeap→Prop}
theorem loop53x (ok:t.ok) (ih:∀ x ∈ t.l,x.ok→∀ H,DCall Tryz.prog 70 [x.agg] H fun r H'=>(∃ b,r = .bool b∧(b=true→fine x))∧H'=H)
  (g:H.get id=some (.cells 27 (TM.c5 t))) (hk:aexitTo 0 k=some k') (hend:(∀ x ∈ t.l,fine x)→DR Tryz.prog (kof k70) 21 k' [] H Q) (hret:∀ T,T.get 2=some (.bool false)→Q T H) :
  ∀ (e i:Nat),i+e=t.l.length→(∀ x ∈ t.l.take i,fine x)→DR Tryz.prog (kof k70) 21 (.code l70_0::.inLoop l70_0::k) [(1,.ptr id 0),(3,.int .i64 (i:Nat))] H Q:=by
 intro e
 have l4:=load_cell g (o:=4) (v:=t.row) rfl
 have hl:=TM.lenT ok H
 induction e with
 | zero=>
  intro i hi hall
  have hc:abin .lss (.int .i64 (i:Nat)) (.int .i64 (t.l.length:Nat))=some (.bool false):=by simp [abin]; omega
  refine Dg rfl ?_
  simp -dsimp only [SE,astep,seval,l4,hl,hc]
  refine Dn rfl rfl ?_
  refine Dm rfl ?_
  refine DR.exit hk ?_
  exact DR.only [] (hend (by rw [List.take_of_length_le (by omega)] at hall; exact hall))
 | succ e ih2=>
  intro i hi hall
  have hc:abin .lss (.int .i64 (i:Nat)) (.int .i64 (t.l.length:Nat))=some (.bool true):=by simp [abin]; omega
  have hlt:i < t.l.length:=by omega
  have hx:t.l[i]? = some t.l[i]:=List.getElem?_eq_getElem hlt
  have hxo:=TM.ok_at ok hx
  have ra:=TM.row_at ok hx H
  have la:=TM.load t.l[i] (TM.flat (t.l.drop (i+1))) H
  have hle:=TM.len_le ok
  have hw:IntKind.i64.wrap ((i:Int)+1)=((i+1:Nat):Int):=wrap64 (n:=i+1) (by omega)
  refine Dg rfl ?_
  simp -dsimp only [SE,astep,seval,l4,hl,hc]
  refine Dy rfl rfl ?_
  refine Dg rfl ?_
  simp -dsimp only [SE,astep,seval,l4,ra,la,abin]
  refine (ih _ (List.getElem_mem hlt) hxo H).mono ?_
  rintro r H' ⟨⟨b,rfl,hb⟩,he⟩
  obtain rfl:=he.symm
  simp -dsimp only [SE,astep,seval]
  cases b with
  | false=>
   refine Dy rfl rfl ?_
   refine Dg rfl ?_
   simp -dsimp only [SE,astep,seval]
   refine Dm rfl ?_
   exact DR.ret (hret _ rfl)
  | true=>
   refine Dn rfl rfl ?_
   refine Dg rfl ?_
   simp -dsimp only [SE,astep,seval,hw,abin]
   refine Dm rfl ?_
   refine DR.inLoop ?_
   exact ih2 (i+1) (by omega) (all_take hall hx (hb rfl))
end
theorem g53x:∀ t:TM,t.ok→∀ H:AHeap,DCall Tryz.prog 70 [t.agg] H fun r H'=>(∃ b,r = .bool b∧(b=true→fine t))∧H'=H:=by
 refine TM.all fun t ih ok H=> ?_
 refine DCall.bools (TM.pures1 t) ?_ H
 obtain ⟨H1,hH1,g1,n1,f1⟩:=psh AHeap.empty (.cells 27 (TM.c5 t))
 have la:=load_all (n:=5) g1 rfl
 refine DCall.of_body (fn:=Tryz.f70) (by kernel_rfl) c70 (by kernel_rfl) (by simp [f70]) ?_
 unfold f70
 simp only []
 refine Dg rfl ?_
 simp -dsimp only [SE,astep,seval,← hH1]
 refine Dg rfl ?_
 simp -dsimp only [SE,astep,seval,la]
 refine (g86x t ok H1).mono ?_
 rintro r H' ⟨⟨b,rfl,hb⟩,rfl⟩
 simp -dsimp only [SE,astep,seval]
 cases b with
 | false=>
  refine Dy rfl rfl ?_
  refine Dg rfl ?_
  simp -dsimp only [SE,astep,seval]
  refine Dm rfl ?_
  exact DR.ret ⟨_,by simp [aresult,ares,Env.get] <;> rfl,⟨_,rfl,fun h=>by cases h⟩⟩
 | true=>
  refine Dn rfl rfl ?_
  refine Dg rfl ?_
  simp -dsimp only [SE,astep,seval]
  refine Dm rfl ?_
  refine DR.loop ?_
  refine loop53x ok ih g1 rfl (fun hall=> ?_) (fun T hT=>⟨_,by simp [aresult,ares,hT] <;> rfl,_,rfl,fun h=>by cases h⟩) t.l.length 0 (by omega) (by simp)
  refine Dg rfl ?_
  simp -dsimp only [SE,astep,seval]
  refine Dm rfl ?_
  exact DR.ret ⟨_,by simp [aresult,ares,Env.get] <;> rfl,⟨_,rfl,fun _=>(fine_eq t).mpr ⟨hb rfl,fines_iff.mpr hall⟩⟩⟩
theorem g26x (t:TM) (ok:t.ok) (H:AHeap):DCall Tryz.prog 29 [t.agg] H fun r H'=>(∃ n,r = .int .i64 n∧(n=0→right t))∧H'=H:=by
 refine DCall.ints (TM.pures1 t) ?_ H
 obtain ⟨H1,hH1,g1,n1,f1⟩:=psh AHeap.empty (.cells 27 (TM.c5 t))
 have la:=load_all (n:=5) g1 rfl
 refine DCall.of_body (fn:=Tryz.f29) (by kernel_rfl) c29 (by kernel_rfl) (by simp [f29]) ?_
 unfold f29
 simp only []
 refine Dg rfl ?_
 simp -dsimp only [SE,astep,seval,← hH1]
 refine Dg rfl ?_
 simp -dsimp only [SE,astep,seval,la]
 refine (g52x t ok 200 65536 H1 (by omega) (by omega)).mono ?_
 rintro r H' ⟨⟨n,rfl,hn⟩,he⟩
 obtain rfl:=he.symm
 rcases hn with hn | ⟨rfl,hw,hdp⟩
 ·have hb:abin .lss (i64 n) (i64 0)=some (.bool true):=by simp [abin,hn]
  simp -dsimp only [SE,astep,seval,hb]
  refine Dy rfl rfl ?_
  refine Dg rfl ?_
  simp -dsimp only [SE,astep,seval]
  refine Dm rfl ?_
  exact DR.ret ⟨_,by simp [aresult,ares,Env.get] <;> rfl,⟨_,rfl,fun h=>by cases h⟩⟩
 ·have hb:abin .lss (i64 (words t:Nat)) (i64 0)=some (.bool false):=by simp [abin]
  simp -dsimp only [SE,astep,seval,hb]
  refine Dn rfl rfl ?_
  refine Dg rfl ?_
  simp -dsimp only [SE,astep,seval,la]
  refine (g53x t ok H1).mono ?_
  rintro r H2 ⟨⟨b,rfl,hb⟩,he⟩
  obtain rfl:=he.symm
  simp -dsimp only [SE,astep,seval]
  cases b with
  | false=>
   refine Dy rfl rfl ?_
   refine Dg rfl ?_
   simp -dsimp only [SE,astep,seval]
   refine Dm rfl ?_
   exact DR.ret ⟨_,by simp [aresult,ares,Env.get] <;> rfl,⟨_,rfl,fun h=>by cases h⟩⟩
  | true=>
   refine Dn rfl rfl ?_
   refine Dg rfl ?_
   simp -dsimp only [SE,astep,seval]
   refine Dm rfl ?_
   exact DR.ret ⟨_,by simp [aresult,ares,Env.get] <;> rfl,⟨_,rfl,fun _=>⟨hw,hdp,hb rfl⟩⟩⟩
theorem g18x (t:TM) (ok:t.ok) (H:AHeap):DCall Tryz.prog 13 [t.agg] H fun r H'=>(∃ b,r = .bool b∧(b=true→right t))∧H'=H:=by
 refine DCall.bools (TM.pures1 t) ?_ H
 obtain ⟨H1,hH1,g1,n1,f1⟩:=psh AHeap.empty (.cells 27 (TM.c5 t))
 have la:=load_all (n:=5) g1 rfl
 refine DCall.of_body (fn:=Tryz.f13) (by kernel_rfl) c13 (by kernel_rfl) (by simp [f13]) ?_
 unfold f13
 simp only []
 refine Dg rfl ?_
 simp -dsimp only [SE,astep,seval,← hH1]
 refine Dg rfl ?_
 simp -dsimp only [SE,astep,seval,la]
 refine (g26x t ok H1).mono ?_
 rintro r H' ⟨⟨n,rfl,hn⟩,rfl⟩
 simp -dsimp only [SE,astep,seval,abin]
 refine Dm rfl ?_
 exact DR.ret ⟨_,by simp [aresult,ares,Env.get] <;> rfl,⟨_,rfl,fun h=>hn (by simpa using h)⟩⟩
section
variable {u:TM} {H:AHeap} {k k':List AItem} {Q:Env→AHeap→Prop}
theorem loop8x (ok:u.ok) (hk:aexitTo 0 k=some k') (hend:(∀ x ∈ u.l,right x)→DR Tryz.prog (kof k5) 25 k' [] H Q) (hret:∀ T,T.get 2=some (.bool false)→Q T H) :
  ∀ (e i:Nat),i+e=u.l.length→(∀ x ∈ u.l.take i,right x)→DR Tryz.prog (kof k5) 25 (.code l5_0::.inLoop l5_0::k) [(0,u.row),(3,.int .i64 (i:Nat))] H Q:=by
 intro e
 have hl:=TM.lenT ok H
 induction e with
 | zero=>
  intro i hi hall
  have hc:abin .lss (.int .i64 (i:Nat)) (.int .i64 (u.l.length:Nat))=some (.bool false):=by simp [abin]; omega
  refine Dg rfl ?_
  simp -dsimp only [SE,astep,seval,hl,hc]
  refine Dn rfl rfl ?_
  refine Dm rfl ?_
  refine DR.exit hk ?_
  exact DR.only [] (hend (by rw [List.take_of_length_le (by omega)] at hall; exact hall))
 | succ e ih2=>
  intro i hi hall
  have hc:abin .lss (.int .i64 (i:Nat)) (.int .i64 (u.l.length:Nat))=some (.bool true):=by simp [abin]; omega
  have hlt:i < u.l.length:=by omega
  have hx:u.l[i]? = some u.l[i]:=List.getElem?_eq_getElem hlt
  have hxo:=TM.ok_at ok hx
  have ra:=TM.row_at ok hx H
  have la:=TM.load u.l[i] (TM.flat (u.l.drop (i+1))) H
  have hle:=TM.len_le ok
  have hw:IntKind.i64.wrap ((i:Int)+1)=((i+1:Nat):Int):=wrap64 (n:=i+1) (by omega)
  refine Dg rfl ?_
  simp -dsimp only [SE,astep,seval,hl,hc]
  refine Dy rfl rfl ?_
  refine Dg rfl ?_
  simp -dsimp only [SE,astep,seval,ra,la,abin]
  refine (g18x _ hxo H).mono ?_
  rintro r H' ⟨⟨b,rfl,hb⟩,rfl⟩
  simp -dsimp only [SE,astep,seval]
  cases b with
  | false=>
   refine Dy rfl rfl ?_
   refine Dg rfl ?_
   simp -dsimp only [SE,astep,seval]
   refine Dm rfl ?_
   exact DR.ret (hret _ rfl)
  | true=>
   refine Dn rfl rfl ?_
   refine Dg rfl ?_
   simp -dsimp only [SE,astep,seval,hw,abin]
   refine Dm rfl ?_
   refine DR.inLoop ?_
   refine ih2 (i+1) (by omega) fun x hx'=> ?_
   rw [List.take_add_one,hx] at hx'
   rcases List.mem_append.mp hx' with h | h
   ·exact hall x h
   ·simp at h; subst h; exact hb rfl
end
theorem g8x (nl:Bool) (l:List TM) (ok:(TM.of nl l).ok):DCall Tryz.prog 5 [(TM.of nl l).row] AHeap.empty fun r H'=>∃ b,r = .bool b∧(b=true→∀ x ∈ l,right x):=by
 have hl:=TM.lenT ok AHeap.empty
 obtain ⟨b,hb⟩:=bcmp .gtr .i64 (((TM.of nl l).l.length:Nat):Int) 5 rfl
 have hcl:(TM.of nl l).row.cells=[(TM.of nl l).row]:=by cases nl <;> rfl
 have hz:AVal.agg [.int .i64 0,.int .i64 0,.flt .f64 0,.str ⟨#[]⟩,(TM.of nl l).row]=(TM.of nl l).agg:=rfl
 refine DCall.of_body (fn:=Tryz.f5) (by kernel_rfl) c5 (by kernel_rfl) (by simp [f5]) ?_
 unfold f5
 simp only []
 refine Dg rfl ?_
 simp -dsimp only [SE,astep,seval]
 cases b with
 | true=>
  refine Dg rfl ?_
  simp -dsimp only [SE,astep,seval,hl,hb]
  refine Dy rfl rfl ?_
  refine Dg rfl ?_
  simp -dsimp only [SE,astep,seval]
  refine Dm rfl ?_
  exact DR.ret ⟨_,by simp [aresult,ares,Env.get] <;> rfl,⟨_,rfl,fun h=>by cases h⟩⟩
 | false=>
  refine Dg rfl ?_
  simp -dsimp only [SE,astep,seval,hl,hb,hcl,Env.parts,afill,LZ,aput,List.length_cons,List.length_nil,List.drop_succ_cons,List.drop_zero,List.drop_nil,List.append_nil,List.cons_append,List.nil_append,List.take_succ_cons,List.take_zero]
  rw [hz]
  refine (g17 _ ok _ _ AHeap.empty).mono ?_
  rintro r H' ⟨⟨n,rfl⟩,rfl⟩
  obtain ⟨b2,hb2⟩:=bcmp .lss .i64 n 0 rfl
  simp -dsimp only [SE,astep,seval,hb2]
  cases b2 with
  | true=>
   refine Dy rfl rfl ?_
   refine Dg rfl ?_
   simp -dsimp only [SE,astep,seval]
   refine Dm rfl ?_
   exact DR.ret ⟨_,by simp [aresult,ares,Env.get] <;> rfl,⟨_,rfl,fun h=>by cases h⟩⟩
  | false=>
   refine Dn rfl rfl ?_
   refine Dg rfl ?_
   simp -dsimp only [SE,astep,seval]
   refine Dm rfl ?_
   refine DR.loop ?_
   refine loop8x ok rfl (fun hall=> ?_) (fun T hT=>⟨_,by simp [aresult,ares,hT] <;> rfl,_,rfl,fun h=>by cases h⟩) (TM.of nl l).l.length 0 (by omega) (by simp)
   refine Dg rfl ?_
   simp -dsimp only [SE,astep,seval]
   refine Dm rfl ?_
   exact DR.ret ⟨_,by simp [aresult,ares,Env.get] <;> rfl,⟨_,rfl,fun _=>hall⟩⟩
end Go.Am.Rl
namespace Go.Am.Rl
open Go.Proofs
theorem TM.ones5 (t:TM):ones (TM.c5 t)=true:=by
 cases t with
 | mk k n f s nl l=>cases nl <;> rfl
def LK (H:AHeap) (id:Nat):Prop:=∃ a b c e,H.get id=some (.cells 119 [.int .i64 a,.int .i64 b,.bool c,.bool e])
def But (H H':AHeap) (id:Nat):Prop:=H.next≤H'.next∧∀ j,j < H.next→j≠id→H'.get j=H.get j
theorem But.trans {H H1 H2:AHeap} {id:Nat} (h:But H H1 id) (k:But H1 H2 id):But H H2 id:=⟨Nat.le_trans h.1 k.1,fun j hj hn=>(k.2 j (Nat.lt_of_lt_of_le hj h.1) hn).trans (h.2 j hj hn)⟩
theorem But.refl (H:AHeap) (id:Nat):But H H id:=⟨Nat.le_refl _,fun _ _ _=>rfl⟩
theorem But.set {H:AHeap} {id:Nat} (b:ABlk):But H (H.set id b) id:=⟨Nat.le_refl _,fun j hj hn=>by rw [AHeap.get_set,if_neg hn]⟩
theorem But.push {H:AHeap} {id:Nat} (b:ABlk):But H (H.push b) id:=⟨by simp,fun j hj hn=>by rw [AHeap.get_push,if_neg (by omega)]⟩
theorem LK.push {H:AHeap} {id:Nat} (h:LK H id) (b:ABlk):LK (H.push b) id:=by
 obtain ⟨x,y,z,w,h⟩:=h
 exact ⟨x,y,z,w,by rw [AHeap.get_push,if_neg (by have:=AHeap.get_lt h; omega)]; exact h⟩
section
variable {t:TM} {id:Nat} {k k':List AItem} {Q:Env→AHeap→Prop}
end
end Go.Am.Rl
namespace Go.Am.Rl
open Go.Proofs
theorem freezeL_all {f:AVal→Option AVal}:∀ {cs:List AVal},(∀ a ∈ cs,f a=some a)→freezeL f cs=some cs
 | [],_=>rfl
 | c::cs,h=>by
  simp only [freezeL,h c (List.mem_cons_self ..),freezeL_all fun a ha=>h a (List.mem_cons_of_mem _ ha)]
theorem pures_mem:∀ {cs:List AVal},AVal.pures cs=true→∀ a ∈ cs,a.pure=true
 | c::cs,h,a,ha=>by
  simp only [AVal.pures,Bool.and_eq_true] at h
  rcases List.mem_cons.mp ha with rfl | ha
  ·exact h.1
  ·exact pures_mem h.2 a ha
theorem freeze_pure {sz:TypeId→Nat} {H:AHeap}:∀ (n:Nat) (a:AVal),SizeOf.sizeOf a < n→a.pure=true→freeze sz H n a=some a
 | 0,a,h,_=>by omega
 | n+1,a,h,hp=>by
  have row:∀ cs:List AVal,SizeOf.sizeOf cs < n→AVal.pures cs=true→freezeL (freeze sz H n) cs=some cs:=fun cs hs hc=>freezeL_all fun a ha=>freeze_pure n a (by have:=List.sizeOf_lt_of_mem ha; omega) (pures_mem hc a ha)
  cases a with
  | ptr i o=>simp [AVal.pure] at hp
  | sl i o l c=>simp [AVal.pure] at hp
  | map i=>simp [AVal.pure] at hp
  | rop cs=>simp only [freeze,row cs (by simp at h; omega) (by simpa [AVal.pure] using hp)]
  | ros cs l=>simp only [freeze,row cs (by simp at h; omega) (by simpa [AVal.pure] using hp)]
  | agg cs=>simp only [freeze,row cs (by simp at h; omega) (by simpa [AVal.pure] using hp)]
  | tup cs=>simp only [freeze,row cs (by simp at h; omega) (by simpa [AVal.pure] using hp)]
  | fn f x y=>
   simp only [AVal.pure,Bool.and_eq_true] at hp
   simp at h
   simp only [freeze,row x (by omega) hp.1,row y (by omega) hp.2]
  | ifc t v=>simp only [freeze,freeze_pure n v (by simp at h; omega) (by simpa [AVal.pure] using hp)]
  | _=>rfl
end Go.Am.Rl
namespace Go.Am.Rl
open Go.Proofs
end Go.Am.Rl
namespace Go.Am.Rl
open Go.Proofs
def LX (H:AHeap) (id w:Nat):Prop:=∃ b,H.get id=some (.cells 119 [.int .i64 (w:Nat),.int .i64 b,.bool false,.bool false])
section
variable {t:TM} {id:Nat} {k k':List AItem} {Q:Env→AHeap→Prop}
theorem loop164x {d w:Nat} (ok:t.ok) (hd:d≤200) (hw:w+wordsL t.l≤65536) (hf:∀ x ∈ t.l,fine x) (hdp:∀ x ∈ t.l,deep x (200 - d))
  (ih:∀ x ∈ t.l,x.ok→fine x→∀ (d w:Nat) (H:AHeap),1≤d→d≤201→deep x (201 - d)→w+words x≤65536→LX H id w→DCall Tryz.prog 184 [.ptr id 0,x.agg,.int .i64 (d:Nat)] H fun r H'=>LX H' id (w+words x)∧But H H' id) (hk:aexitTo 0 k=some k')
  {H0:AHeap} (hend:∀ H,LX H id (w+wordsL t.l)→But H0 H id→DR Tryz.prog (kof k184) 68 k' [] H Q) :
  ∀ (e i:Nat) (H:AHeap),i+e=t.l.length→LX H id (w+wordsL (t.l.take i))→But H0 H id→DR Tryz.prog (kof k184) 68 (.code l184_0::.inLoop l184_0::k) [(0,.ptr id 0),(2,.int .i64 (d:Nat)),(52,t.row),(53,.int .i64 (t.l.length:Nat)),(54,.int .i64 (i:Nat))] H Q:=by
 intro e
 induction e with
 | zero=>
  intro i H hi hH hB
  have hc:abin .lss (.int .i64 (i:Nat)) (.int .i64 (t.l.length:Nat))=some (.bool false):=by simp [abin]; omega
  refine Dg rfl ?_
  simp -dsimp only [SE,astep,seval,hc]
  refine Dn rfl rfl ?_
  refine Dm rfl ?_
  refine DR.exit hk ?_
  rw [List.take_of_length_le (by omega)] at hH
  exact DR.only [] (hend H hH hB)
 | succ e ih2=>
  intro i H hi hH hB
  have hc:abin .lss (.int .i64 (i:Nat)) (.int .i64 (t.l.length:Nat))=some (.bool true):=by simp [abin]; omega
  have hlt:i < t.l.length:=by omega
  have hx:t.l[i]? = some t.l[i]:=List.getElem?_eq_getElem hlt
  have hm:t.l[i] ∈ t.l:=List.getElem_mem hlt
  have hxo:=TM.ok_at ok hx
  have ra:=TM.row_at ok hx H
  have la:=TM.load t.l[i] (TM.flat (t.l.drop (i+1))) H
  have hle:=TM.len_le ok
  have hwl:=words_le hx
  have hadd:abin .add (.int .i64 (i:Nat)) (.int .i64 1)=some (.int .i64 ((i+1:Nat):Int)):=add_nat (b:=1) (by omega)
  have hadd2:abin .add (.int .i64 (d:Nat)) (.int .i64 1)=some (.int .i64 ((d+1:Nat):Int)):=add_nat (b:=1) (by omega)
  obtain ⟨H1,hH1,g1,n1,f1⟩:=psh H (.cells 27 [.int .i64 0,.int .i64 0,.flt .f64 0,.str ⟨#[]⟩,.nils])
  have st:astore H1 5 (.ptr H.next 0) (AVal.agg (TM.c5 t.l[i]))=some (H1.set H.next (.cells 27 (TM.c5 t.l[i]))):=store_all (n:=5) (new:=TM.c5 t.l[i]) g1 rfl (TM.ones5 _) rfl
  obtain ⟨H2,hH2,g2,n2,f2⟩:=upd g1 (.cells 27 (TM.c5 t.l[i]))
  have l2:=load_all (n:=5) g2 rfl
  have hk2:LX H2 id (w+wordsL (t.l.take i)):=by
   obtain ⟨b,h⟩:=hH
   have hlt:=AHeap.get_lt h
   exact ⟨b,by rw [f2 id (by omega),f1 id hlt]; exact h⟩
  have hB2:But H H2 id:=⟨by rw [n2,n1]; omega,fun j hj _=>by rw [f2 j (by omega),f1 j hj]⟩
  refine Dg rfl ?_
  simp -dsimp only [SE,astep,seval,hc]
  refine Dy rfl rfl ?_
  refine Dg rfl ?_
  simp -dsimp only [SE,astep,seval,ra,la,← hH1,st,← hH2]
  refine Dg rfl ?_
  simp -dsimp only [SE,astep,seval,l2,hadd2]
  refine (ih _ hm hxo (hf _ hm) (d+1) _ H2 (by omega) (by omega) (by rw [show 201 - (d+1)=200 - d by omega]; exact hdp _ hm) (by omega) hk2).mono ?_
  rintro r H3 ⟨hk3,hb3⟩
  simp -dsimp only [SE,astep,seval]
  have hk4:LX H3 id (w+wordsL (t.l.take (i+1))):=by rw [wordsL_take hx,← Nat.add_assoc]; exact hk3
  obtain ⟨b,h3⟩:=hk3
  have l3:=load_cell h3 (o:=3) (v:=.bool false) rfl
  refine Dg rfl ?_
  simp -dsimp only [SE,astep,seval,l3]
  refine Dn rfl rfl ?_
  refine Dg rfl ?_
  simp -dsimp only [SE,astep,seval,hadd]
  refine Dm rfl ?_
  refine DR.inLoop ?_
  exact ih2 (i+1) H3 (by omega) hk4 ((hB.trans hB2).trans hb3)
end
theorem g164x:∀ t:TM,t.ok→fine t→∀ (id:Nat) (d w:Nat) (H:AHeap),1≤d→d≤201→deep t (201 - d)→w+words t≤65536→LX H id w→DCall Tryz.prog 184 [.ptr id 0,t.agg,.int .i64 (d:Nat)] H fun r H'=>LX H' id (w+words t)∧But H H' id:=by
 refine TM.all fun t ih ok hf id d w H hd1 hd2 hdp hw hH=> ?_
 obtain ⟨b,h0⟩:=hH
 obtain ⟨hp,hfs⟩:=(fine_eq t).mp hf
 obtain ⟨hd0,hds⟩:=(deep_eq t _).mp hdp
 have hfs:=fines_iff.mp hfs
 have hds:=deeps_iff.mp hds
 have hwd:=words_eq t
 have hlt:=AHeap.get_lt h0
 obtain ⟨H1,hH1,g1,n1,f1⟩:=psh H (.cells 27 (TM.c5 t))
 have h1:=(f1 id hlt).trans h0
 have l1:=load_cell h1 (o:=1) (v:=.int .i64 b) rfl
 obtain ⟨m,hm⟩:∃ m,aext 6 [.int .i64 b,.int .i64 (d:Nat)]=some (.int .i64 m):=⟨_,rfl⟩
 have st1:astore H1 1 (.ptr id 1) (.int .i64 m)=some (H1.set id (.cells 119 [.int .i64 (w:Nat),.int .i64 m,.bool false,.bool false])):=astore_one h1 (o:=1) (by simp) rfl
 obtain ⟨H2,hH2,g2,n2,f2⟩:=upd h1 (.cells 119 [.int .i64 (w:Nat),.int .i64 m,.bool false,.bool false])
 have b2:But H H2 id:=⟨by rw [n2,n1]; omega,fun j hj hn=>by rw [f2 j hn,f1 j hj]⟩
 have t2:H2.get H.next=some (.cells 27 (TM.c5 t)):=(f2 H.next (by omega)).trans g1
 have lt2:=load_all (n:=5) t2 rfl
 refine DCall.of_body (fn:=Tryz.f184) (by kernel_rfl) c184 (by kernel_rfl) (by simp [f184]) ?_
 unfold f184
 simp only []
 refine Dg rfl ?_
 simp -dsimp only [SE,astep,seval,← hH1]
 refine Dg rfl ?_
 simp -dsimp only [SE,astep,seval,l1,hm,st1,← hH2]
 have hb1:abin .gtr (.int .i64 (d:Nat)) (.int .i64 200)=some (.bool false):=by simp [abin]; omega
 refine Dg rfl ?_
 simp -dsimp only [SE,astep,seval,hb1]
 have l0:=load_cell g2 (o:=0) (v:=.int .i64 (w:Nat)) rfl
 refine Dn rfl rfl ?_
 refine Dm rfl ?_
 refine DR.draw (by kernel_rfl) d184_4 ?_
 simp -dsimp only [m184_4,SE,astep,seval,DS_nil,DS_cons,seesAll,staysAll,abit,List.getD_cons_zero,List.getD_cons_succ,AOp.quiet,AOp.reads,true_and,and_true,decide_true,decide_false,and_self,l0,lt2]
 refine (g175x t ok H2).mono ?_
 rintro r H' ⟨rfl,he⟩
 obtain rfl:=he.symm
 have ha2:abin .add (.int .i64 (w:Nat)) (.int .i64 (own t.k t.l.length:Nat))=some (.int .i64 ((w+own t.k t.l.length:Nat):Int)):=add_nat (by omega)
 have st4:astore H2 1 (.ptr id 0) (.int .i64 ((w+own t.k t.l.length:Nat):Int))=some (H2.set id (.cells 119 [.int .i64 ((w+own t.k t.l.length:Nat):Int),.int .i64 m,.bool false,.bool false])):=astore_one g2 (o:=0) (by simp) rfl
 obtain ⟨H4,hH4,g4,n4,f4⟩:=upd g2 (.cells 119 [.int .i64 ((w+own t.k t.l.length:Nat):Int),.int .i64 m,.bool false,.bool false])
 have b4:But H H4 id:=b2.trans ⟨by rw [n4]; omega,fun j hj hn=>f4 j hn⟩
 have t4:H4.get H.next=some (.cells 27 (TM.c5 t)):=(f4 H.next (by omega)).trans t2
 have lt4:=load_all (n:=5) t4 rfl
 have l40:=load_cell g4 (o:=0) (v:=.int .i64 ((w+own t.k t.l.length:Nat):Int)) rfl
 have l42:=load_cell g4 (o:=2) (v:=.bool false) rfl
 have hb5:abin .gtr (.int .i64 ((w+own t.k t.l.length:Nat):Int)) (.int .i64 65536)=some (.bool false):=by simp [abin]; omega
 simp -dsimp only [SE,astep,seval,DS_nil,DS_cons,seesAll,staysAll,abit,List.getD_cons_zero,List.getD_cons_succ,AOp.quiet,AOp.reads,true_and,and_true,decide_true,decide_false,and_self,l0,lt2,ha2,st4,← hH4]
 refine Dg rfl ?_
 simp -dsimp only [SE,astep,seval,l40,hb5]
 refine Dn rfl rfl ?_
 refine Dg rfl ?_
 simp -dsimp only [SE,astep,seval,l42,lt4]
 refine (g176x t ok hp H4).mono ?_
 rintro r H' ⟨rfl,he⟩
 obtain rfl:=he.symm
 have st7:astore H4 1 (.ptr id 2) (.bool false)=some (H4.set id (.cells 119 [.int .i64 ((w+own t.k t.l.length:Nat):Int),.int .i64 m,.bool false,.bool false])):=astore_one g4 (o:=2) (by simp) rfl
 obtain ⟨H7,hH7,g7,n7,f7⟩:=upd g4 (.cells 119 [.int .i64 ((w+own t.k t.l.length:Nat):Int),.int .i64 m,.bool false,.bool false])
 have b7:But H H7 id:=b4.trans ⟨by rw [n7]; omega,fun j hj hn=>f7 j hn⟩
 have l74:=load_cell ((f7 H.next (by omega)).trans t4) (o:=4) (v:=t.row) rfl
 have hl:=TM.lenT ok H7
 simp -dsimp only [SE,astep,seval,st7,Bool.not_true,← hH7]
 refine Dg rfl ?_
 simp -dsimp only [SE,astep,seval,l74,hl]
 refine Dm rfl ?_
 refine DR.loop ?_
 refine loop164x (w:=w+own t.k t.l.length) ok (by omega) (by omega) hfs (by rw [show 201 - d - 1=200 - d by omega] at hds; exact hds) (fun x hx hxo hfx d w H h1 h2 h3 h4 h5=>ih x hx hxo hfx id d w H h1 h2 h3 h4 h5) rfl (H0:=H) (fun H8 h8 b8=> ?_) t.l.length 0 H7 (by omega) ⟨_,g7⟩ b7
 refine Dm rfl ?_
 exact DR.done ⟨.tup [],rfl,by rw [hwd,← Nat.add_assoc]; exact h8,b8⟩
end Go.Am.Rl
namespace Go.Am.Rl
open Go.Proofs
theorem g135x (t:TM) (ok:t.ok) (hr:right t) (H:AHeap):DCall Tryz.prog 156 [t.agg] H fun r H'=>(∃ b,r = .tup [.agg [.int .i64 (words t:Nat),.int .i64 b,.bool false,.bool false],.int .i64 0])∧H'=H:=by
 refine DCall.closed (sz:=szs) (TM.pures1 t) (Q:=fun r H1=>∃ b,r = .tup [.agg [.int .i64 (words t:Nat),.int .i64 b,.bool false,.bool false],.int .i64 0]) ?_ (fun r H1 ⟨b,he⟩=>⟨5,r,by rw [he]; rfl,b,he⟩) H
 obtain ⟨hw,hd,hf⟩:=hr
 obtain ⟨H1,hH1,g1,n1,f1⟩:=psh AHeap.empty (.cells 27 (TM.c5 t))
 obtain ⟨H2,hH2,g2,n2,f2⟩:=psh H1 (.cells 119 [.int .i64 0,.int .i64 0,.bool false,.bool false])
 obtain ⟨H3,hH3,g3,n3,f3⟩:=psh H2 (.cells 119 [.int .i64 0,.int .i64 0,.bool false,.bool false])
 have t1:H3.get AHeap.empty.next=some (.cells 27 (TM.c5 t)):=(f3 _ (by rw [n2,n1]; omega)).trans ((f2 _ (by rw [n1]; omega)).trans g1)
 have t2:H3.get H1.next=some (.cells 119 [.int .i64 0,.int .i64 0,.bool false,.bool false]):=(f3 _ (by rw [n2]; omega)).trans g2
 have la:=load_all (n:=5) t1 rfl
 refine DCall.of_body (fn:=Tryz.f156) (by kernel_rfl) c156 (by kernel_rfl) (by simp [f156]) ?_
 unfold f156
 simp only []
 refine Dg rfl ?_
 simp -dsimp only [SE,astep,seval,← hH1,← hH2]
 refine Dg rfl ?_
 simp -dsimp only [SE,astep,seval,← hH3]
 refine Dg rfl ?_
 simp -dsimp only [SE,astep,seval,la]
 refine (g164x t ok hf H2.next 1 0 H3 (by omega) (by omega) hd (by omega) ⟨_,g3⟩).mono ?_
 rintro r H4 ⟨⟨b,h4⟩,b4⟩
 rw [Nat.zero_add] at h4
 have t4:H4.get H1.next=some (.cells 119 [.int .i64 0,.int .i64 0,.bool false,.bool false]):=(b4.2 _ (by rw [n3,n2]; omega) (by rw [n2]; omega)).trans t2
 have l3:=load_cell h4 (o:=3) (v:=.bool false) rfl
 have l2:=load_cell h4 (o:=2) (v:=.bool false) rfl
 have l0:=load_all (n:=4) h4 rfl
 have fin:∀ X:List AVal,(∃ a b c d,X=[.int .i64 a,.int .i64 b,.bool c,.bool d])→astore H4 4 (.ptr H1.next 0) (.agg X)=some (H4.set H1.next (.cells 119 X))∧aload (H4.set H1.next (.cells 119 X)) (some 4) (.ptr H1.next 0)=some (.agg X):=by
  rintro X ⟨a,b,c,d,rfl⟩
  exact ⟨store_all (n:=4) (new:=[.int .i64 a,.int .i64 b,.bool c,.bool d]) t4 rfl rfl rfl,load_all (n:=4) (by rw [AHeap.get_set,if_pos rfl,if_pos (AHeap.get_lt t4)]) rfl⟩
 simp -dsimp only [SE,astep,seval]
 refine Dg rfl ?_
 simp -dsimp only [SE,astep,seval,l3]
 refine Dn rfl rfl ?_
 refine Dg rfl ?_
 simp -dsimp only [SE,astep,seval,l2]
 obtain ⟨s1,s2⟩:=fin _ ⟨(words t:Nat),b,false,false,rfl⟩
 refine Dn rfl rfl ?_
 refine Dg rfl ?_
 simp -dsimp only [SE,astep,seval,l0,s1]
 refine Dm rfl ?_
 exact DR.ret ⟨.tup [.agg [.int .i64 (words t:Nat),.int .i64 b,.bool false,.bool false],.int .i64 0],by simp [aresult,ares,Env.get,s2],_,rfl⟩
theorem g87x (t:TM) (ok:t.ok) (hr:right t) (H:AHeap):DCall Tryz.prog 111 [t.agg] H fun r H'=>r = .int .i64 0∧H'=H:=by
 have h:DCall Tryz.prog 111 [t.agg] AHeap.empty fun r H'=>∃ n,r = .int .i64 n∧n=0:=by
  obtain ⟨H1,hH1,g1,n1,f1⟩:=psh AHeap.empty (.cells 27 (TM.c5 t))
  have la:=load_all (n:=5) g1 rfl
  refine DCall.of_body (fn:=Tryz.f111) (by kernel_rfl) c111 (by kernel_rfl) (by simp [f111]) ?_
  unfold f111
  simp only []
  refine Dg rfl ?_
  simp -dsimp only [SE,astep,seval,← hH1]
  refine Dg rfl ?_
  simp -dsimp only [SE,astep,seval,la]
  refine (g135x t ok hr H1).mono ?_
  rintro r H' ⟨⟨b,rfl⟩,he⟩
  obtain rfl:=he.symm
  obtain ⟨H2,hH2,g2,n2,f2⟩:=psh H1 (.cells 119 [.int .i64 0,.int .i64 0,.bool false,.bool false])
  have s1:astore H2 4 (.ptr H1.next 0) (.agg [.int .i64 (words t:Nat),.int .i64 b,.bool false,.bool false])=some (H2.set H1.next (.cells 119 [.int .i64 (words t:Nat),.int .i64 b,.bool false,.bool false])):=store_all (n:=4) (new:=[.int .i64 (words t:Nat),.int .i64 b,.bool false,.bool false]) g2 rfl rfl rfl
  simp -dsimp only [SE,astep,seval,← hH2,s1]
  refine Dg rfl ?_
  simp -dsimp only [SE,astep,seval]
  refine Dm rfl ?_
  exact DR.ret ⟨_,by simp [aresult,ares,Env.get] <;> rfl,⟨_,rfl,rfl⟩⟩
 exact (DCall.ints (TM.pures1 t) h H).mono fun r H' ⟨⟨n,h1,h3⟩,h2⟩=>⟨by rw [h1,h3],h2⟩
end Go.Am.Rl
namespace Go.Am.Rl
open Go.Proofs
mutual
def norm:TM→TM
 | .mk k n f s nl l=>.mk k n f s l.isEmpty (norms l)
def norms:List TM→List TM
 | []=>[]
 | t::r=>norm t::norms r
end
theorem norms_map:∀ l:List TM,norms l=l.map norm
 | []=>rfl
 | t::r=>by rw [norms,norms_map r]; rfl
theorem norm_c5 (t:TM):TM.c5 (norm t)=[.int .i64 t.k,.int .i64 t.n,.flt .f64 t.f,.str t.s,(TM.of t.l.isEmpty (norms t.l)).row]:=by cases t; rfl
theorem flat_app:∀ a b:List TM,TM.flat (a++b)=TM.flat a++TM.flat b
 | [],b=>rfl
 | t::r,b=>by rw [List.cons_append,TM.flat,TM.flat,flat_app r b,List.append_assoc]
theorem TM.of_ok {nl:Bool} {l:List TM} (h:TM.oks l) (hl:l.length≤2 ^ 41) (hn:nl=true→l=[]):(TM.of nl l).ok:=⟨by kernel_rfl,by kernel_rfl,by kernel_rfl,Nat.zero_le _,hl,hn,h⟩
theorem TM.ok_of {t:TM} (h:t.ok):(TM.of t.nl t.l).ok:=by
 cases t with
 | mk k n f s nl l=>exact TM.of_ok h.2.2.2.2.2.2 h.2.2.2.2.1 h.2.2.2.2.2.1
section
variable {u:TM} {k k':List AItem} {Q:Env→AHeap→Prop}
theorem loop68 (ok:u.ok) (ih:∀ x ∈ u.l,x.ok→∀ H,DCall Tryz.prog 53 [x.agg] H fun r H'=>r=(norm x).agg∧H'=H) (hk:aexitTo 0 k=some k')
  (hend:∀ H v,Grow H 27 5 v u.l.length (TM.flat (norms u.l))→(u.l.length=0→v = .nils)→DR Tryz.prog (kof k85) 19 k' [(3,v)] H Q) :
  ∀ (e i:Nat) (H:AHeap) (v:AVal),i+e=u.l.length→Grow H 27 5 v i (TM.flat (norms (u.l.take i)))→(i=0→v = .nils)→DR Tryz.prog (kof k85) 19 (.code l85_0::.inLoop l85_0::k) [(3,v),(6,u.row),(7,.int .i64 (u.l.length:Nat)),(8,.int .i64 (i:Nat))] H Q:=by
 intro e
 induction e with
 | zero=>
  intro i H v hi hv hz
  have hc:abin .lss (.int .i64 (i:Nat)) (.int .i64 (u.l.length:Nat))=some (.bool false):=by simp [abin]; omega
  refine Dg rfl ?_
  simp -dsimp only [SE,astep,seval,hc]
  refine Dn rfl rfl ?_
  refine Dm rfl ?_
  refine DR.exit hk ?_
  obtain rfl:i=u.l.length:=by omega
  rw [List.take_length] at hv
  exact DR.only [3] (hend H v hv hz)
 | succ e ih2=>
  intro i H v hi hv hz
  have hc:abin .lss (.int .i64 (i:Nat)) (.int .i64 (u.l.length:Nat))=some (.bool true):=by simp [abin]; omega
  have hlt:i < u.l.length:=by omega
  have hx:u.l[i]? = some u.l[i]:=List.getElem?_eq_getElem hlt
  have hxo:=TM.ok_at ok hx
  have ra:=TM.row_at ok hx H
  have la:=TM.load u.l[i] (TM.flat (u.l.drop (i+1))) H
  have hle:=TM.len_le ok
  have hw:IntKind.i64.wrap ((i:Int)+1)=((i+1:Nat):Int):=wrap64 (n:=i+1) (by omega)
  obtain ⟨H1,hH1,g1,n1,f1⟩:=psh H (.cells 27 [.int .i64 0,.int .i64 0,.flt .f64 0,.str ⟨#[]⟩,.nils])
  have st:astore H1 5 (.ptr H.next 0) (AVal.agg (TM.c5 u.l[i]))=some (H1.set H.next (.cells 27 (TM.c5 u.l[i]))):=store_all (n:=5) (new:=TM.c5 u.l[i]) g1 rfl (TM.ones5 _) rfl
  obtain ⟨H2,hH2,g2,n2,f2⟩:=upd g1 (.cells 27 (TM.c5 u.l[i]))
  have l2:=load_all (n:=5) g2 rfl
  have hv2:Grow H2 27 5 v i (TM.flat (norms (u.l.take i))):=hv.frame fun j hj=>by
   have:=hv.lt hj
   rw [f2 j (by omega),f1 j this]
  refine Dg rfl ?_
  simp -dsimp only [SE,astep,seval,hc]
  refine Dy rfl rfl ?_
  refine Dg rfl ?_
  simp -dsimp only [SE,astep,seval,ra,la,← hH1,st,← hH2]
  refine Dg rfl ?_
  simp -dsimp only [SE,astep,seval,l2]
  refine (ih _ (List.getElem_mem hlt) hxo H2).mono ?_
  rintro r H' ⟨rfl,he⟩
  obtain rfl:=he.symm
  obtain ⟨H3,hH3,g3,n3,f3⟩:=psh H2 (.cells 27 (TM.c5 (norm u.l[i])))
  have hv3:Grow H3 27 5 v i (TM.flat (norms (u.l.take i))):=hv2.frame fun j hj=>f3 j (hv2.lt hj)
  obtain ⟨v',H4,ha,hg,_,_,_⟩:=hv3.one (b:=64) g3 rfl (TM.ones5 _) (by omega) (by omega) (by omega)
  have hcell:TM.flat (norms (u.l.take i))++TM.c5 (norm u.l[i])=TM.flat (norms (u.l.take (i+1))):=by
   rw [List.take_add_one,hx,norms_map,norms_map,List.map_append,flat_app]
   simp only [Option.toList_some,List.map_cons,List.map_nil,TM.flat,List.append_nil]
   rw [TM.cells_eq]
  rw [hcell] at hg
  simp -dsimp only [SE,astep,seval,TM.agg,AVal.cells,Env.parts,afill,aput,List.length_cons,List.length_nil,List.drop_succ_cons,List.drop_zero,List.drop_nil,List.append_nil,List.cons_append,List.nil_append,List.take_succ_cons,List.take_zero,← hH3,ha]
  refine Dg rfl ?_
  simp -dsimp only [SE,astep,seval,hw,abin]
  refine Dm rfl ?_
  refine DR.inLoop ?_
  exact ih2 (i+1) H4 v' (by omega) hg (fun h=>by omega)
end
theorem g68 {u:TM} (ok:u.ok) (ih:∀ x ∈ u.l,x.ok→∀ H,DCall Tryz.prog 53 [x.agg] H fun r H'=>r=(norm x).agg∧H'=H) (H:AHeap):DCall Tryz.prog 85 [u.row] H fun r H'=>r=(TM.of u.l.isEmpty (norms u.l)).row∧H'=H:=by
 have hlen:(norms u.l).length=u.l.length:=by rw [norms_map,List.length_map]
 refine DCall.closed (sz:=szs) (TM.purer) (Q:=fun r H1=>Grow H1 27 5 r u.l.length (TM.flat (norms u.l))∧(u.l.length=0→r = .nils)) (Q':=fun r=>r=(TM.of u.l.isEmpty (norms u.l)).row) ?_ ?_ H
 ·have hl:=TM.lenT ok AHeap.empty
  refine DCall.of_body (fn:=Tryz.f85) (by kernel_rfl) c85 (by kernel_rfl) (by simp [f85]) ?_
  unfold f85
  simp only []
  refine Dg rfl ?_
  simp -dsimp only [SE,astep,seval]
  refine Dg rfl ?_
  simp -dsimp only [SE,astep,seval]
  refine Dg rfl ?_
  simp -dsimp only [SE,astep,seval,hl]
  refine Dm rfl ?_
  refine DR.loop ?_
  refine loop68 ok ih rfl (fun H v hv hz=> ?_) u.l.length 0 AHeap.empty .nils (by omega) (Grow.nils _ _ _) (fun _=>rfl)
  refine Dg rfl ?_
  simp -dsimp only [SE,astep,seval]
  refine Dm rfl ?_
  exact DR.ret ⟨_,by simp [aresult,ares,Env.get] <;> rfl,hv,hz⟩
 ·rintro r H1 ⟨hg,hz⟩
  have hcs:(TM.flat (norms u.l)).length=u.l.length * 5:=by rw [TM.flat_length,hlen]
  have hp:=TM.pures (norms u.l)
  by_cases h0:u.l.length=0
  ·have hl:u.l=[]:=List.length_eq_zero_iff.mp h0
   rw [hz h0,hl]
   exact ⟨1,.nils,rfl,rfl⟩
  ·obtain ⟨_,⟨_,h⟩ | ⟨id,rfl,hb⟩⟩:=hg
   ·exact absurd h h0
   ·refine ⟨SizeOf.sizeOf (TM.flat (norms u.l))+1,.ros (TM.flat (norms u.l)) u.l.length,?_,?_⟩
    ·have h1:freezeL (freeze szs H1 (SizeOf.sizeOf (TM.flat (norms u.l)))) (TM.flat (norms u.l))=some (TM.flat (norms u.l)):=freezeL_all fun a ha=>freeze_pure _ a (List.sizeOf_lt_of_mem ha) (pures_mem hp a ha)
     have h2:((TM.flat (norms u.l)).drop 0).take (u.l.length * szs 27)=TM.flat (norms u.l):=by
      rw [List.drop_zero,show szs 27=5 from rfl,← hcs,List.take_length]
     simp only [freeze,hb,h2,h1]
    ·have:u.l.isEmpty=false:=by cases hu:u.l with
      | nil=>rw [hu] at h0; exact absurd rfl h0
      | cons a r=>rfl
     rw [this]
     show AVal.ros (TM.flat (norms u.l)) u.l.length = .ros (TM.flat (norms u.l)) (norms u.l).length
     rw [hlen]
theorem g50:∀ t:TM,t.ok→∀ H:AHeap,DCall Tryz.prog 53 [t.agg] H fun r H'=>r=(norm t).agg∧H'=H:=by
 refine TM.all fun t ih ok H=> ?_
 refine DCall.closed (sz:=szs) (TM.pures1 t) (Q:=fun r H1=>r=(norm t).agg) (Q':=fun r=>r=(norm t).agg) ?_ (fun r H1 e=>⟨SizeOf.sizeOf (norm t).agg+1,(norm t).agg,by rw [e]; exact freeze_pure _ _ (by omega) (by have:=TM.pures1 (norm t); simpa [AVal.pures] using this),rfl⟩) H
 obtain ⟨H1,hH1,g1,n1,f1⟩:=psh AHeap.empty (.cells 27 (TM.c5 t))
 obtain ⟨H2,hH2,g2,n2,f2⟩:=psh H1 (.cells 27 [.int .i64 0,.int .i64 0,.flt .f64 0,.str ⟨#[]⟩,.nils])
 have t1:=(f2 _ (by rw [n1]; omega)).trans g1
 have l4:=load_cell t1 (o:=4) (v:=t.row) rfl
 refine DCall.of_body (fn:=Tryz.f53) (by kernel_rfl) c53 (by kernel_rfl) (by simp [f53]) ?_
 unfold f53
 simp only []
 refine Dg rfl ?_
 simp -dsimp only [SE,astep,seval,← hH1,← hH2]
 refine Dg rfl ?_
 simp -dsimp only [SE,astep,seval,l4]
 have h68:DCall Tryz.prog 85 [t.row] H2 fun r H'=>r=(TM.of t.l.isEmpty (norms t.l)).row∧H'=H2:=g68 (TM.ok_of ok) (fun x hx hxo H=>ih x hx hxo H) H2
 refine h68.mono ?_
 rintro r H' ⟨rfl,he⟩
 obtain rfl:=he.symm
 have hrow:(TM.of t.l.isEmpty (norms t.l)).row.one=true:=by
  have:=TM.ones5 (norm t)
  cases t with
  | mk k n f s nl l=>cases l <;> rfl
 have s1:astore H2 1 (.ptr AHeap.empty.next 4) (TM.of t.l.isEmpty (norms t.l)).row=some (H2.set AHeap.empty.next (.cells 27 (TM.c5 (norm t)))):=by
  rw [norm_c5]
  exact astore_one t1 (o:=4) (by simp) hrow
 obtain ⟨H3,hH3,g3,n3,f3⟩:=upd t1 (.cells 27 (TM.c5 (norm t)))
 have l5:=load_all (n:=5) g3 rfl
 have t2:H3.get H1.next=some (.cells 27 [.int .i64 0,.int .i64 0,.flt .f64 0,.str ⟨#[]⟩,.nils]):=(f3 _ (by rw [n1]; omega)).trans g2
 have s2:astore H3 5 (.ptr H1.next 0) (.agg (TM.c5 (norm t)))=some (H3.set H1.next (.cells 27 (TM.c5 (norm t)))):=store_all (n:=5) (new:=TM.c5 (norm t)) t2 rfl (TM.ones5 _) rfl
 obtain ⟨H4,hH4,g4,n4,f4⟩:=upd t2 (.cells 27 (TM.c5 (norm t)))
 have l6:=load_all (n:=5) g4 rfl
 simp -dsimp only [SE,astep,seval,s1,← hH3]
 refine Dg rfl ?_
 simp -dsimp only [SE,astep,seval,l5,s2,← hH4]
 refine Dm rfl ?_
 exact DR.ret ⟨(norm t).agg,by simp only [aresult,ares,Env.get,if_true,Option.bind_eq_bind,Option.bind_some,l6]; rfl,rfl⟩
end Go.Am.Rl
namespace Go.Am.Rl
open Go.Proofs
theorem norm_inv {a b:TM} (h:norm a=norm b):b.k=a.k∧b.n=a.n∧b.f=a.f∧b.s=a.s∧b.l.length=a.l.length∧∀ (i:Nat) x y,a.l[i]? = some x→b.l[i]? = some y→norm x=norm y:=by
 cases a with
 | mk k n f s nl l=>
  cases b with
  | mk k' n' f' s' nl' l'=>
   simp only [norm,TM.mk.injEq] at h
   obtain ⟨rfl,rfl,rfl,rfl,_,h⟩:=h
   rw [norms_map,norms_map] at h
   refine ⟨rfl,rfl,rfl,rfl,by show l'.length=l.length; have:=congrArg List.length h; simpa using this.symm,fun i x y hx hy=> ?_⟩
   have:=congrArg (fun l=>l[i]?) h
   simp only [List.getElem?_map] at this
   rw [show l[i]? = some x from hx,show l'[i]? = some y from hy] at this
   simpa using this
theorem neq_int (k:IntKind) (n:Int):abin .neq (.int k n) (.int k n)=some (.bool false):=by simp [abin]
theorem neq_str (s:ByteArray):abin .neq (.str s) (.str s)=some (.bool false):=by simp [abin]
section
variable {a b:TM} {H:AHeap} {i1 i2:Nat} {k k':List AItem} {Q:Env→AHeap→Prop}
theorem loop11 (oa:a.ok) (ob:b.ok) (hlen:b.l.length=a.l.length) (hel:∀ (i:Nat) x y,a.l[i]? = some x→b.l[i]? = some y→norm x=norm y) (ih:∀ x ∈ a.l,∀ y:TM,x.ok→y.ok→norm x=norm y→∀ H,DCall Tryz.prog 8 [x.agg,y.agg] H fun r H'=>r = .bool true∧H'=H)
  (g1:H.get i1=some (.cells 27 (TM.c5 a))) (g2:H.get i2=some (.cells 27 (TM.c5 b))) (hk:aexitTo 0 k=some k') (hend:DR Tryz.prog (kof k8) 62 k' [] H Q) :
  ∀ (e i:Nat),i+e=a.l.length→DR Tryz.prog (kof k8) 62 (.code l8_0::.inLoop l8_0::k) [(2,.ptr i1 0),(3,.ptr i2 0),(5,.int .i64 (i:Nat))] H Q:=by
 intro e
 have l4:=load_cell g1 (o:=4) (v:=a.row) rfl
 have m4:=load_cell g2 (o:=4) (v:=b.row) rfl
 have hl:=TM.lenT oa H
 induction e with
 | zero=>
  intro i hi
  have hc:abin .lss (.int .i64 (i:Nat)) (.int .i64 (a.l.length:Nat))=some (.bool false):=by simp [abin]; omega
  refine Dg rfl ?_
  simp -dsimp only [SE,astep,seval,l4,hl,hc]
  refine Dn rfl rfl ?_
  refine Dm rfl ?_
  refine DR.exit hk ?_
  exact DR.only [] hend
 | succ e ih2=>
  intro i hi
  have hc:abin .lss (.int .i64 (i:Nat)) (.int .i64 (a.l.length:Nat))=some (.bool true):=by simp [abin]; omega
  have hlt:i < a.l.length:=by omega
  have hx:a.l[i]? = some a.l[i]:=List.getElem?_eq_getElem hlt
  have hlt':i < b.l.length:=by omega
  have hy:b.l[i]? = some b.l[i]:=List.getElem?_eq_getElem hlt'
  have hxo:=TM.ok_at oa hx
  have hyo:=TM.ok_at ob hy
  have ra:=TM.row_at oa hx H
  have la:=TM.load a.l[i] (TM.flat (a.l.drop (i+1))) H
  have rb:=TM.row_at ob hy H
  have lb:=TM.load b.l[i] (TM.flat (b.l.drop (i+1))) H
  have hle:=TM.len_le oa
  have hw:IntKind.i64.wrap ((i:Int)+1)=((i+1:Nat):Int):=wrap64 (n:=i+1) (by omega)
  refine Dg rfl ?_
  simp -dsimp only [SE,astep,seval,l4,hl,hc]
  refine Dy rfl rfl ?_
  refine Dm rfl ?_
  refine DR.draw (by kernel_rfl) d8_6 ?_
  simp -dsimp only [m8_6,SE,astep,seval,DS_nil,DS_cons,seesAll,staysAll,abit,List.getD_cons_zero,List.getD_cons_succ,AOp.quiet,AOp.reads,true_and,and_true,decide_true,decide_false,and_self,l4,m4,ra,la,rb,lb]
  refine (ih _ (List.getElem_mem hlt) _ hxo hyo (hel i _ _ hx hy) H).mono ?_
  rintro r H' ⟨rfl,he⟩
  obtain rfl:=he.symm
  simp -dsimp only [SE,astep,seval,DS_nil,DS_cons,seesAll,staysAll,abit,List.getD_cons_zero,List.getD_cons_succ,AOp.quiet,AOp.reads,true_and,and_true,decide_true,decide_false,and_self,l4,m4,ra,la,rb,lb,Bool.not_true]
  refine Dn rfl rfl ?_
  refine Dg rfl ?_
  simp -dsimp only [SE,astep,seval,hw,abin]
  refine Dm rfl ?_
  refine DR.inLoop ?_
  exact ih2 (i+1) (by omega)
end
theorem g11:∀ a:TM,∀ b:TM,a.ok→b.ok→norm a=norm b→∀ H:AHeap,DCall Tryz.prog 8 [a.agg,b.agg] H fun r H'=>r = .bool true∧H'=H:=by
 refine TM.all fun a ih b oa ob hab H=> ?_
 have hp:AVal.pures [a.agg,b.agg]=true:=by
  have h1:=TM.pures1 a
  have h2:=TM.pures1 b
  simp only [AVal.pures,Bool.and_true] at h1 h2 ⊢
  rw [h1,h2]; rfl
 refine DCall.closed (sz:=szs) hp (Q:=fun r H1=>r = .bool true) (Q':=fun r=>r = .bool true) ?_ (fun r H1 e=>⟨1,r,by rw [e]; rfl,e⟩) H
 obtain ⟨hk,hn,hf,hs,hlen,hel⟩:=norm_inv hab
 obtain ⟨H1,hH1,g1,n1,f1⟩:=psh AHeap.empty (.cells 27 (TM.c5 a))
 obtain ⟨H2,hH2,g2,n2,f2⟩:=psh H1 (.cells 27 (TM.c5 b))
 have t1:=(f2 _ (by rw [n1]; omega)).trans g1
 have a0:=load_cell t1 (o:=0) (v:=.int .i64 a.k) rfl
 have a1:=load_cell t1 (o:=1) (v:=.int .i64 a.n) rfl
 have a2:=load_cell t1 (o:=2) (v:=.flt .f64 a.f) rfl
 have a3:=load_cell t1 (o:=3) (v:=.str a.s) rfl
 have a4:=load_cell t1 (o:=4) (v:=a.row) rfl
 have b0:=load_cell g2 (o:=0) (v:=.int .i64 b.k) rfl
 have b1:=load_cell g2 (o:=1) (v:=.int .i64 b.n) rfl
 have b2:=load_cell g2 (o:=2) (v:=.flt .f64 b.f) rfl
 have b3:=load_cell g2 (o:=3) (v:=.str b.s) rfl
 have b4:=load_cell g2 (o:=4) (v:=b.row) rfl
 rw [hk] at b0; rw [hn] at b1; rw [hf] at b2; rw [hs] at b3
 have hla:=TM.lenT oa H2
 have hlb:=TM.lenT ob H2
 rw [hlen] at hlb
 have e0:∀ f:Nat,aext 0 [.flt .f64 f]=some (.int .u64 f):=fun f=>rfl
 have c0:=neq_int .i64 a.k
 have c1:=neq_int .i64 a.n
 have c2:=neq_int .u64 a.f
 have c3:=neq_str a.s
 have c4:=neq_int .i64 (a.l.length:Nat)
 refine DCall.of_body (fn:=Tryz.f8) (by kernel_rfl) c8 (by kernel_rfl) (by simp [f8]) ?_
 unfold f8
 simp only []
 refine Dg rfl ?_
 simp -dsimp only [SE,astep,seval,← hH1,← hH2]
 refine Dm rfl ?_
 refine DR.draw (by kernel_rfl) d8_1 ?_
 simp -dsimp only [m8_1,SE,astep,seval,DS_nil,DS_cons,seesAll,staysAll,abit,List.getD_cons_zero,List.getD_cons_succ,AOp.quiet,AOp.reads,true_and,and_true,decide_true,decide_false,and_self,a0,a1,a2,a3,a4,b0,b1,b2,b3,b4,hla,hlb,e0,c0,c1,c2,c3,c4]
 refine Dn rfl rfl ?_
 refine Dg rfl ?_
 simp -dsimp only [SE,astep,seval]
 refine Dm rfl ?_
 refine DR.loop ?_
 refine loop11 oa ob hlen hel (fun x hx y ox oy h H=>ih x hx y ox oy h H) t1 g2 rfl ?_ a.l.length 0 (by omega)
 refine Dg rfl ?_
 simp -dsimp only [SE,astep,seval]
 refine Dm rfl ?_
 exact DR.ret ⟨_,by simp [aresult,ares,Env.get] <;> rfl,rfl⟩
end Go.Am.Rl
namespace Go.Am.Rl
open Go.Proofs
def Gro (H H':AHeap):Prop:=H.next≤H'.next∧∀ j,j < H.next→H'.get j=H.get j
theorem Gro.refl (H:AHeap):Gro H H:=⟨Nat.le_refl _,fun _ _=>rfl⟩
theorem Gro.trans {H H1 H2:AHeap} (h:Gro H H1) (k:Gro H1 H2):Gro H H2:=⟨Nat.le_trans h.1 k.1,fun j hj=>(k.2 j (Nat.lt_of_lt_of_le hj h.1)).trans (h.2 j hj)⟩
theorem Gro.get {H H':AHeap} (h:Gro H H') {i:Nat} {b:ABlk} (hi:H.get i=some b):H'.get i=some b:=(h.2 i (AHeap.get_lt hi)).trans hi
abbrev z25:List AVal:=[.int .i64 0,.int .i64 0,.flt .f64 0,.str ⟨#[]⟩,.nils]
abbrev err (e:Int):AVal:=.ifc 28 (.int .i64 e)
theorem u49r {H:AHeap} {b2 b3:Nat}:DCallD Tryz.prog 52 [.ptr b2 0,.ptr b3 0] .ret H fun m' H'=>m' = .ret∧H'=H:=by
 refine DCallD.of_recov (fn:=Tryz.f52) (by kernel_rfl) c52 (by kernel_rfl) (d:=5) rfl (by simp [f52]) ?_
 simp -dsimp only [SE,astep,seval,AEnd.told]
 refine Dg rfl ?_
 simp -dsimp only [SE,astep,seval,anil]
 refine Dy rfl rfl ?_
 refine Dg rfl ?_
 simp -dsimp only [SE,astep,seval]
 refine Dm rfl ?_
 exact DR.done ⟨.tup [],rfl,rfl⟩
theorem u49p {H:AHeap} {b2 b3:Nat} {e x:Int} {c2:List AVal} (h2:H.get b2=some (.cells 27 c2)) (l2:c2.length=5) (h3:H.get b3=some (.cells 28 [.int .i64 x])) (hne:b2≠b3) :
  DCallD Tryz.prog 52 [.ptr b2 0,.ptr b3 0] (.pan (err e)) H fun m' H'=>m' = .ret∧H'.get b2=some (.cells 27 z25)∧H'.get b3=some (.cells 28 [.int .i64 e])∧H.next≤H'.next∧∀ j,j < H.next→j≠b2→j≠b3→H'.get j=H.get j:=by
 refine DCallD.of_recov (fn:=Tryz.f52) (by kernel_rfl) c52 (by kernel_rfl) (d:=5) rfl (by simp [f52]) ?_
 simp -dsimp only [SE,astep,seval,AEnd.told,err]
 refine Dg rfl ?_
 simp -dsimp only [SE,astep,seval,anil]
 refine Dn rfl rfl ?_
 have ix0:([.int .i64 e,.bool true]:List AVal)[0]? = some (.int .i64 e):=rfl
 have ix1:([.int .i64 e,.bool true]:List AVal)[1]? = some (.bool true):=rfl
 refine Dg rfl ?_
 simp -dsimp only [SE,astep,seval,atassert,ix0,ix1]
 refine Dy rfl rfl ?_
 refine Dg rfl ?_
 simp -dsimp only [SE,astep,seval]
 have s3:=store_all (n:=5) h2 (new:=z25) (by rw [l2]; rfl) rfl l2
 obtain ⟨H3,hH3,g3,n3,f3⟩:=upd h2 (.cells 27 z25)
 have h33:H3.get b3=some (.cells 28 [.int .i64 x]):=(f3 b3 hne.symm).trans h3
 have s4:astore H3 1 (.ptr b3 0) (.int .i64 e)=some (H3.set b3 (.cells 28 [.int .i64 e])):=astore_one h33 (o:=0) (by simp) rfl
 obtain ⟨H4,hH4,g4,n4,f4⟩:=upd h33 (.cells 28 [.int .i64 e])
 refine Dg rfl ?_
 simp -dsimp only [SE,astep,seval,Env.parts,afill,s3,← hH3,s4,← hH4]
 refine Dm rfl ?_
 exact DR.done ⟨.tup [],rfl,(f4 b2 hne).trans g3,g4,by omega,fun j hj h2 h3=>by rw [f4 j h3,f3 j h2]⟩
theorem g22 {g:FuncId} {caps:List AVal} {H:AHeap} {Y:TM→Prop} {E:Int→Prop}
  (h:∀ H2,Gro H H2→DCallX Tryz.prog g caps H2 fun o H3=>Gro H2 H3∧((∃ y:TM,y.ok∧Y y∧o = .ret y.agg)∨∃ e,E e∧o = .pan (err e))) :
  DCallX Tryz.prog 16 [.fn (.func g) [] caps] H fun o H'=>Gro H H'∧((∃ y:TM,y.ok∧Y y∧o = .ret (.tup [(norm y).agg,.int .i64 0]))∨∃ e,E e∧o = .ret (.tup [.agg z25,.int .i64 e])):=by
 obtain ⟨H1,hH1,g1,n1,f1⟩:=psh H (.cells 27 z25)
 obtain ⟨H2,hH2,g2,n2,f2⟩:=psh H1 (.cells 28 [.int .i64 0])
 have t1:=(f2 _ (by rw [n1]; omega)).trans g1
 have b2:Gro H H2:=⟨by rw [n2,n1]; omega,fun j hj=>by rw [f2 j (by omega),f1 j hj]⟩
 have hz:z25=[.int .i64 0,.int .i64 0,.flt .f64 0,.str ⟨#[]⟩,.nils]:=rfl
 refine DCallX.of_body (fn:=Tryz.f16) (by kernel_rfl) c16 (by kernel_rfl) (by simp [f16]) ?_
 unfold f16
 simp only []
 refine DRX.go rfl ?_
 simp -dsimp only [XZ,SE,astep,seval,← hz,← hH1,← hH2]
 refine DRX.go rfl ?_
 simp -dsimp only [XZ,SE,astep,seval]
 refine DRX.go rfl ?_
 simp -dsimp only [XZ,SE,astep,seval,List.append_nil,List.nil_append]
 refine (h H2 b2).mono ?_
 rintro o H3 ⟨b3,⟨y,ok,hy,rfl⟩ | ⟨e,he,rfl⟩⟩
 ·have t3:=b3.get t1
  have t3':=b3.get g2
  have s1:=store_all (n:=5) t3 (new:=TM.c5 (norm y)) rfl (TM.ones5 _) rfl
  obtain ⟨H4,hH4,g4,n4,f4⟩:=upd t3 (.cells 27 (TM.c5 (norm y)))
  have t4:H4.get H1.next=some (.cells 28 [.int .i64 0]):=(f4 _ (by omega)).trans t3'
  have s2:astore H4 1 (.ptr H1.next 0) (.int .i64 0)=some (H4.set H1.next (.cells 28 [.int .i64 0])):=astore_one t4 (o:=0) (by simp) rfl
  obtain ⟨H5,hH5,g5,n5,f5⟩:=upd t4 (.cells 28 [.int .i64 0])
  have lr2:=load_all (n:=5) ((f5 H.next (by omega)).trans g4) rfl
  have lr3:=load_cell g5 (o:=0) (v:=.int .i64 0) rfl
  have b5:Gro H H5:=⟨by have:=b2.1; have:=b3.1; omega,fun j hj=>by rw [f5 j (by omega),f4 j (by omega),b3.2 j (by have:=b2.1; omega),b2.2 j hj]⟩
  simp -dsimp only [XZ,SE,astep,seval]
  refine DCall.monoX (g50 y ok H3) ?_
  rintro r H' ⟨rfl,hh⟩
  obtain rfl:=hh.symm
  simp -dsimp only [XZ,SE,astep,seval,s1,← hH4,s2,← hH5]
  refine DRX.nm rfl ?_
  refine DRX.ret (DCallD.mono u49r ?_)
  rintro m H9 ⟨rfl,rfl⟩
  exact ⟨.tup [(norm y).agg,.int .i64 0],by simp [aresult,ares,Env.get,lr2,lr3],b5,.inl ⟨y,ok,hy,rfl⟩⟩
 ·have t3:=b3.get t1
  have t3':=b3.get g2
  refine DCallD.mono (u49p t3 rfl t3' (by omega)) ?_
  rintro m H7 ⟨rfl,g72,g73,n7,f7⟩
  have lr2:=load_all (n:=5) g72 rfl
  have lr3:=load_cell g73 (o:=0) (v:=.int .i64 e) rfl
  refine ⟨.tup [.agg z25,.int .i64 e],by simp [aresult,ares,Env.get,lr2,lr3],⟨by have:=b2.1; have:=b3.1; omega,fun j hj=> ?_⟩,.inr ⟨e,he,rfl⟩⟩
  rw [f7 j (by have:=b2.1; have:=b3.1; omega) (by omega) (by omega),b3.2 j (by have:=b2.1; omega),b2.2 j hj]
end Go.Am.Rl
namespace Go.Am.Rl
open Go.Proofs
theorem g48 {H:AHeap}:DCallX Tryz.prog 51 [] H fun o H'=>Gro H H'∧o = .pan (err 13):=by
 obtain ⟨H1,hH1,g1,n1,f1⟩:=psh H (.cells 27 z25)
 have hz:z25=[.int .i64 0,.int .i64 0,.flt .f64 0,.str ⟨#[]⟩,.nils]:=rfl
 refine DCallX.of_body (fn:=Tryz.f51) (by kernel_rfl) c51 (by kernel_rfl) (by simp [f51]) ?_
 unfold f51
 simp only []
 refine DRX.go rfl ?_
 simp -dsimp only [XZ,SE,astep,seval,← hz,← hH1]
 refine DRX.go rfl ?_
 simp -dsimp only [XZ,SE,astep,seval]
 exact ⟨⟨by omega,f1⟩,rfl⟩
end Go.Am.Rl
namespace Go.Am.Rl
open Go.Proofs
def Tells (H:AHeap) (Y:TM→Prop) (E:Int→Prop) (o:AOut) (H':AHeap):Prop:=Gro H H'∧((∃ y:TM,y.ok∧Y y∧o = .ret y.agg)∨∃ e,E e∧o = .pan (err e))
section
variable {u:TM} {f:FuncId} {Y:TM→Prop} {E:Int→Prop}
end
end Go.Am.Rl
namespace Go.Am.Rl
open Go.Proofs
theorem DCallX.plain {P:Program} {f:FuncId} {xs:List AVal} {H:AHeap} {Q:AVal→AHeap→Prop} (h:DCallX P f xs H fun o H'=>∃ v,o = .ret v∧Q v H'):DCall P f xs H Q:=by
 obtain ⟨o,H',⟨v,rfl,hq⟩,d⟩:=h
 exact ⟨v,H',hq,d.det⟩
def Called (Y:TM→Prop) (E:Int→Prop) (r:AVal):Prop:=(∃ y:TM,y.ok∧Y y∧r = .tup [(norm y).agg,.bool true])∨((∃ e,E e)∧r = .tup [.agg z25,.bool false])
end Go.Am.Rl
namespace Go.Am.Rl
open Go.Proofs
theorem TM.ok_oks {t:TM} (h:t.ok):TM.oks t.l:=by
 cases t with
 | mk k n f s nl l=>exact h.2.2.2.2.2.2
theorem norm_ok:∀ t:TM,t.ok→(norm t).ok:=by
 refine TM.all fun t ih ok=> ?_
 have hm:∀ l:List TM,(∀ x ∈ l,(norm x).ok)→TM.oks (norms l):=by
  intro l
  induction l with
  | nil=>intro _; trivial
  | cons a r ihl=>intro h; exact ⟨h a (List.mem_cons_self ..),ihl fun x hx=>h x (List.mem_cons_of_mem _ hx)⟩
 cases t with
 | mk k n f s nl l=>
  refine ⟨ok.1,ok.2.1,ok.2.2.1,ok.2.2.2.1,by rw [norms_map,List.length_map]; exact ok.2.2.2.2.1,fun h=> ?_,hm l fun x hx=>ih x hx (TM.oks_mem ok.2.2.2.2.2.2 x hx)⟩
  rw [List.isEmpty_iff] at h
  rw [h]; rfl
theorem Called.pure {Y:TM→Prop} {E:Int→Prop} {r:AVal} (h:Called Y E r):r.pure=true:=by
 rcases h with ⟨y,_,_,rfl⟩ | ⟨_,rfl⟩
 ·have:=TM.pures1 (norm y)
  simp only [AVal.pures,AVal.pure,Bool.and_true] at this ⊢
  exact this
 ·rfl
end Go.Am.Rl
namespace Go.Am.Rl
open Go.Proofs
theorem deep_mono:∀ t:TM,t.ok→∀ d e:Nat,d≤e→deep t d→deep t e:=by
 refine TM.all fun t ih ok d e h hd=> ?_
 obtain ⟨h1,h2⟩:=(deep_eq t d).mp hd
 exact (deep_eq t e).mpr ⟨by omega,deeps_iff.mpr fun x hx=>ih x hx (TM.oks_mem (TM.ok_oks ok) x hx) _ _ (by omega) (deeps_iff.mp h2 x hx)⟩
theorem right_of {t:TM} (ok:t.ok) (h:right t) {x:TM} (hx:x ∈ t.l):right x:=by
 obtain ⟨hw,hd,hf⟩:=h
 obtain ⟨i,hi⟩:=List.getElem?_of_mem hx
 have h1:=words_le hi
 have h2:=words_eq t
 exact ⟨by omega,deep_mono x (TM.oks_mem (TM.ok_oks ok) x hx) _ _ (by omega) (deeps_iff.mp ((deep_eq t _).mp hd).2 x hx),fines_iff.mp ((fine_eq t).mp hf).2 x hx⟩
abbrev lst8 (nl:Bool) (l:List TM):TM:=.mk 8 0 0 ⟨#[]⟩ nl l
theorem lst8_ok {nl:Bool} {l:List TM} (h:TM.oks l) (hl:l.length≤2 ^ 41) (hn:nl=true→l=[]):(lst8 nl l).ok:=⟨by kernel_rfl,by kernel_rfl,by kernel_rfl,Nat.zero_le _,hl,hn,h⟩
theorem right_lst {t:TM} (hk:t.k=8) (h:right t) (nl:Bool):right (lst8 nl t.l):=by
 obtain ⟨hw,hd,hf⟩:=h
 refine ⟨?_,(deep_eq _ _).mpr ((deep_eq t _).mp hd),(fine_eq _).mpr ⟨.inr (.inr (.inr (.inr (.inr ⟨.inr rfl,rfl,rfl,rfl⟩)))),((fine_eq t).mp hf).2⟩⟩
 rw [words_eq] at hw ⊢
 rw [hk] at hw
 exact hw
end Go.Am.Rl
namespace Go.Am.Rl
def ordI (a b:Int):Int:=if a < b then -1 else if b < a then 1 else 0
def ordF (x y:Nat):Int:=match FloatKind.f64.format.order x y with
 | some .lt=> -1
 | some .gt=>1
 | _=>0
theorem ordF_in (x y:Nat) : -1≤ordF x y∧ordF x y≤1:=by unfold ordF; split <;> omega
def isT:Option AVal→Bool
 | some (.bool b)=>b
 | _=>false
def exactv (f:Nat) (n:Int):Int:=
 if isT (abin .geq (.flt .f64 f) (.flt .f64 4890909195324358656))=true then 1
 else if isT (abin .lss (.flt .f64 f) (.flt .f64 14114281232179134464))=true then -1
 else match aext 3 [.flt .f64 f] with
  | some (.flt .f64 t)=>match fltInt .f64 .f64 .i64 t with
   | some w=>if w < n then -1 else if n < w then 1 else if isT (abin .lss (.flt .f64 f) (.flt .f64 t))=true then -1 else if isT (abin .gtr (.flt .f64 f) (.flt .f64 t))=true then 1 else 0
   | none=>0
  | _=>0
theorem in_if {c:Prop} [Decidable c] {x y:Int} (hx : -1≤x∧x≤1) (hy : -1≤y∧y≤1) : -1≤(if c then x else y)∧(if c then x else y)≤1:=by split <;> assumption
theorem exactv_in (f:Nat) (n:Int) : -1≤exactv f n∧exactv f n≤1:=by
 unfold exactv
 refine in_if (by decide) (in_if (by decide) ?_)
 cases aext 3 [.flt .f64 f] with
 | none=>exact (show -1≤(0:Int)∧(0:Int)≤1 by decide)
 | some u=>
  cases u with
  | flt k t=>
   cases k with
   | f64=>
    simp only
    cases fltInt .f64 .f64 .i64 t with
    | none=>exact (show -1≤(0:Int)∧(0:Int)≤1 by decide)
    | some w=>exact in_if (by decide) (in_if (by decide) (in_if (by decide) (in_if (by decide) (by decide))))
   | f32=>exact (show -1≤(0:Int)∧(0:Int)≤1 by decide)
  | _=>exact (show -1≤(0:Int)∧(0:Int)≤1 by decide)
def numv (k n:Int) (f:Nat) (k' n':Int) (f':Nat):Int:=
 if k=1∧k'=1 then ordI n n' else if k=1 then - exactv f' n else if k'=1 then exactv f n' else ordF f f'
def cmpv (a b:ByteArray):Int:=Extern.BytealgCompare.cmp a b
theorem cmpv_in (a b:ByteArray) : -1≤cmpv a b∧cmpv a b≤1:=by unfold cmpv Extern.BytealgCompare.cmp; repeat' split <;> omega
def rank (k:Int):Int:=if k=1∨k=2 then 0 else k
mutual
def ord:TM→TM→Int
 | .mk k n f s nl l,b=>
  if rank k - rank b.k≠0 then ordI (rank k - rank b.k) 0
  else if k=1∨k=2 then numv k n f b.k b.n b.f
  else if k=3 then cmpv s b.s
  else if k=4∨k=6 then ordI n b.n
  else if k=5 then (if ordI n b.n≠0 then ordI n b.n else ords l b.l)
  else if k=7 then (if ordI l.length b.l.length≠0 then ordI l.length b.l.length else ords l b.l)
  else ords l b.l
def ords:List TM→List TM→Int
 | [],[]=>0
 | [],_::_=> -1
 | _::_,[]=>1
 | x::r,y::s=>if ord x y≠0 then ord x y else ords r s
end
theorem ord_eq (a b:TM):ord a b=if rank a.k - rank b.k≠0 then ordI (rank a.k - rank b.k) 0
  else if a.k=1∨a.k=2 then numv a.k a.n a.f b.k b.n b.f
  else if a.k=3 then cmpv a.s b.s
  else if a.k=4∨a.k=6 then ordI a.n b.n
  else if a.k=5 then (if ordI a.n b.n≠0 then ordI a.n b.n else ords a.l b.l)
  else if a.k=7 then (if ordI a.l.length b.l.length≠0 then ordI a.l.length b.l.length else ords a.l b.l)
  else ords a.l b.l:=by
 cases a; rw [ord]; rfl
theorem fine_kind {t:TM} (h:fine t):1≤t.k∧t.k≤8:=by
 rcases ((fine_eq t).mp h).1 with ⟨h,_⟩ | ⟨h,_⟩ | ⟨h,_⟩ | ⟨h | h,_⟩ | ⟨h,_⟩ | ⟨h | h,_⟩ <;> omega
theorem rank_pos {k:Int} (h:1≤k):rank k=0↔k=1∨k=2:=by unfold rank; split <;> omega
mutual
def samev:TM→TM→Bool
 | .mk k n f s nl l,b=>k==b.k&&(if k=1∨k=2 then n==b.n&&f==b.f else n==b.n&&(s.toList==b.s.toList&&samevs l b.l))
def samevs:List TM→List TM→Bool
 | [],[]=>true
 | x::r,y::s=>samev x y&&samevs r s
 | _,_=>false
end
theorem samev_eq (a b:TM):samev a b=(a.k==b.k&&(if a.k=1∨a.k=2 then a.n==b.n&&a.f==b.f else a.n==b.n&&(a.s.toList==b.s.toList&&samevs a.l b.l))):=by
 cases a; rw [samev]; rfl
theorem samevs_len:∀ {l m:List TM},samevs l m=true→l.length=m.length
 | [],[],_=>rfl
 | [],_::_,h=>by simp [samevs] at h
 | _::_,[],h=>by simp [samevs] at h
 | x::r,y::s,h=>by
  simp only [samevs,Bool.and_eq_true] at h
  simp only [List.length_cons,samevs_len h.2]
end Go.Am.Rl
