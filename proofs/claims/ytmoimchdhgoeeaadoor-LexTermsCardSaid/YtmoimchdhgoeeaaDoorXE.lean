/- Parts: W5, V37, V38, W6, ZT. -/
import Derived.Test.YtmoimchdhgoeeaaDoorXD
import Derived.Test.YtmoimchdhgoeeaaDoorXC
import Derived.Test.YtmoimchdhgoeeaaDoorXB
import Derived.Test.YtmoimchdhgoeeaaDoorXA
import Derived.Test.YtmoimchdhgoeeaaDoorAmS
import Derived.Test.YtmoimchdhgoeeaaDoorAmQ
set_option linter.unusedVariables false
set_option linter.unusedSimpArgs false
set_option maxRecDepth 20000
set_option maxRecDepth 100000
namespace Go.Am.Rl
open Go.Proofs
structure Grown (H:AHeap) (x:AVal) (H':AHeap) (r:AVal) (L:List (List AVal)):Prop where
  gr:Grow H' 35 5 r L.length L.flatten
  nx:H.next≤H'.next
  fr:∀ j,j < H.next→rid x≠some j→H'.get j=H.get j
  own:∀ j,rid r=some j→rid x=some j∨H.next≤j
theorem Grown.refl {H:AHeap} {x:AVal} {L:List (List AVal)} (h:Grow H 35 5 x L.length L.flatten):Grown H x H x L:=⟨h,Nat.le_refl _,fun _ _ _=>rfl,fun _ h=>.inl h⟩
theorem Grown.trans {H H1 H2:AHeap} {x y z:AVal} {L M:List (List AVal)} (a:Grown H x H1 y L) (b:Grown H1 y H2 z M):Grown H x H2 z M:=
  ⟨b.gr,Nat.le_trans a.nx b.nx,fun j hj hn=>by
    rw [b.fr j (Nat.lt_of_lt_of_le hj a.nx) (fun e=>by rcases a.own j e with h | h; exact hn h; omega),a.fr j hj hn],
   fun j hj=>by
    rcases b.own j hj with h | h
    · exact a.own j h
    · have:=a.nx; exact .inr (by omega)⟩
theorem Grown.push {H H1:AHeap} {x:AVal} {L:List (List AVal)} (h:Grow H 35 5 x L.length L.flatten) {b:ABlk} (e:H1=H.push b):Grown H x H1 x L:=by
  subst e
  exact ⟨h.frame fun id hid=>by have:=h.lt hid; rw [AHeap.get_push,if_neg (by omega)],by simp,fun j hj _=>by rw [AHeap.get_push,if_neg (by omega)],fun _ h=>.inl h⟩
theorem Grown.one {H:AHeap} {x:AVal} {L:List (List AVal)} (h:Grow H 35 5 x L.length L.flatten) (c:List AVal) (hc:c.length=5∧ones c=true) (hl:L.length < 1000000) :
    ∃ x' H',aapp 35 5 48 (H.push (.cells 35 c)) x (.sl H.next 0 1 (some 1))=some (x',H')∧Grown H x H' x' (L++[c]):=by
  have hg:(H.push (.cells 35 c)).get H.next=some (.cells 35 c):=by rw [AHeap.get_push,if_pos rfl]
  have hgr:Grow (H.push (.cells 35 c)) 35 5 x L.length L.flatten:=h.frame fun id hid=>by
    have:=h.lt hid
    rw [AHeap.get_push,if_neg (by omega)]
  obtain ⟨x',H',h1,h2,h3,h4,h5⟩:=hgr.one hg hc.1 hc.2 (by omega) (b:=48) (by omega) (by omega)
  have hn:(H.push (.cells 35 c)).next=H.next+1:=rfl
  refine ⟨x',H',h1,⟨?_,by omega,fun j hj hne=> ?_,fun j hj=> ?_⟩⟩
  · have e1:(L++[c]).flatten=L.flatten++c:=by simp
    have e2:(L++[c]).length=L.length+1:=by simp
    rw [e1,e2]; exact h2
  · rw [h4 j (by omega) hne,AHeap.get_push,if_neg (by omega)]
  · have:=h5 j hj; exact .inr (by omega)
theorem atsT_app:∀ (l m:List TM),atsT (l++m)=atsT l++atsT m
  | [],m=>rfl
  | x::r,m=>by
    have:=atsT_app r m
    rw [List.cons_append]
    simp only [atsT]
    rw [this,List.append_assoc]
theorem ats_take {l:List TM} {i:Nat} {x:TM} (hx:l[i]? = some x):atsT (l.take (i+1))=atsT (l.take i)++atT x:=by
  have e:l.take (i+1)=l.take i++[x]:=by rw [List.take_add_one,hx]; rfl
  rw [e,atsT_app]
  simp [atsT]
theorem ats_mem {l:List TM} {i:Nat} {x:TM} (hx:l[i]? = some x):(atsT (l.take i)).length+(atT x).length≤(atsT l).length:=by
  have h1:=ats_take hx
  have h2:=congrArg List.length (atsT_app (l.take (i+1)) (l.drop (i+1)))
  rw [List.take_append_drop,h1] at h2
  simp only [List.length_append] at h2
  omega
section
variable {t:TM} {H0:AHeap} {x0:AVal} {L:List (List AVal)} {id:Nat} {k k':List AItem} {Q:Env→AHeap→Prop}
theorem loop20 (ok:t.ok) (ih:∀ y ∈ t.l,y.ok→∀ (M:List (List AVal)) (x:AVal) (H:AHeap),Grow H 35 5 x M.length M.flatten→M.length+(atT y).length≤900000→DCall Tryd.prog 20 [y.agg,x] H fun r H'=>Grown H x H' r (M++atT y))
    (hn:L.length+(atsT t.l).length≤900000) (hk:aexitTo 1 k=some k') (hend:∀ x H,Grown H0 x0 H x (L++atsT t.l)→DR Tryd.prog (kof k20) 57 k' [(1,x)] H Q) :
    ∀ (d i:Nat) (x:AVal) (H:AHeap),i+d=t.l.length→Grown H0 x0 H x (L++atsT (t.l.take i))→H.get id=some (.cells 44 (TM.c5 t))→rid x≠some id→DR Tryd.prog (kof k20) 57 (.code l20_0::.inLoop l20_0::k) [(1,x),(2,.ptr id 0),(6,.int .i64 (i:Nat))] H Q:=by
  intro d
  induction d with
  | zero=>
    intro i x H hi hG g hne
    have l4:=load_cell g (o:=4) (v:=t.row) rfl
    have hl:=TM.lenT ok H
    have hc:=lss_nat i t.l.length
    rw [decide_eq_false (by omega)] at hc
    refine Dg rfl ?_
    simp -dsimp only [SE,astep,seval,rowq,l4,hl,hc]
    refine Dn rfl rfl ?_
    refine DR.exit (k':=k') (by simpa [aexitTo] using hk) ?_
    rw [List.take_of_length_le (by omega)] at hG
    exact DR.only [1] (hend x H hG)
  | succ d ih2=>
    intro i x H hi hG g hne
    have l4:=load_cell g (o:=4) (v:=t.row) rfl
    have hl:=TM.lenT ok H
    have hc:=lss_nat i t.l.length
    rw [decide_eq_true (by omega)] at hc
    have hlt:i < t.l.length:=by omega
    have hx:t.l[i]? = some t.l[i]:=List.getElem?_eq_getElem hlt
    have hxo:=TM.ok_at ok hx
    have ra:=TM.row_at ok hx H
    have la:=TM.load t.l[i] (TM.flat (t.l.drop (i+1))) H
    have hle:=TM.len_le ok
    have hadd:=inc_nat (i:=i) (by omega)
    have hm:=ats_mem hx
    refine Dg rfl ?_
    simp -dsimp only [SE,astep,seval,rowq,l4,hl,hc]
    refine Dy rfl rfl ?_
    refine Dg rfl ?_
    simp -dsimp only [SE,astep,seval,rowq,l4,ra,la]
    refine (ih _ (List.getElem_mem hlt) hxo (L++atsT (t.l.take i)) x H hG.gr (by rw [List.length_append]; omega)).mono ?_
    rintro r H' hG2
    rw [List.append_assoc,← ats_take hx] at hG2
    have g':=(hG2.fr id (AHeap.get_lt g) hne).trans g
    have hne':rid r≠some id:=fun e=>by
      rcases hG2.own id e with h | h
      · exact hne h
      · have:=AHeap.get_lt g; omega
    simp -dsimp only [SE,astep,seval,rowq]
    refine Dg rfl ?_
    simp -dsimp only [SE,astep,seval,rowq,hadd]
    refine Dm rfl ?_
    refine DR.inLoop ?_
    exact ih2 (i+1) r H' (by omega) (hG.trans hG2) g' hne'
end
theorem g20:∀ t:TM,t.ok→fine t→sayT t→∀ (L:List (List AVal)) (x:AVal) (H:AHeap),Grow H 35 5 x L.length L.flatten→L.length+(atT t).length≤900000→DCall Tryd.prog 20 [t.agg,x] H fun r H'=>Grown H x H' r (L++atT t):=by
  refine TM.all fun t ih ok hf hs L x H hG hn=> ?_
  obtain ⟨H1,hH1,g1,n1,f1⟩:=psh H (.cells 44 (TM.c5 t))
  have hG1:=Grown.push hG hH1
  have hne:rid x≠some H.next:=fun e=>by have:=hG.lt e; omega
  have l0:=load_cell g1 (o:=0) (v:=.int .i64 t.k) rfl
  have ln:=load_cell g1 (o:=1) (v:=.int .i64 t.n) rfl
  have lf:=load_cell g1 (o:=2) (v:=.flt .f64 t.f) rfl
  have l3:=load_cell g1 (o:=3) (v:=.str t.s) rfl
  have hf':=(fine_eq t).mp hf
  have hfl:=fines_iff.mp hf'.2
  have rest:∀ (M:List (List AVal)) (y:AVal) (H2:AHeap),Grown H x H2 y M→H2.get H.next=some (.cells 44 (TM.c5 t))→rid y≠some H.next→M++atsT t.l=L++atT t→sayL t.l→DR Tryd.prog (kof k20) 57 [.code l20_0,.inLoop l20_0,.inBlock 1,.code (.seq (.region false r20_16 [4]) .ret)] [(1,y),(2,.ptr H.next 0),(6,.int .i64 ((0:Nat):Int))] H2 fun T' H'=>∃ r,aresult H' T' [.tmp 4]=some r∧Grown H x H' r (L++atT t):=by
    intro M y H2 hM g2 hy hE hsl
    have hlen:=congrArg List.length hE
    rw [List.length_append,List.length_append] at hlen
    refine loop20 (L:=M) ok (fun y hy hyo M x H hg hn=>ih y hy hyo (hfl y hy) (sayL_iff.mp hsl y hy) M x H hg hn) (by omega) rfl (fun z H3 hz=> ?_) t.l.length 0 y H2 (by omega) (by simpa [atsT] using hM) g2 hy
    rw [hE] at hz
    refine Dg rfl ?_
    simp -dsimp only [SE,astep,seval,rowq]
    refine Dm rfl ?_
    exact DR.ret ⟨z,by simp [aresult,ares,Env.get] <;> rfl,hz⟩
  have two:∀ {y:AVal} {H2 H3:AHeap} {M N:List (List AVal)},H2.get H.next=some (.cells 44 (TM.c5 t))→rid y≠some H.next→∀ {z:AVal},Grown H2 y H3 z N→H3.get H.next=some (.cells 44 (TM.c5 t))∧rid z≠some H.next:=fun {y H2 H3 M N} g hy {z} h=>
    ⟨(h.fr _ (AHeap.get_lt g) hy).trans g,fun e=>by
      rcases h.own _ e with h' | h'
      · exact hy h'
      · have:=AHeap.get_lt g; omega⟩
  cases t with
  | mk k n f s nl l=>
    simp only [TM.k,TM.n,TM.f,TM.s] at l0 ln lf l3
    simp only [sayT] at hs
    rcases hs with ⟨rfl,h1,h2⟩ | ⟨rfl,h1,h2⟩ | ⟨rfl,h1⟩ | ⟨hk,hsl⟩
    · have hl0:l=[]:=pl_leaf hf'.1 (.inl rfl)
      subst hl0
      have c13:abin .eql (.int .i64 1) (.int .i64 3)=some (.bool false):=rfl
      have c11:abin .eql (.int .i64 1) (.int .i64 1)=some (.bool true):=rfl
      by_cases hneg:n < 0
      · have hat:atT (.mk 1 n f s nl [])=[sg 45,tokC 3 ⟨#[]⟩ (-n) 0 0]:=by simp only [atT]; rw [if_pos trivial,if_pos hneg]
        have hlt:abin .lss (.int .i64 n) (.int .i64 0)=some (.bool true):=by simp [abin,hneg]
        have hsub:abin .sub (.int .i64 0) (.int .i64 n)=some (.int .i64 (-n)):=by
          simp only [abin]
          rw [if_pos trivial,IntKind.wrap_i64]
          congr 2; omega
        rw [hat] at hn rest ⊢
        simp only [List.length_cons,List.length_nil] at hn
        obtain ⟨y,H2,ha,hy⟩:=Grown.one hG1.gr (sg 45) ⟨rfl,rfl⟩ (by omega)
        have ha:aapp 35 5 48 (H1.push (.cells 35 [.int .i64 6,.str ⟨#[45]⟩,.int .i64 0,.flt .f64 0,.int .i64 0])) x (.sl H1.next 0 1 (some 1))=some (y,H2):=ha
        obtain ⟨z,H3,hb,hz⟩:=Grown.one hy.gr (tokC 3 ⟨#[]⟩ (-n) 0 0) ⟨rfl,rfl⟩ (by rw [List.length_append]; simp; omega)
        have hb:aapp 35 5 48 (H2.push (.cells 35 [.int .i64 3,.str ⟨#[]⟩,.int .i64 (-n),.flt .f64 0,.int .i64 0])) y (.sl H2.next 0 1 (some 1))=some (z,H3):=hb
        obtain ⟨g2,ne2⟩:=two (M:=L) g1 hne hy
        obtain ⟨g3,ne3⟩:=two (M:=L) g2 ne2 hz
        refine DCall.of_body (fn:=Tryd.f20) (by kernel_rfl) c20 (by kernel_rfl) (by simp [f20]) ?_
        unfold f20
        simp only []
        refine Dg rfl ?_
        simp -dsimp only [SE,astep,seval,rowq,← hH1]
        refine Dg rfl ?_
        simp -dsimp only [SE,astep,seval,rowq,l0]
        refine Dg rfl ?_
        simp -dsimp only [SE,astep,seval,rowq,c13]
        refine Dn rfl rfl ?_
        refine Dg rfl ?_
        simp -dsimp only [SE,astep,seval,rowq,c11]
        refine Dy rfl rfl ?_
        refine Dg rfl ?_
        simp -dsimp only [SE,astep,seval,rowq,ln]
        refine Dg rfl ?_
        simp -dsimp only [SE,astep,seval,rowq,hlt]
        refine Dy rfl rfl ?_
        refine Dg rfl ?_
        simp -dsimp only [SE,astep,seval,rowq,Env.parts,afill,AVal.cells,LZ,List.drop_succ_cons,List.drop_zero,List.drop_one,List.tail_cons,ha]
        refine Dg rfl ?_
        simp -dsimp only [SE,astep,seval,rowq,hsub]
        refine Dg rfl ?_
        simp -dsimp only [SE,astep,seval,rowq,Env.parts,afill,AVal.cells,LZ,List.drop_succ_cons,List.drop_zero,List.drop_one,List.tail_cons,hb]
        refine Dg rfl ?_
        simp -dsimp only [SE,astep,seval,rowq]
        refine Dm rfl ?_
        refine DR.loop ?_
        exact rest _ z H3 (hG1.trans (hy.trans hz)) g3 ne3 (by simp [TM.l,atsT]) trivial
      · have hat:atT (.mk 1 n f s nl [])=[tokC 3 ⟨#[]⟩ n 0 0]:=by simp only [atT]; rw [if_pos trivial,if_neg hneg]
        have hlt:abin .lss (.int .i64 n) (.int .i64 0)=some (.bool false):=by simp [abin,hneg]
        rw [hat] at hn rest ⊢
        simp only [List.length_cons,List.length_nil] at hn
        obtain ⟨y,H2,ha,hy⟩:=Grown.one hG1.gr (tokC 3 ⟨#[]⟩ n 0 0) ⟨rfl,rfl⟩ (by omega)
        have ha:aapp 35 5 48 (H1.push (.cells 35 [.int .i64 3,.str ⟨#[]⟩,.int .i64 n,.flt .f64 0,.int .i64 0])) x (.sl H1.next 0 1 (some 1))=some (y,H2):=ha
        obtain ⟨g2,ne2⟩:=two (M:=L) g1 hne hy
        refine DCall.of_body (fn:=Tryd.f20) (by kernel_rfl) c20 (by kernel_rfl) (by simp [f20]) ?_
        unfold f20
        simp only []
        refine Dg rfl ?_
        simp -dsimp only [SE,astep,seval,rowq,← hH1]
        refine Dg rfl ?_
        simp -dsimp only [SE,astep,seval,rowq,l0]
        refine Dg rfl ?_
        simp -dsimp only [SE,astep,seval,rowq,c13]
        refine Dn rfl rfl ?_
        refine Dg rfl ?_
        simp -dsimp only [SE,astep,seval,rowq,c11]
        refine Dy rfl rfl ?_
        refine Dg rfl ?_
        simp -dsimp only [SE,astep,seval,rowq,ln]
        refine Dg rfl ?_
        simp -dsimp only [SE,astep,seval,rowq,hlt]
        refine Dn rfl rfl ?_
        refine Dg rfl ?_
        simp -dsimp only [SE,astep,seval,rowq,Env.parts,afill,AVal.cells,LZ,List.drop_succ_cons,List.drop_zero,List.drop_one,List.tail_cons,ha]
        refine Dg rfl ?_
        simp -dsimp only [SE,astep,seval,rowq]
        refine Dm rfl ?_
        refine DR.loop ?_
        exact rest _ y H2 (hG1.trans hy) g2 ne2 (by simp [TM.l,atsT]) trivial
    · have hl0:l=[]:=pl_leaf hf'.1 (.inr (.inl rfl))
      subst hl0
      have c23:abin .eql (.int .i64 2) (.int .i64 3)=some (.bool false):=rfl
      have c21:abin .eql (.int .i64 2) (.int .i64 1)=some (.bool false):=rfl
      have c22:abin .eql (.int .i64 2) (.int .i64 2)=some (.bool true):=rfl
      have hat:atT (.mk 2 n f s nl [])=[tokC 4 ⟨#[]⟩ 0 f 0]:=by simp only [atT]; rw [if_neg (by decide),if_pos trivial]
      rw [hat] at hn rest ⊢
      simp only [List.length_cons,List.length_nil] at hn
      obtain ⟨y,H2,ha,hy⟩:=Grown.one hG1.gr (tokC 4 ⟨#[]⟩ 0 f 0) ⟨rfl,rfl⟩ (by omega)
      have ha:aapp 35 5 48 (H1.push (.cells 35 [.int .i64 4,.str ⟨#[]⟩,.int .i64 0,.flt .f64 f,.int .i64 0])) x (.sl H1.next 0 1 (some 1))=some (y,H2):=ha
      obtain ⟨g2,ne2⟩:=two (M:=L) g1 hne hy
      refine DCall.of_body (fn:=Tryd.f20) (by kernel_rfl) c20 (by kernel_rfl) (by simp [f20]) ?_
      unfold f20
      simp only []
      refine Dg rfl ?_
      simp -dsimp only [SE,astep,seval,rowq,← hH1]
      refine Dg rfl ?_
      simp -dsimp only [SE,astep,seval,rowq,l0]
      refine Dg rfl ?_
      simp -dsimp only [SE,astep,seval,rowq,c23]
      refine Dn rfl rfl ?_
      refine Dg rfl ?_
      simp -dsimp only [SE,astep,seval,rowq,c21]
      refine Dn rfl rfl ?_
      refine Dg rfl ?_
      simp -dsimp only [SE,astep,seval,rowq,c22]
      refine Dy rfl rfl ?_
      refine Dg rfl ?_
      simp -dsimp only [SE,astep,seval,rowq,lf,Env.parts,afill,AVal.cells,LZ,List.drop_succ_cons,List.drop_zero,List.drop_one,List.tail_cons,ha]
      refine Dg rfl ?_
      simp -dsimp only [SE,astep,seval,rowq]
      refine Dm rfl ?_
      refine DR.loop ?_
      exact rest _ y H2 (hG1.trans hy) g2 ne2 (by simp [TM.l,atsT]) trivial
    · have hl0:l=[]:=pl_leaf hf'.1 (.inr (.inr rfl))
      subst hl0
      have c33:abin .eql (.int .i64 3) (.int .i64 3)=some (.bool true):=rfl
      have hat:atT (.mk 3 n f s nl [])=[tokC 1 s 0 0 0]:=by simp only [atT]; rw [if_neg (by decide),if_neg (by decide),if_pos trivial]
      rw [hat] at hn rest ⊢
      simp only [List.length_cons,List.length_nil] at hn
      obtain ⟨y,H2,ha,hy⟩:=Grown.one hG1.gr (tokC 1 s 0 0 0) ⟨rfl,rfl⟩ (by omega)
      have ha:aapp 35 5 48 (H1.push (.cells 35 [.int .i64 1,.str s,.int .i64 0,.flt .f64 0,.int .i64 0])) x (.sl H1.next 0 1 (some 1))=some (y,H2):=ha
      obtain ⟨g2,ne2⟩:=two (M:=L) g1 hne hy
      refine DCall.of_body (fn:=Tryd.f20) (by kernel_rfl) c20 (by kernel_rfl) (by simp [f20]) ?_
      unfold f20
      simp only []
      refine Dg rfl ?_
      simp -dsimp only [SE,astep,seval,rowq,← hH1]
      refine Dg rfl ?_
      simp -dsimp only [SE,astep,seval,rowq,l0]
      refine Dg rfl ?_
      simp -dsimp only [SE,astep,seval,rowq,c33]
      refine Dy rfl rfl ?_
      refine Dg rfl ?_
      simp -dsimp only [SE,astep,seval,rowq,l3,Env.parts,afill,AVal.cells,LZ,List.drop_succ_cons,List.drop_zero,List.drop_one,List.tail_cons,ha]
      refine Dg rfl ?_
      simp -dsimp only [SE,astep,seval,rowq]
      refine Dm rfl ?_
      refine DR.loop ?_
      exact rest _ y H2 (hG1.trans hy) g2 ne2 (by simp [TM.l,atsT]) trivial
    · have hk3:abin .eql (.int .i64 k) (.int .i64 3)=some (.bool false):=by rcases hk with rfl | rfl <;> rfl
      have hk1:abin .eql (.int .i64 k) (.int .i64 1)=some (.bool false):=by rcases hk with rfl | rfl <;> rfl
      have hk2:abin .eql (.int .i64 k) (.int .i64 2)=some (.bool false):=by rcases hk with rfl | rfl <;> rfl
      have hat:atT (.mk k n f s nl l)=atsT l:=by rcases hk with rfl | rfl <;> rfl
      rw [hat] at hn rest ⊢
      refine DCall.of_body (fn:=Tryd.f20) (by kernel_rfl) c20 (by kernel_rfl) (by simp [f20]) ?_
      unfold f20
      simp only []
      refine Dg rfl ?_
      simp -dsimp only [SE,astep,seval,rowq,← hH1]
      refine Dg rfl ?_
      simp -dsimp only [SE,astep,seval,rowq,l0]
      refine Dg rfl ?_
      simp -dsimp only [SE,astep,seval,rowq,hk3]
      refine Dn rfl rfl ?_
      refine Dg rfl ?_
      simp -dsimp only [SE,astep,seval,rowq,hk1]
      refine Dn rfl rfl ?_
      refine Dg rfl ?_
      simp -dsimp only [SE,astep,seval,rowq,hk2]
      refine Dn rfl rfl ?_
      refine Dg rfl ?_
      simp -dsimp only [SE,astep,seval,rowq]
      refine Dm rfl ?_
      refine DR.loop ?_
      exact rest L x H1 hG1 g1 hne rfl hsl
end Go.Am.Rl
namespace Go.Am.Rl
open Go.Proofs
inductive Chain (s:ByteArray):Nat→List (List AVal)→Prop
  | fin:Chain s s.size [endTok s]
  | more {i:Nat} {c:UInt8} {k:Int} {w:ByteArray} {n:Int} {f e:Nat} {l:List (List AVal)} (hc:s[i]? = some c) (hs:sep c.toNat=false) (ht:token s i c.toNat (i:Nat) = .inr (tokC k w n f (i:Nat),e)) (h1:i < e) (h2:e≤s.size) (r:Chain s (pass s e) l):Chain s i (tokC k w n f (i:Nat)::l)
theorem Chain.head {s:ByteArray} {i:Nat} {l:List (List AVal)} (h:Chain s i l):∃ k w n f r,l=tokC k w n f (i:Nat)::r:=by
  cases h with
  | fin=>exact ⟨_,_,_,_,_,rfl⟩
  | more=>exact ⟨_,_,_,_,_,rfl⟩
theorem Chain.le {s:ByteArray} {i:Nat} {l:List (List AVal)} (h:Chain s i l):i≤s.size:=by
  cases h with
  | fin=>exact Nat.le_refl _
  | more hc=>exact Nat.le_of_lt (size_of_some hc)
def SameL (pl:Bool) (l m:List (List AVal)):Prop:=l.length=m.length∧∀ (q:Nat) (c:List AVal),l[q]? = some c→∃ k s n f i i',c=tokC k s n f i∧m[q]? = some (tokC k s n f i')∧(pl=true→i=i')
theorem SameL.cons {pl:Bool} {l m:List (List AVal)} (h:SameL pl l m) {k:Int} {s:ByteArray} {n:Int} {f:Nat} {i i':Int} (hi:pl=true→i=i'):SameL pl (tokC k s n f i::l) (tokC k s n f i'::m):=by
  refine ⟨by simp [h.1],fun q c hq=> ?_⟩
  cases q with
  | zero=>
    rw [List.getElem?_cons_zero] at hq
    injection hq with hq
    exact ⟨k,s,n,f,i,i',hq.symm,rfl,hi⟩
  | succ q=>exact h.2 q c hq
end Go.Am.Rl
namespace Go.Am.Rl
open Go.Proofs
theorem SameL.tokR {pl:Bool} {l m:List (List AVal)} (h:SameL pl l m):∀ c ∈ m,IsTok c:=by
  intro c hc
  obtain ⟨q,hq⟩:=List.mem_iff_getElem?.mp hc
  have hlt:q < l.length:=by have:=(List.getElem?_eq_some_iff.mp hq).1; have:=h.1; omega
  obtain ⟨k,s,n,f,i,i',_,h2,_⟩:=h.2 q _ (List.getElem?_eq_getElem hlt)
  rw [hq] at h2; injection h2 with h2
  exact ⟨k,s,n,f,i',h2⟩
theorem SameL.tokL {pl:Bool} {l m:List (List AVal)} (h:SameL pl l m):∀ c ∈ l,IsTok c:=by
  intro c hc
  obtain ⟨q,hq⟩:=List.mem_iff_getElem?.mp hc
  obtain ⟨k,s,n,f,i,i',h1,_,_⟩:=h.2 q c hq
  exact ⟨k,s,n,f,i,h1⟩
section
variable {H0:AHeap} {x y:AVal} {pl:Bool} {l m:List (List AVal)} {k k':List AItem} {Q:Env→AHeap→Prop}
theorem loop12' (hs:SameL pl l m) (hn:l.length < 1000000) (hk:aexitTo 0 k=some k') :
    ∀ (d i:Nat) (H:AHeap),i+d=l.length→RowT H x l→RowT H y m→H0.next≤H.next→(∀ j,j < H0.next→H.get j=H0.get j)→(∀ H',H0.next≤H'.next→(∀ j,j < H0.next→H'.get j=H0.get j)→DR Tryd.prog (kof k12) 67 k' [] H' Q)→
      DR Tryd.prog (kof k12) 67 (.code l12_0::.inLoop l12_0::k) [(0,x),(1,y),(2,.bool pl),(7,.int .i64 (i:Nat))] H Q:=by
  intro d
  induction d with
  | zero=>
    intro i H hi hx hy hnx hf hend
    have hc:decide ((i:Int) < (l.length:Int))=false:=by simp; omega
    have hlx:=fun H'=>hx.len H'
    refine Dg rfl ?_
    simp -dsimp only [SE,astep,seval,rowq,hlx,hc,abin]
    refine Dn rfl rfl ?_
    refine DR.exit (k':=k') (by simpa [aexitTo] using hk) ?_
    exact DR.only [] (hend _ hnx hf)
  | succ d ih=>
    intro i H hi hx hy hnx hf hend
    have hlt:i < l.length:=by omega
    have hc:decide ((i:Int) < (l.length:Int))=true:=by simp; omega
    have hlx:=fun H'=>hx.len H'
    have hw:IntKind.i64.wrap ((i:Int)+1)=((i+1:Nat):Int):=wrap64 (n:=i+1) (by omega)
    obtain ⟨c,hci⟩:∃ c,l[i]? = some c:=⟨_,List.getElem?_eq_getElem hlt⟩
    obtain ⟨tk,ts,tn,tf,ti,ti',rfl,hmi,hpl⟩:=hs.2 i c hci
    obtain ⟨ix,ax,rx,tx,gx,lx,dx,hc5⟩:=hx.at hs.tokL hci H
    have lax:=load_at gx lx dx hc5
    obtain ⟨H2,hH2,g2,n2,f2⟩:=psh H (.cells 35 [.int .i64 0,.str ⟨#[]⟩,.int .i64 0,.flt .f64 0,.int .i64 0])
    have g2:H2.get H.next=some (.cells 35 tok0):=g2
    have st2:=(res35 g2 rfl (tokC tk ts tn tf ti) rfl rfl).1
    obtain ⟨H3,hH3,g3,n3,f3⟩:=upd g2 (.cells 35 (tokC tk ts tn tf ti))
    have hy3:RowT H3 y m:=hy.frame fun j hj=>by have:=hy.lt hj; rw [f3 j (by omega),f2 j this]
    have hx3:RowT H3 x l:=hx.frame fun j hj=>by have:=hx.lt hj; rw [f3 j (by omega),f2 j this]
    obtain ⟨iy,ay,ry,ty,gy,ly,dy,hd5⟩:=hy3.at hs.tokR hmi H3
    have lay:=load_at gy ly dy hd5
    obtain ⟨H4,hH4,g4,n4,f4⟩:=psh H3 (.cells 35 [.int .i64 0,.str ⟨#[]⟩,.int .i64 0,.flt .f64 0,.int .i64 0])
    have g4:H4.get H3.next=some (.cells 35 tok0):=g4
    have st4:=(res35 g4 rfl (tokC tk ts tn tf ti') rfl rfl).1
    obtain ⟨H5,hH5,g5,n5,f5⟩:=upd g4 (.cells 35 (tokC tk ts tn tf ti'))
    have g35:=(f5 H.next (by omega)).trans ((f4 H.next (by omega)).trans g3)
    have hx5:RowT H5 x l:=hx3.frame fun j hj=>by have:=hx3.lt hj; rw [f5 j (by omega),f4 j this]
    have hy5:RowT H5 y m:=hy3.frame fun j hj=>by have:=hy3.lt hj; rw [f5 j (by omega),f4 j this]
    have a0:=load_cell g35 (o:=0) (v:=.int .i64 tk) rfl
    have a1:=load_cell g35 (o:=1) (v:=.str ts) rfl
    have a2:=load_cell g35 (o:=2) (v:=.int .i64 tn) rfl
    have a3:=load_cell g35 (o:=3) (v:=.flt .f64 tf) rfl
    have a4:=load_cell g35 (o:=4) (v:=.int .i64 ti) rfl
    have b0:=load_cell g5 (o:=0) (v:=.int .i64 tk) rfl
    have b1:=load_cell g5 (o:=1) (v:=.str ts) rfl
    have b2:=load_cell g5 (o:=2) (v:=.int .i64 tn) rfl
    have b3:=load_cell g5 (o:=3) (v:=.flt .f64 tf) rfl
    have b4:=load_cell g5 (o:=4) (v:=.int .i64 ti') rfl
    refine Dg rfl ?_
    simp -dsimp only [SE,astep,seval,rowq,hlx,hc,abin]
    refine Dy rfl rfl ?_
    refine Dg rfl ?_
    simp -dsimp only [SE,astep,seval,rowq,ax,lax,← hH2,st2,← hH3]
    refine Dg rfl ?_
    simp -dsimp only [SE,astep,seval,rowq,ay,lay,← hH4,st4,← hH5]
    cases pl with
    | true=>
      have hii:=hpl rfl
      subst hii
      refine Dm rfl ?_
      refine DR.draw (by kernel_rfl) d12_8 ?_
      simp -dsimp only [m12_8,SE,astep,seval,rowq,DS_nil,DS_cons,seesAll,staysAll,abit,List.getD_cons_zero,List.getD_cons_succ,AOp.quiet,AOp.reads,true_and,and_true,decide_true,decide_false,and_self,a0,a1,a2,a3,a4,b0,b1,b2,b3,b4,abin,bne_self_eq_false,beq_self_eq_true,Env.vals,aext,aext0,Bool.not_true]
      refine Dn rfl rfl ?_
      refine Dg rfl ?_
      simp -dsimp only [SE,astep,seval,rowq,abin_addI,hw]
      refine Dm rfl ?_
      refine DR.inLoop ?_
      refine ih (i+1) H5 (by omega) hx5 hy5 (by omega) (fun j hj=> ?_) hend
      rw [f5 j (by omega),f4 j (by omega),f3 j (by omega),f2 j (by omega),hf j hj]
    | false=>
      refine Dm rfl ?_
      refine DR.draw (by kernel_rfl) d12_8 ?_
      simp -dsimp only [m12_8,SE,astep,seval,rowq,DS_nil,DS_cons,seesAll,staysAll,abit,List.getD_cons_zero,List.getD_cons_succ,AOp.quiet,AOp.reads,true_and,and_true,decide_true,decide_false,and_self,a0,a1,a2,a3,b0,b1,b2,b3,abin,bne_self_eq_false,beq_self_eq_true,Env.vals,aext,aext0,Bool.not_true]
      refine Dn rfl rfl ?_
      refine Dg rfl ?_
      simp -dsimp only [SE,astep,seval,rowq,abin_addI,hw]
      refine Dm rfl ?_
      refine DR.inLoop ?_
      refine ih (i+1) H5 (by omega) hx5 hy5 (by omega) (fun j hj=> ?_) hend
      rw [f5 j (by omega),f4 j (by omega),f3 j (by omega),f2 j (by omega),hf j hj]
end
theorem g12S {H:AHeap} {x y:AVal} {l m:List (List AVal)} {pl:Bool} (hs:SameL pl l m) (hn:l.length < 1000000) (hx:RowT H x l) (hy:RowT H y m) :
    DCall Tryd.prog 12 [x,y,.bool pl] H fun a H'=>a = .bool true∧H.next≤H'.next∧∀ j,j < H.next→H'.get j=H.get j:=by
  refine DCall.of_body (fn:=Tryd.f12) (by kernel_rfl) c12 (by kernel_rfl) (by simp [f12]) ?_
  unfold f12
  simp only []
  have hlx:=fun H'=>hx.len H'
  have hly:=fun H'=>hy.len H'
  rw [← hs.1] at hly
  refine Dg rfl ?_
  simp -dsimp only [SE,astep,seval,rowq]
  refine Dg rfl ?_
  simp -dsimp only [SE,astep,seval,rowq,hlx,hly,abin,bne_self_eq_false]
  refine Dn rfl rfl ?_
  refine Dg rfl ?_
  simp -dsimp only [SE,astep,seval,rowq]
  refine Dm rfl ?_
  refine DR.loop ?_
  refine loop12' (H0:=H) hs hn rfl l.length 0 H (by omega) hx hy (Nat.le_refl _) (fun _ _=>rfl) ?_
  intro H' hn' hf
  refine Dg rfl ?_
  simp -dsimp only [SE,astep,seval,rowq]
  refine Dm rfl ?_
  exact DR.ret ⟨_,by simp [aresult,ares,Env.get] <;> rfl,rfl,hn',hf⟩
theorem SameL.refl {pl:Bool} {l:List (List AVal)} (h:∀ c ∈ l,IsTok c):SameL pl l l:=by
  refine ⟨rfl,fun q c hq=> ?_⟩
  obtain ⟨k,s,n,f,i,rfl⟩:=h c (List.mem_of_getElem? hq)
  exact ⟨k,s,n,f,i,i,rfl,hq,fun _=>rfl⟩
end Go.Am.Rl
namespace Go.Am.Rl
open Go.Proofs
theorem grow_rowT {H:AHeap} {x:AVal} {l:List (List AVal)} (h:Grow H 35 5 x l.length l.flatten):RowT H x l:=by
  obtain ⟨h1,⟨rfl,h2⟩ | ⟨id,rfl,h2⟩⟩:=h
  · exact .inl ⟨rfl,List.eq_nil_of_length_eq_zero h2⟩
  · exact .inr ⟨id,none,[],rfl,by rw [List.append_nil]; exact h2⟩
def kepts (l:List (List AVal)):List (List AVal):=(l.map er).filter keepB
theorem kepts_take {l:List (List AVal)} {i:Nat} {c:List AVal} (h:l[i]? = some c):kepts (l.take (i+1))=kepts (l.take i)++if keepB (er c)=true then [er c] else []:=by
  unfold kepts
  rw [List.take_add_one,h,List.map_append,List.filter_append]
  congr 1
  simp only [Option.toList,List.map_cons,List.map_nil,List.filter_cons,List.filter_nil]
theorem kepts_len (l:List (List AVal)):(kepts l).length≤l.length:=by
  unfold kepts
  have:=List.length_filter_le keepB (l.map er)
  rw [List.length_map] at this
  exact this
section
variable {H0:AHeap} {x:AVal} {l lf:List (List AVal)} {tid:Nat} {k k':List AItem} {Q:Env→AHeap→Prop}
theorem loop8 (hx0:RowT H0 x lf) (hlf:∀ c ∈ lf,IsTok c) (hpre:∀ i,i < l.length→lf[i]? = l[i]?) (hlen:lf.length=l.length+1) (hn:l.length < 900000) (hfive:∀ c ∈ l,keepB (er c)=false→five (er c)) (ht:tid < H0.next) (hk:aexitTo 0 k=some k')
    (hend:∀ y H,OutT H0.next H y (kepts l)→(∀ j,j < H0.next→H.get j=H0.get j)→DR Tryd.prog (kof k8) 83 k' [(1,.ptr tid 0),(6,y)] H Q) :
    ∀ (d i:Nat) (y:AVal) (H:AHeap),i+d=l.length→OutT H0.next H y (kepts (l.take i))→(∀ j,j < H0.next→H.get j=H0.get j)→DR Tryd.prog (kof k8) 83 (.code l8_0::.inLoop l8_0::k) [(1,.ptr tid 0),(4,x),(6,y),(7,.int .i64 (i:Nat))] H Q:=by
  intro d
  have hlx:=fun H'=>hx0.len H'
  induction d with
  | zero=>
    intro i y H hi hO hfr
    have hadd:=inc_nat (i:=i) (by omega)
    have hc:=lss_nat (i+1) lf.length
    rw [decide_eq_false (by omega)] at hc
    refine Dg rfl ?_
    simp -dsimp only [SE,astep,seval,rowq,hadd,hlx,hc]
    refine Dn rfl rfl ?_
    refine DR.exit (k':=k') (by simpa [aexitTo] using hk) ?_
    rw [List.take_of_length_le (by omega)] at hO
    exact DR.only [1,6] (hend y H hO hfr)
  | succ d ih=>
    intro i y H hi hO hfr
    have hadd:=inc_nat (i:=i) (by omega)
    have hc:=lss_nat (i+1) lf.length
    rw [decide_eq_true (by omega)] at hc
    have hlt:i < l.length:=by omega
    have hli:l[i]? = some l[i]:=List.getElem?_eq_getElem hlt
    have hci:lf[i]? = some l[i]:=(hpre i hlt).trans hli
    obtain ⟨tk,ts,tn,tf,ti,hl5⟩:=hlf _ (List.mem_of_getElem? hci)
    have hfv:=hfive _ (List.getElem_mem hlt)
    have hkt:=kepts_take hli
    rw [hl5] at hci hfv hkt
    have her:er (tokC tk ts tn tf ti)=tokC tk ts tn tf 0:=rfl
    rw [her] at hfv hkt
    have hx:RowT H x lf:=hx0.frame fun j hj=>hfr j (hx0.lt hj)
    obtain ⟨ix,ax,rx,tx,gx,lx,dx,hc5⟩:=hx.at hlf hci H
    have lax:=load_at gx lx dx hc5
    obtain ⟨H1,hH1,g1,n1,f1⟩:=psh H (.cells 35 [.int .i64 0,.str ⟨#[]⟩,.int .i64 0,.flt .f64 0,.int .i64 0])
    have g1:H1.get H.next=some (.cells 35 tok0):=g1
    have st1:=(res35 g1 rfl (tokC tk ts tn tf ti) rfl rfl).1
    obtain ⟨H2,hH2,g2,n2,f2⟩:=upd g1 (.cells 35 (tokC tk ts tn tf ti))
    have st2:astore H2 1 (.ptr H.next 4) (.int .i64 0)=some (H2.set H.next (.cells 35 (tokC tk ts tn tf 0))):=by
      simp only [astore,g2]
      rw [if_pos ⟨rfl,Nat.le_refl 5,rfl⟩]; rfl
    obtain ⟨H3,hH3,g3,n3,f3⟩:=upd g2 (.cells 35 (tokC tk ts tn tf 0))
    have l0:=load_cell g3 (o:=0) (v:=.int .i64 tk) rfl
    have l1:=load_cell g3 (o:=1) (v:=.str ts) rfl
    have l35:=load_all (n:=5) g3 rfl
    have hnx:=hO.nx
    have hO3:OutT H0.next H3 y (kepts (l.take i)):=hO.frame (by omega) fun j h1 h2=>by rw [f3 j (by omega),f2 j (by omega),f1 j h2]
    have hfr3:∀ j,j < H0.next→H3.get j=H0.get j:=fun j hj=>by rw [f3 j (by omega),f2 j (by omega),f1 j (by omega),hfr j hj]
    have e6:abin .eql (.int .i64 tk) (.int .i64 6)=some (.bool (tk==6)):=by
      simp only [abin]
      rw [if_pos trivial]
    have en:abin .neq (.str ts) (.str ⟨#[45]⟩)=some (.bool (!(ts.toList==(⟨#[45]⟩:ByteArray).toList))):=by
      simp only [abin]
    have hkb:keepB (tokC tk ts tn tf 0) = !((tk==6)&& !(ts.toList==(⟨#[45]⟩:ByteArray).toList)):=rfl
    have hpush:keepB (tokC tk ts tn tf 0)=true→∃ y' H',aapp 35 5 48 (H3.push (.cells 35 (tokC tk ts tn tf 0))) y (.sl H3.next 0 1 (some 1))=some (y',H')∧OutT H0.next H' y' (kepts (l.take (i+1)))∧∀ j,j < H0.next→H'.get j=H0.get j:=by
      intro hkp
      have hkl:=kepts_len (l.take i)
      rw [List.length_take] at hkl
      obtain ⟨y',H',h1,h2,h3⟩:=hO3.push (tokC tk ts tn tf 0) ⟨rfl,rfl⟩ (by omega)
      rw [hkt,if_pos hkp]
      exact ⟨y',H',h1,h2,fun j hj=>(h3 j hj).trans (hfr3 j hj)⟩
    have hfill:afill [.int .i64 0,.str ⟨#[]⟩,.int .i64 0,.flt .f64 0,.int .i64 0] [(0,5,.agg (tokC tk ts tn tf 0))]=some (tokC tk ts tn tf 0):=rfl
    cases h6:(tk==6) with
    | false=>
      obtain ⟨y',H',ha,hO',hfr'⟩:=hpush (by rw [hkb,h6]; rfl)
      rw [h6] at e6
      refine Dg rfl ?_
      simp -dsimp only [SE,astep,seval,rowq,hadd,hlx,hc]
      refine Dy rfl rfl ?_
      refine Dg rfl ?_
      simp -dsimp only [SE,astep,seval,rowq,ax,lax,← hH1,st1,← hH2]
      refine Dg rfl ?_
      simp -dsimp only [SE,astep,seval,rowq,st2,← hH3]
      refine Dg rfl ?_
      simp -dsimp only [SE,astep,seval,rowq,l0,e6]
      refine Dn rfl rfl ?_
      refine Dg rfl ?_
      simp -dsimp only [SE,astep,seval,rowq,l35,Env.parts,hfill,ha]
      refine Dg rfl ?_
      simp -dsimp only [SE,astep,seval,rowq,hadd]
      refine Dm rfl ?_
      refine DR.inLoop ?_
      exact ih (i+1) y' H' (by omega) hO' hfr'
    | true=>
      rw [h6] at e6
      cases hbs:(ts.toList==(⟨#[45]⟩:ByteArray).toList) with
      | true=>
        obtain ⟨y',H',ha,hO',hfr'⟩:=hpush (by rw [hkb,h6,hbs]; rfl)
        rw [hbs] at en
        have en:abin .neq (.str ts) (.str ⟨#[45]⟩)=some (.bool false):=en
        refine Dg rfl ?_
        simp -dsimp only [SE,astep,seval,rowq,hadd,hlx,hc]
        refine Dy rfl rfl ?_
        refine Dg rfl ?_
        simp -dsimp only [SE,astep,seval,rowq,ax,lax,← hH1,st1,← hH2]
        refine Dg rfl ?_
        simp -dsimp only [SE,astep,seval,rowq,st2,← hH3]
        refine Dg rfl ?_
        simp -dsimp only [SE,astep,seval,rowq,l0,e6,l1,en]
        refine Dn rfl rfl ?_
        refine Dg rfl ?_
        simp -dsimp only [SE,astep,seval,rowq,l35,Env.parts,hfill,ha]
        refine Dg rfl ?_
        simp -dsimp only [SE,astep,seval,rowq,hadd]
        refine Dm rfl ?_
        refine DR.inLoop ?_
        exact ih (i+1) y' H' (by omega) hO' hfr'
      | false=>
        rw [hbs] at en
        have en:abin .neq (.str ts) (.str ⟨#[45]⟩)=some (.bool true):=en
        have hkf:keepB (tokC tk ts tn tf 0)=false:=by rw [hkb,h6,hbs]; rfl
        rw [hkf,if_neg (by simp),List.append_nil] at hkt
        rw [← hkt] at hO3
        obtain ⟨o,ho,hso⟩:=hfv hkf
        have hts:ts=⟨#[o]⟩:=by
          have:tokC tk ts tn tf 0=tokC 6 ⟨#[o]⟩ 0 0 0:=hso
          unfold tokC at this
          injection this with _ this
          injection this with this _
          injection this with this
        subst hts
        have fin8:DR Tryd.prog (kof k8) 83 (.code l8_0::.inLoop l8_0::k) [(1,.ptr tid 0),(4,x),(6,y),(7,.int .i64 ((i+1:Nat):Int))] H3 Q:=ih (i+1) y H3 (by omega) hO3 hfr3
        rcases ho with rfl | rfl | rfl | rfl | rfl
        · have q123:abin .neq (.str ⟨#[44]⟩) (.str ⟨#[123]⟩)=some (.bool true):=by kernel_rfl
          have q125:abin .neq (.str ⟨#[44]⟩) (.str ⟨#[125]⟩)=some (.bool true):=by kernel_rfl
          have q91:abin .neq (.str ⟨#[44]⟩) (.str ⟨#[91]⟩)=some (.bool true):=by kernel_rfl
          have q93:abin .neq (.str ⟨#[44]⟩) (.str ⟨#[93]⟩)=some (.bool true):=by kernel_rfl
          have q44:abin .neq (.str ⟨#[44]⟩) (.str ⟨#[44]⟩)=some (.bool false):=by kernel_rfl
          refine Dg rfl ?_
          simp -dsimp only [SE,astep,seval,rowq,hadd,hlx,hc]
          refine Dy rfl rfl ?_
          refine Dg rfl ?_
          simp -dsimp only [SE,astep,seval,rowq,ax,lax,← hH1,st1,← hH2]
          refine Dg rfl ?_
          simp -dsimp only [SE,astep,seval,rowq,st2,← hH3]
          refine Dg rfl ?_
          simp -dsimp only [SE,astep,seval,rowq,l0,e6,l1,en]
          refine Dy rfl rfl ?_
          refine Dg rfl ?_
          simp -dsimp only [SE,astep,seval,rowq,l1,q123,q125,q91,q93,q44]
          refine Dn rfl rfl ?_
          refine Dm rfl ?_
          refine DR.exit rfl ?_
          refine Dg rfl ?_
          simp -dsimp only [SE,astep,seval,rowq,hadd]
          refine Dm rfl ?_
          refine DR.inLoop ?_
          exact fin8
        · have q123:abin .neq (.str ⟨#[91]⟩) (.str ⟨#[123]⟩)=some (.bool true):=by kernel_rfl
          have q125:abin .neq (.str ⟨#[91]⟩) (.str ⟨#[125]⟩)=some (.bool true):=by kernel_rfl
          have q91:abin .neq (.str ⟨#[91]⟩) (.str ⟨#[91]⟩)=some (.bool false):=by kernel_rfl
          refine Dg rfl ?_
          simp -dsimp only [SE,astep,seval,rowq,hadd,hlx,hc]
          refine Dy rfl rfl ?_
          refine Dg rfl ?_
          simp -dsimp only [SE,astep,seval,rowq,ax,lax,← hH1,st1,← hH2]
          refine Dg rfl ?_
          simp -dsimp only [SE,astep,seval,rowq,st2,← hH3]
          refine Dg rfl ?_
          simp -dsimp only [SE,astep,seval,rowq,l0,e6,l1,en]
          refine Dy rfl rfl ?_
          refine Dg rfl ?_
          simp -dsimp only [SE,astep,seval,rowq,l1,q123,q125,q91]
          refine Dn rfl rfl ?_
          refine Dm rfl ?_
          refine DR.exit rfl ?_
          refine Dg rfl ?_
          simp -dsimp only [SE,astep,seval,rowq,hadd]
          refine Dm rfl ?_
          refine DR.inLoop ?_
          exact fin8
        · have q123:abin .neq (.str ⟨#[93]⟩) (.str ⟨#[123]⟩)=some (.bool true):=by kernel_rfl
          have q125:abin .neq (.str ⟨#[93]⟩) (.str ⟨#[125]⟩)=some (.bool true):=by kernel_rfl
          have q91:abin .neq (.str ⟨#[93]⟩) (.str ⟨#[91]⟩)=some (.bool true):=by kernel_rfl
          have q93:abin .neq (.str ⟨#[93]⟩) (.str ⟨#[93]⟩)=some (.bool false):=by kernel_rfl
          refine Dg rfl ?_
          simp -dsimp only [SE,astep,seval,rowq,hadd,hlx,hc]
          refine Dy rfl rfl ?_
          refine Dg rfl ?_
          simp -dsimp only [SE,astep,seval,rowq,ax,lax,← hH1,st1,← hH2]
          refine Dg rfl ?_
          simp -dsimp only [SE,astep,seval,rowq,st2,← hH3]
          refine Dg rfl ?_
          simp -dsimp only [SE,astep,seval,rowq,l0,e6,l1,en]
          refine Dy rfl rfl ?_
          refine Dg rfl ?_
          simp -dsimp only [SE,astep,seval,rowq,l1,q123,q125,q91,q93]
          refine Dn rfl rfl ?_
          refine Dm rfl ?_
          refine DR.exit rfl ?_
          refine Dg rfl ?_
          simp -dsimp only [SE,astep,seval,rowq,hadd]
          refine Dm rfl ?_
          refine DR.inLoop ?_
          exact fin8
        · have q123:abin .neq (.str ⟨#[123]⟩) (.str ⟨#[123]⟩)=some (.bool false):=by kernel_rfl
          refine Dg rfl ?_
          simp -dsimp only [SE,astep,seval,rowq,hadd,hlx,hc]
          refine Dy rfl rfl ?_
          refine Dg rfl ?_
          simp -dsimp only [SE,astep,seval,rowq,ax,lax,← hH1,st1,← hH2]
          refine Dg rfl ?_
          simp -dsimp only [SE,astep,seval,rowq,st2,← hH3]
          refine Dg rfl ?_
          simp -dsimp only [SE,astep,seval,rowq,l0,e6,l1,en]
          refine Dy rfl rfl ?_
          refine Dg rfl ?_
          simp -dsimp only [SE,astep,seval,rowq,l1,q123]
          refine Dn rfl rfl ?_
          refine Dm rfl ?_
          refine DR.exit rfl ?_
          refine Dg rfl ?_
          simp -dsimp only [SE,astep,seval,rowq,hadd]
          refine Dm rfl ?_
          refine DR.inLoop ?_
          exact fin8
        · have q123:abin .neq (.str ⟨#[125]⟩) (.str ⟨#[123]⟩)=some (.bool true):=by kernel_rfl
          have q125:abin .neq (.str ⟨#[125]⟩) (.str ⟨#[125]⟩)=some (.bool false):=by kernel_rfl
          refine Dg rfl ?_
          simp -dsimp only [SE,astep,seval,rowq,hadd,hlx,hc]
          refine Dy rfl rfl ?_
          refine Dg rfl ?_
          simp -dsimp only [SE,astep,seval,rowq,ax,lax,← hH1,st1,← hH2]
          refine Dg rfl ?_
          simp -dsimp only [SE,astep,seval,rowq,st2,← hH3]
          refine Dg rfl ?_
          simp -dsimp only [SE,astep,seval,rowq,l0,e6,l1,en]
          refine Dy rfl rfl ?_
          refine Dg rfl ?_
          simp -dsimp only [SE,astep,seval,rowq,l1,q123,q125]
          refine Dn rfl rfl ?_
          refine Dm rfl ?_
          refine DR.exit rfl ?_
          refine Dg rfl ?_
          simp -dsimp only [SE,astep,seval,rowq,hadd]
          refine Dm rfl ?_
          refine DR.inLoop ?_
          exact fin8
end
theorem gtr16 (n:Nat):abin .gtr (.int .i64 (n:Nat)) (.int .i64 16384)=some (.bool (decide (16384 < n))):=by simp [abin]; omega
theorem g8 (t:TM) (ok:t.ok) (H:AHeap):DCall Tryd.prog 8 [t.agg] H fun r H'=>r = .bool true:=by
  have h:DCall Tryd.prog 8 [t.agg] AHeap.empty fun r H'=>∃ b,r = .bool b∧b=true:=by
    obtain ⟨H1,hH1,g1,n1,f1⟩:=psh AHeap.empty (.cells 44 (TM.c5 t))
    have la:=load_all (n:=5) g1 rfl
    have hl:∀ s H,alenT H 0 (.str s)=some s.size:=fun _ _=>rfl
    refine DCall.of_body (fn:=Tryd.f8) (by kernel_rfl) c8 (by kernel_rfl) (by simp [f8]) ?_
    unfold f8
    simp only []
    refine Dg rfl ?_
    simp -dsimp only [SE,astep,seval,rowq,← hH1]
    refine Dg rfl ?_
    simp -dsimp only [SE,astep,seval,rowq]
    refine (g9 H1).mono ?_
    rintro a H2 ⟨rfl,rfl⟩
    simp -dsimp only [SE,astep,seval,rowq]
    refine Dn rfl rfl ?_
    refine Dg rfl ?_
    simp -dsimp only [SE,astep,seval,rowq,la]
    refine (g18x t ok H2).mono ?_
    rintro r H' ⟨⟨b,rfl,hb⟩,he⟩
    obtain rfl:=he.symm
    cases b with
    | false=>
      simp -dsimp only [SE,astep,seval,rowq,la]
      refine Dy rfl rfl ?_
      refine Dg rfl ?_
      simp -dsimp only [SE,astep,seval,rowq]
      refine Dm rfl ?_
      exact DR.ret ⟨_,by simp [aresult,ares,Env.get] <;> rfl,⟨_,rfl,rfl⟩⟩
    | true=>
      obtain ⟨hw,hdp,hfine⟩:=hb rfl
      simp -dsimp only [SE,astep,seval,rowq,la]
      refine (g18 t ok hfine H2).mono ?_
      rintro r H' ⟨⟨b,rfl,hb⟩,he⟩
      obtain rfl:=he.symm
      cases b with
      | false=>
        simp -dsimp only [SE,astep,seval,rowq]
        refine Dy rfl rfl ?_
        refine Dg rfl ?_
        simp -dsimp only [SE,astep,seval,rowq]
        refine Dm rfl ?_
        exact DR.ret ⟨_,by simp [aresult,ares,Env.get] <;> rfl,⟨_,rfl,rfl⟩⟩
      | true=>
        have hs:=hb rfl
        have hsz:=size_words t hfine hs
        have hwl:=wr_len t hs
        simp -dsimp only [SE,astep,seval,rowq]
        refine Dn rfl rfl ?_
        refine Dg rfl ?_
        simp -dsimp only [SE,astep,seval,rowq,la]
        refine (g19 t ok hs (by omega) H2).mono ?_
        rintro r H' ⟨rfl,he⟩
        obtain rfl:=he.symm
        have hg:=gtr16 (strOf (wrL t)).size
        simp -dsimp only [SE,astep,seval,rowq]
        by_cases hbig:16384 < (strOf (wrL t)).size
        · rw [decide_eq_true hbig] at hg
          refine Dg rfl ?_
          simp -dsimp only [SE,astep,seval,rowq,hl,hg]
          refine Dy rfl rfl ?_
          refine Dg rfl ?_
          simp -dsimp only [SE,astep,seval,rowq]
          refine Dm rfl ?_
          exact DR.ret ⟨_,by simp [aresult,ares,Env.get] <;> rfl,⟨_,rfl,rfl⟩⟩
        · rw [decide_eq_false hbig] at hg
          have hlw:(wrL t).length≤65536:=by rw [strOf_size] at hbig; omega
          obtain ⟨l,htk,hmap⟩:=lx_tokens hs hlw
          obtain ⟨hall,hcount⟩:=tokens_all htk
          have hkl:kepts l=atT t:=by unfold kepts; rw [hmap]; exact (tks_keep t hs).1
          refine Dg rfl ?_
          simp -dsimp only [SE,astep,seval,rowq,hl,hg]
          refine Dn rfl rfl ?_
          refine Dg rfl ?_
          simp -dsimp only [SE,astep,seval,rowq]
          refine (g10 (H:=H2) (s:=strOf (wrL t)) (by omega)).mono ?_
          intro a H3 hT
          obtain ⟨x,rfl,hx,ox,n3,f3⟩:=hT.row
          rw [htk] at hx ⊢
          have hx:RowT H3 x (l++[endTok (strOf (wrL t))]):=hx
          obtain ⟨H4,hH4,g4,n4,f4⟩:=psh H3 (.cells 26 [.int .i64 0,.int .i64 0])
          have st4:=store_all (n:=2) g4 (new:=[.int .i64 0,.int .i64 0]) rfl rfl rfl
          obtain ⟨H5,hH5,g5,n5,f5⟩:=upd g4 (.cells 26 [.int .i64 0,.int .i64 0])
          have hx5:RowT H5 x (l++[endTok (strOf (wrL t))]):=hx.frame fun j hj=>by have:=hx.lt hj; rw [f5 j (by omega),f4 j this]
          have lt1:=AHeap.get_lt g1
          have g15:H5.get AHeap.empty.next=some (.cells 44 (TM.c5 t)):=by rw [f5 _ (by omega),f4 _ (by omega),f3 _ lt1]; exact g1
          have lp:=load_all (n:=2) g5 rfl
          have hfill0:afill [.int .i64 0,.int .i64 0] []=some [.int .i64 0,.int .i64 0]:=rfl
          simp -dsimp only [SE,astep,seval,rowq,resErr,← hH4,st4,← hH5]
          refine Dg rfl ?_
          simp -dsimp only [SE,astep,seval,rowq,lp,Env.parts,hfill0,aeqs,beq_self_eq_true,bne_self_eq_false,Bool.and_self]
          refine Dn rfl rfl ?_
          refine Dg rfl ?_
          simp -dsimp only [SE,astep,seval,rowq]
          refine Dg rfl ?_
          simp -dsimp only [SE,astep,seval,rowq]
          refine Dm rfl ?_
          refine DR.loop ?_
          refine loop8 (H0:=H5) (x:=x) (l:=l) (lf:=l++[endTok (strOf (wrL t))]) (tid:=AHeap.empty.next) hx5 hall (fun i hi=>List.getElem?_append_left hi) (by simp) (by rw [List.length_append] at hcount; simp at hcount; omega) (fun c hc hk=>(tks_keep t hs).2 _ (by rw [← hmap]; exact List.mem_map_of_mem hc) hk) (by omega) rfl (fun y H6 hO hfr=> ?_) l.length 0 .nils H5 (by omega) (OutT.new (Nat.le_refl _)) (fun _ _=>rfl)
          rw [hkl] at hO
          have hnx:=hO.nx
          have g16:=(hfr AHeap.empty.next (by omega)).trans g15
          have la6:=load_all (n:=5) g16 rfl
          have hat:(atT t).length≤16385:=by
            rw [← hkl]
            have:=kepts_len l
            rw [List.length_append] at hcount; simp at hcount; omega
          have htok:∀ c ∈ atT t,IsTok c:=by
            intro c hc
            rw [← hkl] at hc
            unfold kepts at hc
            obtain ⟨c0,hc0,rfl⟩:=List.mem_map.mp (List.mem_filter.mp hc).1
            obtain ⟨k,s,n,f,i,rfl⟩:=hall c0 (List.mem_append_left _ hc0)
            exact ⟨k,s,n,f,0,rfl⟩
          refine Dg rfl ?_
          simp -dsimp only [SE,astep,seval,rowq,la6]
          refine (g20 t ok hfine hs [] .nils H6 (Grow.nils _ _ _) (by simp; omega)).mono ?_
          rintro z H7 hG
          rw [List.nil_append] at hG
          have hy7:RowT H7 y (atT t):=(grow_rowT hO.gr).frame fun j hj=>hG.fr j (hO.gr.lt hj) (by intro e; cases e)
          have hz7:RowT H7 z (atT t):=grow_rowT hG.gr
          simp -dsimp only [SE,astep,seval,rowq]
          refine (g12S (pl:=true) (SameL.refl htok) (by omega) hy7 hz7).mono ?_
          rintro a H8 ⟨rfl,n8,f8⟩
          simp -dsimp only [SE,astep,seval,rowq]
          refine Dm rfl ?_
          exact DR.ret ⟨_,by simp [aresult,ares,Env.get] <;> rfl,⟨_,rfl,rfl⟩⟩
  exact (DCall.bools (TM.pures1 t) h H).mono fun r H' ⟨⟨b,h1,h2⟩,_⟩=>by rw [h1,h2]
end Go.Am.Rl
namespace Go.Proofs.YtmoimchdhgoeeaaDoor
open Go.Am Go.RowKit
theorem termT:∃ fs,TermT Tryd.prog 44 3 2 33 9 42 fs:=by
  refine ⟨_,⟨Tryd.underlying44,rfl,Tryd.underlying3,Tryd.underlying2,Tryd.underlying33,Tryd.underlying9,Tryd.underlying42,by kernel_rfl,by kernel_rfl,?_⟩⟩
  have:Tryd.prog.bytesOf 44=64:=by kernel_rfl
  omega
theorem opensTerm:Opens Tryd.prog 44 fun acs=>∃ x:TM,x.ok∧acs=x.cells:=let ⟨_,h⟩:=termT; Opens.term h
end Go.Proofs.YtmoimchdhgoeeaaDoor
