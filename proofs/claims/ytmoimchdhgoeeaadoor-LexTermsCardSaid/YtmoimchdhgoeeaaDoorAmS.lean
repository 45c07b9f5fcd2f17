/- Parts: Am41, Am42, Am43, Am44, Am49, Am50, Am51, Am52. -/
import Derived.Test.YtmoimchdhgoeeaaDoorAmR
set_option linter.unusedVariables false
set_option linter.unusedSimpArgs false
namespace Go.Am
open Go.RowKit
inductive ARs where
 | go (ds:List ADef) (T:Env) (H:AHeap)
 | pan (v:AVal) (ds:List ADef) (T:Env) (H:AHeap)
def ARs.Is (K:List ADef→Env→AHeap→Prop) (R:AVal→List ADef→Env→AHeap→Prop):ARs→Prop
 | .go ds T H=>K ds T H
 | .pan v ds T H=>R v ds T H
abbrev ACallD:=FuncId→List AVal→AEnd→AHeap→Option (AEnd × AHeap)
def SoundD (P:Program) (call:ACallD):Prop:=∀ f as m H m' H',call f as m H=some (m',H')→DCallD P f as m H fun a b=>a=m'∧b=H'
end Go.Am
namespace Go.Am
end Go.Am
namespace Go.Am
open Go.RowKit
def OpensK (P:Program) (k:Nat) (t:TypeId) (p:List AVal→Prop):Prop:=
 ∀ {H:Type} (enc:TypeId × Value→H) (w:World) (fuel:Nat) (cs:List Value) (d:DataW H) (ps:List MemPlace),fuel≤k→DataW.trod enc P w 0 (fun _=>true) true fuel t cs=some (d,ps)→
  (d.weights P t).all (· ≤reachBytes)=true→∃ acs,VRs P w (fun b=>b < w.heap.size) (fun _=>none) acs cs∧p acs
theorem Opens.ofK {P:Program} {t:TypeId} {p:List AVal→Prop} (h:∀ k,OpensK P k t p):Opens P t p:=fun enc w fuel cs d ps hd hs=>h fuel enc w fuel cs d ps (Nat.le_refl _) hd hs
theorem Opens.k {P:Program} {t:TypeId} {p:List AVal→Prop} (h:Opens P t p) (k:Nat):OpensK P k t p:=fun enc w fuel cs d ps _ hd hs=>h enc w fuel cs d ps hd hs
theorem OpensK.zero {P:Program} {t:TypeId} {p:List AVal→Prop}:OpensK P 0 t p:=by
 intro H enc w fuel cs d ps hk h _
 cases fuel with
 | zero=>simp [DataW.trod] at h
 | succ fuel=>omega
theorem OpensK.mono {P:Program} {k:Nat} {t:TypeId} {p q:List AVal→Prop} (h:OpensK P k t p) (hq:∀ acs,p acs→q acs):OpensK P k t q:=
 fun enc w fuel cs d ps hk hd hs=>let ⟨acs,h1,h2⟩:=h enc w fuel cs d ps hk hd hs; ⟨acs,h1,hq _ h2⟩
theorem OpensK.slice {P:Program} {k:Nat} {t e:TypeId} {p:List AVal→Prop} (hu:P.underlying t=some (.slice e)) (he:OpensK P k e p) :
  OpensK P (k+1) t fun acs=>acs=[.nils]∨∃ rs:List (List AVal),(∀ r ∈ rs,p r∧r.length=P.cellsOf e)∧rs.length≤maxLen∧rs.length * P.bytesOf e≤reachBytes∧acs=[.ros rs.flatten rs.length]:=by
 intro H enc w fuel cs d ps hk h hs
 cases fuel with
 | zero=>simp [DataW.trod] at h
 | succ fuel=>
  unfold DataW.trod at h
  simp only [hu] at h
  split at h <;> rename_i he' <;> try cases he'
  all_goals (try (cases h; done))
  ·exact ⟨[.nils],⟨_,_,rfl,rfl,rfl⟩,.inl rfl⟩
  ·rename_i a len cap
   split at h
   case isFalse=>cases h
   rename_i hc
   simp only [Option.bind_eq_some_iff,Option.map_eq_some_iff] at h
   obtain ⟨elems,hel,rest,hrest,hx⟩:=h
   injection hx with h1 h2; subst h1
   obtain ⟨hlen,hget⟩:=mapM_get _ _ _ hel
   simp only [List.length_range] at hlen
   simp only [DataW.weights,hu,List.length_map] at hs
   have hsz:elems.length * P.bytesOf e≤reachBytes:=by
    have:=List.all_eq_true.1 hs _ (List.mem_cons_self ..)
    have:=of_decide_eq_true this
    exact Nat.le_trans (Nat.mul_le_mul_right _ (Nat.le_add_right _ _)) this
   have hone:∀ i,i < len→∃ r:List AVal,(VRat P w (fun b=>b < w.heap.size) (fun _=>none) r a.block (a.off+i * P.cellsOf e)∧r.length=P.cellsOf e)∧p r∧(r≠[]→(a.add (i * P.cellsOf e)).spot=none∧a.block < w.heap.size):=by
    intro i hi
    obtain ⟨x,hx,hf⟩:=hget i i (by simp [hi])
    simp only [Option.bind_eq_some_iff] at hf
    obtain ⟨vs,hvs,hd⟩:=hf
    have hsx:(x.1.weights P e).all (· ≤reachBytes)=true:=by
     rw [List.all_eq_true]
     intro n hn
     refine List.all_eq_true.1 hs n (List.mem_cons_of_mem _ (List.mem_append_left _ (weightsAll_mem _ x.1 n ?_ hn)))
     rw [List.mem_map]
     exact ⟨x,List.mem_of_getElem? hx,rfl⟩
    obtain ⟨acs,hv,hp⟩:=he enc w fuel vs x.1 x.2 (by omega) hd hsx
    have hat:=VRat.of_cells hvs hv
    have hl:=VRs.at_ hvs hv
    obtain ⟨b,o,sp⟩:=a
    obtain ⟨sp',he1,hs1⟩:=add_ex b o sp (i * P.cellsOf e)
    rw [he1] at hvs hat ⊢
    refine ⟨acs,⟨hat,hl⟩,hp,fun hne=> ?_⟩
    have hpos:0 < acs.length:=List.length_pos_iff.2 hne
    have hc:=(cells_of hvs).2 0 (by omega)
    rw [List.getElem?_eq_getElem (by rw [(cells_of hvs).1]; omega)] at hc
    have h0:(⟨b,o+i * P.cellsOf e,sp'⟩:Addr).add 0=⟨b,o+i * P.cellsOf e,sp'⟩:=by simp [Addr.add]
    rw [h0] at hc
    exact cell_lt hc
   obtain ⟨rs,hrl,hrs⟩:=choose_list len hone
   refine ⟨[.ros rs.flatten rs.length],⟨_,_,rfl,?_,rfl⟩,.inr ⟨rs,fun r hr=> ?_,?_,?_,rfl⟩⟩
   ·refine ⟨a.block,a.off,cap,a.spot,by rw [hrl],by rw [hrl]; exact hc.2.1,fun hne=> ?_,VRat.rows (c:=P.cellsOf e) rs a.off fun i r hi=>⟨(hrs i r hi).1.2,(hrs i r hi).1.1⟩⟩
    have:∃ r ∈ rs,r≠[]:=by
     rw [← Classical.not_not (a:=∃ r ∈ rs,r≠[])]
     intro hno
     refine hne (List.flatten_eq_nil_iff.2 fun l hl=> ?_)
     rw [← Classical.not_not (a:=l=[])]
     exact fun e=>hno ⟨l,hl,e⟩
    obtain ⟨r,hr,hrne⟩:=this
    have hcp:0 < P.cellsOf e:=by
     obtain ⟨i,hi,rfl⟩:=List.getElem_of_mem hr
     rw [← (hrs i _ (List.getElem?_eq_getElem hi)).1.2]
     exact List.length_pos_iff.2 hrne
    have hlp:0 < rs.length:=List.length_pos_of_mem hr
    have h0:=hrs 0 _ (List.getElem?_eq_getElem hlp)
    have hne0:rs[0]≠[]:=by
     apply List.length_pos_iff.1; rw [h0.1.2]; exact hcp
    have h3:=h0.2.2 hne0
    have h4:a.add (0 * P.cellsOf e)=a:=by simp [Addr.add]
    rw [h4] at h3
    exact ⟨h3.2,h3.1⟩
   ·obtain ⟨i,hi,rfl⟩:=List.getElem_of_mem hr
    have:=hrs i _ (List.getElem?_eq_getElem hi)
    exact ⟨this.2.1,this.1.2⟩
   ·rw [hrl]; exact Nat.le_trans hc.2.1 hc.2.2
   ·rw [hrl,← hlen]; exact hsz
def OpensFsK (P:Program) (k:Nat):Nat→List Field→List (List AVal→Prop)→Prop
 | _,[],[]=>True
 | o,f::fs,p::ps=>f.offset=o∧OpensK P k f.type p∧OpensFsK P k (o+P.cellsOf f.type) fs ps
 | _,_,_=>False
theorem opensK_fields {H:Type} {enc:TypeId × Value→H} {P:Program} {w:World} {k fuel:Nat} (hk:fuel≤k) {cs:List Value}:∀ (fs:List Field) (o:Nat) (ps:List (List AVal→Prop)) (xs:List (DataW H × List MemPlace)),OpensFsK P k o fs ps→endsAt P o fs=cs.length→
  fs.mapM (fun f=>DataW.trod enc P w 0 (fun _=>true) true fuel f.type ((cs.drop f.offset).take (P.cellsOf f.type)))=some xs→(DataW.weightsEach P (fs.map (·.type)) (xs.map (·.1))).all (· ≤reachBytes)=true→
  ∃ acs,VRs P w (fun b=>b < w.heap.size) (fun _=>none) acs (cs.drop o)∧Parts ps acs
 | [],o,ps,xs,hf,he,hm,hs=>by
  cases ps with
  | nil=>
   simp only [endsAt] at he
   refine ⟨[],?_,rfl⟩
   simp only [VRs]
   rw [List.drop_eq_nil_iff]; omega
  | cons p ps=>exact hf.elim
 | f::fs,o,ps,xs,hf,he,hm,hs=>by
  cases ps with
  | nil=>exact hf.elim
  | cons p ps=>
   obtain ⟨ho,hp,hf⟩:=hf
   simp only [List.mapM_cons,Option.pure_def,Option.bind_eq_bind,Option.bind_eq_some_iff] at hm
   obtain ⟨x,hx,xs',hxs,hxe⟩:=hm
   injection hxe with hxe; subst hxe
   simp only [List.map_cons,DataW.weightsEach,List.all_append,Bool.and_eq_true] at hs
   simp only [endsAt] at he
   obtain ⟨a1,hv1,hp1⟩:=hp enc w fuel _ x.1 x.2 hk hx hs.1
   obtain ⟨a2,hv2,hp2⟩:=opensK_fields hk fs (o+P.cellsOf f.type) ps xs' hf he hxs hs.2
   refine ⟨a1++a2,?_,a1,a2,rfl,hp1,hp2⟩
   have:cs.drop o=(cs.drop f.offset).take (P.cellsOf f.type)++cs.drop (o+P.cellsOf f.type):=by
    rw [ho,← List.drop_drop,List.take_append_drop]
   rw [this]
   exact hv1.append hv2
theorem OpensK.struct {P:Program} {k:Nat} {t:TypeId} {fs:Array Field} {ps:List (List AVal→Prop)} (hu:P.underlying t=some (.struct fs)) (hf:OpensFsK P k 0 fs.toList ps) (he:endsAt P 0 fs.toList=P.cellsOf t):OpensK P (k+1) t (Parts ps):=by
 intro H enc w fuel cs d pl hk h hs
 cases fuel with
 | zero=>simp [DataW.trod] at h
 | succ fuel=>
  unfold DataW.trod at h
  simp only [hu] at h
  split at h
  case isFalse=>cases h
  rename_i hl
  simp only [Option.map_eq_some_iff] at h
  obtain ⟨xs,hxs,hx⟩:=h
  injection hx with h1 h2; subst h1
  simp only [DataW.weights,hu] at hs
  have:=opensK_fields (k:=k) (by omega) fs.toList 0 ps xs hf (he.trans hl.symm) hxs hs
  simpa using this
theorem Opens.flt {P:Program} {t:TypeId} {k:FloatKind} (hu:P.underlying t=some (.float k)):Opens P t fun acs=>∃ n,(Lit.float k n).wf=true∧acs=[.flt k n]:=by
 intro H enc w fuel cs d ps h _
 cases fuel with
 | zero=>simp [DataW.trod] at h
 | succ fuel=>
  unfold DataW.trod at h
  simp only [hu] at h
  split at h <;> rename_i he <;> try cases he
  all_goals (try (cases h; done))
  split at h
  case isFalse=>cases h
  rename_i hk
  obtain ⟨rfl,hw⟩:=hk
  exact ⟨[.flt _ _],⟨_,_,rfl,rfl,rfl⟩,_,hw,rfl⟩
inductive TM where
 | mk (k n:Int) (f:Nat) (s:ByteArray) (nl:Bool) (l:List TM)
 deriving Inhabited
def TM.k:TM→Int | .mk k _ _ _ _ _=>k
def TM.n:TM→Int | .mk _ n _ _ _ _=>n
def TM.f:TM→Nat | .mk _ _ f _ _ _=>f
def TM.s:TM→ByteArray | .mk _ _ _ s _ _=>s
def TM.nl:TM→Bool | .mk _ _ _ _ nl _=>nl
def TM.l:TM→List TM | .mk _ _ _ _ _ l=>l
def tmRow (nl:Bool) (cs:List AVal) (len:Nat):AVal:=if nl=true then .nils else .ros cs len
mutual
def TM.cells:TM→List AVal
 | .mk k n f s nl l=>[.int .i64 k,.int .i64 n,.flt .f64 f,.str s,tmRow nl (TM.flat l) l.length]
def TM.flat:List TM→List AVal
 | []=>[]
 | t::r=>t.cells++TM.flat r
end
mutual
def TM.ok:TM→Prop
 | .mk k n f s nl l=>(Lit.int .i64 k).wf=true∧(Lit.int .i64 n).wf=true∧(Lit.float .f64 f).wf=true∧s.size≤reachBytes∧l.length≤2 ^ 41∧(nl=true→l=[])∧TM.oks l
def TM.oks:List TM→Prop
 | []=>True
 | t::r=>t.ok∧TM.oks r
end
theorem TM.cells_length (t:TM):t.cells.length=5:=by cases t; rfl
theorem TM.flat_length:∀ l:List TM,(TM.flat l).length=l.length * 5
 | []=>rfl
 | t::r=>by simp only [TM.flat,List.length_append,TM.cells_length,TM.flat_length r,List.length_cons]; omega
theorem TM.oks_mem:∀ {l:List TM},TM.oks l→∀ t ∈ l,t.ok
 | [],_,t,h=>by cases h
 | a::r,⟨h1,h2⟩,t,h=>by
  rcases List.mem_cons.mp h with rfl | h
  ·exact h1
  ·exact TM.oks_mem h2 t h
theorem TM.rows:∀ (rs:List (List AVal)),(∀ r ∈ rs,∃ t:TM,t.ok∧r=t.cells)→∃ l:List TM,TM.oks l∧rs.flatten=TM.flat l∧l.length=rs.length
 | [],_=>⟨[],trivial,rfl,rfl⟩
 | r::rs,h=>by
  obtain ⟨t,ht,rfl⟩:=h r (List.mem_cons_self ..)
  obtain ⟨l,h1,h2,h3⟩:=TM.rows rs fun r hr=>h r (List.mem_cons_of_mem _ hr)
  exact ⟨t::l,⟨ht,h1⟩,by rw [List.flatten_cons,h2]; rfl,by simp [h3]⟩
structure TermT (P:Program) (t ti tn tf ts tl:TypeId) (fs:Array Field):Prop where
 u:P.underlying t=some (.struct fs)
 f:fs.toList.map (fun f=>(f.type,f.offset))=[(ti,0),(tn,1),(tf,2),(ts,3),(tl,4)]
 ui:P.underlying ti=some (.int .i64)
 un:P.underlying tn=some (.int .i64)
 uf:P.underlying tf=some (.float .f64)
 us:P.underlying ts=some .string
 ul:P.underlying tl=some (.slice t)
 c:[ti,tn,tf,ts,tl].map P.cellsOf=[1,1,1,1,1]
 ct:P.cellsOf t=5
 b:64≤P.bytesOf t
theorem opensK_term {P:Program} {t ti tn tf ts tl:TypeId} {fs:Array Field} (h:TermT P t ti tn tf ts tl fs):∀ k,OpensK P k t fun acs=>∃ x:TM,x.ok∧acs=x.cells
 | 0=>OpensK.zero
 | k+1=>by
  have hl:OpensK P k tl fun acs=>acs=[.nils]∨∃ l:List TM,TM.oks l∧l.length≤2 ^ 41∧acs=[.ros (TM.flat l) l.length]:=by
   cases k with
   | zero=>exact OpensK.zero
   | succ k=>
    refine OpensK.mono (OpensK.slice h.ul (opensK_term h k)) ?_
    rintro acs (rfl | ⟨rs,h1,h2,h3,rfl⟩)
    ·exact .inl rfl
    ·obtain ⟨l,k1,k2,k3⟩:=TM.rows rs fun r hr=>(h1 r hr).1
     refine .inr ⟨l,k1,?_,by rw [k2,k3]⟩
     have:=h.b
     have h4:rs.length * 64≤reachBytes:=Nat.le_trans (Nat.mul_le_mul_left _ this) h3
     rw [k3]
     simp only [reachBytes] at h4
     omega
  have hc:=h.c
  simp only [List.map_cons,List.map_nil,List.cons.injEq,and_true] at hc
  obtain ⟨c1,c2,c3,c4,c5⟩:=hc
  have hf:=h.f
  simp only [List.map_eq_cons_iff,List.map_eq_nil_iff,Prod.mk.injEq] at hf
  obtain ⟨f1,r1,hfs,⟨t1,o1⟩,f2,r2,rfl,⟨t2,o2⟩,f3,r3,rfl,⟨t3,o3⟩,f4,r4,rfl,⟨t4,o4⟩,f5,r5,rfl,⟨t5,o5⟩,rfl⟩:=hf
  refine OpensK.mono (OpensK.struct (k:=k) (ps:=[_,_,_,_,_]) h.u (by
    rw [hfs]
    simp only [OpensFsK,t1,t2,t3,t4,t5,c1,c2,c3,c4,o1,o2,o3,o4,o5]
    exact ⟨trivial,Opens.k (Opens.int h.ui) k,trivial,Opens.k (Opens.int h.un) k,trivial,Opens.k (Opens.flt h.uf) k,trivial,Opens.k (Opens.str h.us) k,trivial,hl,trivial⟩) (by rw [hfs,h.ct]; simp only [endsAt,t1,t2,t3,t4,t5,c1,c2,c3,c4,c5])) ?_
  rintro acs ⟨a1,r1,rfl,⟨k1,w1,rfl⟩,a2,r2,rfl,⟨n1,w2,rfl⟩,a3,r3,rfl,⟨b1,w3,rfl⟩,a4,r4,rfl,⟨s1,w4,rfl⟩,a5,r5,rfl,h5,rfl⟩
  rcases h5 with rfl | ⟨l,k1',k2,rfl⟩
  ·exact ⟨.mk k1 n1 b1 s1 true [],⟨w1,w2,w3,w4,by simp,fun _=>rfl,trivial⟩,rfl⟩
  ·exact ⟨.mk k1 n1 b1 s1 false l,⟨w1,w2,w3,w4,k2,(fun h=>nomatch h),k1'⟩,rfl⟩
theorem Opens.term {P:Program} {t ti tn tf ts tl:TypeId} {fs:Array Field} (h:TermT P t ti tn tf ts tl fs):Opens P t fun acs=>∃ x:TM,x.ok∧acs=x.cells:=Opens.ofK (opensK_term h)
end Go.Am
namespace Go.Am
open Go.RowKit
abbrev TM.row (t:TM):AVal:=tmRow t.nl (TM.flat t.l) t.l.length
abbrev TM.agg (t:TM):AVal:=.agg [.int .i64 t.k,.int .i64 t.n,.flt .f64 t.f,.str t.s,t.row]
theorem TM.cells_eq (t:TM):t.cells=[.int .i64 t.k,.int .i64 t.n,.flt .f64 t.f,.str t.s,t.row]:=by cases t; rfl
theorem TM.agg_eq (t:TM):AVal.agg t.cells=t.agg:=by rw [TM.cells_eq]
theorem TM.flat_at:∀ {l:List TM} {i:Nat} {t:TM},l[i]? = some t→(TM.flat l).drop (i * 5)=t.cells++TM.flat (l.drop (i+1))
 | [],i,t,h=>by simp at h
 | a::r,0,t,h=>by simp at h; subst h; simp [TM.flat]
 | a::r,i+1,t,h=>by
  have h':r[i]? = some t:=by simpa using h
  rw [show (i+1) * 5=a.cells.length+i * 5 by rw [TM.cells_length]; omega]
  rw [TM.flat,← List.drop_drop,List.drop_left,TM.flat_at h']
  rfl
theorem TM.nl_false {t:TM} (h:t.ok) {i:Nat} {x:TM} (hx:t.l[i]? = some x):t.nl=false:=by
 cases t with
 | mk k n f s nl l=>
  cases nl with
  | false=>rfl
  | true=>rw [show (TM.mk k n f s true l).l=l from rfl,h.2.2.2.2.2.1 rfl] at hx; simp at hx
theorem TM.row_at {t:TM} (h:t.ok) {i:Nat} {x:TM} (hx:t.l[i]? = some x) (H:AHeap):aiaddr H 5 t.row (.int .i64 (i:Nat))=some (.rop (x.cells++TM.flat (t.l.drop (i+1)))):=by
 have hi:=(List.getElem?_eq_some_iff.mp hx).1
 simp only [TM.row,tmRow,TM.nl_false h hx,Bool.false_eq_true,if_false,aiaddr]
 rw [if_pos ⟨by omega,by omega,by rw [TM.flat_length]; omega⟩]
 simp only [Int.toNat_natCast]
 rw [TM.flat_at hx]
theorem TM.load (x:TM) (r:List AVal) (H:AHeap):aload H (some 5) (.rop (x.cells++r))=some x.agg:=by
 rw [TM.cells_eq]
 rfl
theorem TM.ok_at {t:TM} (h:t.ok) {i:Nat} {x:TM} (hx:t.l[i]? = some x):x.ok:=by
 cases t with
 | mk k n f s nl l=>exact TM.oks_mem h.2.2.2.2.2.2 x (List.mem_of_getElem? hx)
theorem TM.len_le {t:TM} (h:t.ok):t.l.length≤2 ^ 41:=by
 cases t with
 | mk k n f s nl l=>exact h.2.2.2.2.1
theorem pures_append:∀ {a b:List AVal},AVal.pures a=true→AVal.pures b=true→AVal.pures (a++b)=true
 | [],b,_,hb=>hb
 | x::a,b,ha,hb=>by
  simp only [AVal.pures,Bool.and_eq_true] at ha
  simp only [List.cons_append,AVal.pures,Bool.and_eq_true]
  exact ⟨ha.1,pures_append ha.2 hb⟩
mutual
theorem TM.pure:∀ t:TM,AVal.pures t.cells=true
 | .mk k n f s nl l=>by
  cases nl <;> simp [TM.cells,tmRow,AVal.pures,AVal.pure,TM.pures l]
theorem TM.pures:∀ l:List TM,AVal.pures (TM.flat l)=true
 | []=>rfl
 | t::r=>by
  rw [TM.flat]
  exact pures_append (TM.pure t) (TM.pures r)
end
end Go.Am
namespace Go.Am
open Go.RowKit
end Go.Am
namespace Go.Am
open Go.RowKit
def cmpOp:BinOp→Bool
 | .eql | .neq | .lss | .leq | .gtr | .geq=>true
 | _=>false
def isCmp (o:BinOp):AVal→AVal→Bool
 | .int k _,.int k' _=>decide (k=k')&&cmpOp o
 | .str _,.str _=>cmpOp o
 | .flt k _,.flt k' _=>decide (k=k')&&cmpOp o
 | .nan k,.flt k' _=>decide (k=k')&&cmpOp o
 | .flt k _,.nan k'=>decide (k=k')&&cmpOp o
 | _,_=>false
theorem isCmp_some {o:BinOp} {u v:AVal} (h:isCmp o u v=true):∃ b,abin o u v=some (.bool b):=by
 unfold isCmp at h
 split at h
 ·simp only [Bool.and_eq_true,decide_eq_true_eq] at h
  obtain ⟨rfl,h⟩:=h
  cases o <;> simp only [cmpOp,Bool.false_eq_true] at h <;> simp [abin]
 ·cases o <;> simp only [cmpOp,Bool.false_eq_true] at h <;> exact ⟨_,rfl⟩
 ·simp only [Bool.and_eq_true,decide_eq_true_eq] at h
  obtain ⟨rfl,h⟩:=h
  cases o <;> simp only [cmpOp,Bool.false_eq_true] at h <;> simp [abin]
 ·simp only [Bool.and_eq_true,decide_eq_true_eq] at h
  obtain ⟨rfl,h⟩:=h
  cases o <;> simp only [cmpOp,Bool.false_eq_true] at h <;> simp [abin,nanCmp]
 ·simp only [Bool.and_eq_true,decide_eq_true_eq] at h
  obtain ⟨rfl,h⟩:=h
  cases o <;> simp only [cmpOp,Bool.false_eq_true] at h <;> simp [abin,nanCmp]
 ·cases h
abbrev CallK:=FuncId→List AVal→AHeap→(AVal→AHeap→Bool)→Bool
def CallK.Ok (P:Program) (c:CallK):Prop:=∀ f xs H F,c f xs H F=true→∀ {Q:AVal→AHeap→Prop},(∀ v H',F v H'=true→Q v H')→DCall P f xs H Q
def CallK.none:CallK:=fun _ _ _ _=>false
theorem CallK.none_ok (P:Program):CallK.none.Ok P:=fun f xs H F h=>by cases h
theorem DCall.bools {P:Program} {f:FuncId} {xs:List AVal} {p:Bool→Prop} (hp:AVal.pures xs=true) (h:DCall P f xs AHeap.empty fun r H'=>∃ b,r = .bool b∧p b) (H:AHeap):DCall P f xs H fun r H'=>(∃ b,r = .bool b∧p b)∧H'=H:=
 DCall.closed (sz:=fun _=>1) hp h (fun r H1 ⟨b,e,hb⟩=>⟨1,r,by rw [e]; rfl,b,e,hb⟩) H
theorem DCall.ints {P:Program} {f:FuncId} {xs:List AVal} {p:Int→Prop} (hp:AVal.pures xs=true) (h:DCall P f xs AHeap.empty fun r H'=>∃ n,r = .int .i64 n∧p n) (H:AHeap):DCall P f xs H fun r H'=>(∃ n,r = .int .i64 n∧p n)∧H'=H:=
 DCall.closed (sz:=fun _=>1) hp h (fun r H1 ⟨b,e,hb⟩=>⟨1,r,by rw [e]; rfl,b,e,hb⟩) H
end Go.Am
namespace Go.Am
open Go.RowKit
abbrev GCall:=FuncId→List AVal→AHeap→(AOut→AHeap→Prop)→Prop
def GCall.Ok (P:Program) (g:GCall):Prop:=∀ f xs H F,g f xs H F→DCallX P f xs H F
def told (ov:Nat→Option Bool) (o:AOper) (T:Env):Option (BinOp × AVal × AVal × Bool):=match o.dst with
 | some d=>match ov d with
  | some b=>match o.op with
   | .bin c x y=>match T.val x,T.val y with
    | some u,some v=>some (c,u,v,b)
    | _,_=>none
   | _=>none
  | none=>none
 | none=>none
theorem told_step {ov:Nat→Option Bool} {o:AOper} {T:Env} {c:BinOp} {u v:AVal} {b:Bool} (h:told ov o T=some (c,u,v,b)) (hb:abin c u v=some (.bool b)) (H:AHeap):astep o.op T H=some (.value (.bool b) H):=by
 unfold told at h
 split at h
 ·split at h
  ·split at h
   ·rename_i hop
    split at h
    ·rename_i hu hv
     injection h with h; injection h with h1 h; injection h with h2 h; injection h with h3 h4
     subst h1; subst h2; subst h3; subst h4
     rw [hop]; simp [astep,hu,hv,hb]
    ·cases h
   ·cases h
  ·cases h
 ·cases h
def AOp.big:AOp→Bool
 | .load (some _) _=>true
 | _=>false
def seesK (m:Nat) (op:AOp) (T:Env) (v:AVal):List (Nat × AHeap)→Prop→Prop
 | [],K=>K
 | p::r,K=>match abit m p.1 with
  | true=>seesK m op T v r K
  | false=>match astep op T p.2 with
   | some (.value u _)=>match op.big with
    | true=>u=v∧seesK m op T v r K
    | false=>match AVal.eqb u v with
     | true=>seesK m op T v r K
     | false=>False
   | _=>False
def staysK (m:Nat) (H1:AHeap):List Seen→Prop→Prop
 | [],K=>K
 | q::r,K=>match abit m q.at_ with
  | true=>staysK m H1 r K
  | false=>match astep q.op q.env H1 with
   | some (.value u _)=>match q.op.big with
    | true=>u=q.val∧staysK m H1 r K
    | false=>match AVal.eqb u q.val with
     | true=>staysK m H1 r K
     | false=>False
   | _=>False
theorem seesK_sound {m:Nat} {op:AOp} {T:Env} {v:AVal} (hq:op.quiet=true) {K:Prop}:∀ {hs:List (Nat × AHeap)},seesK m op T v hs K→(∀ p ∈ hs,abit m p.1=true∨astep op T p.2=some (.value v p.2))∧K
 | [],h=>⟨fun p hp=>by (cases hp),h⟩
 | q::r,h=>by
  simp only [seesK] at h
  have one:∀ {u:AVal} {H2:AHeap},astep op T q.2=some (.value u H2)→u=v→astep op T q.2=some (.value v q.2):=by
   intro u H2 hs e
   obtain ⟨u',hu'⟩:=astep_quiet hq hs
   injection hu' with e1 e2
   rw [hs,e,e2]
  have both:∀ {p1:Prop},(abit m q.1=true∨astep op T q.2=some (.value v q.2))→seesK m op T v r K→(∀ p ∈ q::r,abit m p.1=true∨astep op T p.2=some (.value v p.2))∧K:=fun h1 h2=>by
   obtain ⟨k1,k2⟩:=seesK_sound hq h2
   exact ⟨fun p hp=>(List.mem_cons.mp hp).elim (fun e=>e ▸ h1) (k1 p),k2⟩
  split at h
  ·rename_i hb; exact both (p1:=True) (.inl hb) h
  ·split at h
   ·rename_i u H2 hs
    split at h
    ·exact both (p1:=True) (.inr (one hs h.1)) h.2
    ·split at h
     ·rename_i he; exact both (p1:=True) (.inr (one hs (AVal.eqb_eq _ _ he))) h
     ·exact h.elim
   ·exact h.elim
theorem staysK_sound {m:Nat} {H1:AHeap} {K:Prop}:∀ {rs:List Seen},(∀ q ∈ rs,q.op.quiet=true)→staysK m H1 rs K→(∀ q ∈ rs,abit m q.at_=true∨astep q.op q.env H1=some (.value q.val H1))∧K
 | [],_,h=>⟨fun p hp=>by (cases hp),h⟩
 | q::r,hall,h=>by
  simp only [staysK] at h
  have one:∀ {u:AVal} {H2:AHeap},astep q.op q.env H1=some (.value u H2)→u=q.val→astep q.op q.env H1=some (.value q.val H1):=by
   intro u H2 hs e
   obtain ⟨u',hu'⟩:=astep_quiet (hall _ (List.mem_cons_self ..)) hs
   injection hu' with e1 e2
   rw [hs,e,e2]
  have both:(abit m q.at_=true∨astep q.op q.env H1=some (.value q.val H1))→staysK m H1 r K→(∀ p ∈ q::r,abit m p.at_=true∨astep p.op p.env H1=some (.value p.val H1))∧K:=fun h1 h2=>by
   obtain ⟨k1,k2⟩:=staysK_sound (fun q hq=>hall q (List.mem_cons_of_mem _ hq)) h2
   exact ⟨fun p hp=>(List.mem_cons.mp hp).elim (fun e=>e ▸ h1) (k1 p),k2⟩
  split at h
  ·rename_i hb; exact both (.inl hb) h
  ·split at h
   ·rename_i u H2 hs
    split at h
    ·exact both (.inr (one hs h.1)) h.2
    ·split at h
     ·rename_i he; exact both (.inr (one hs (AVal.eqb_eq _ _ he))) h
     ·exact h.elim
   ·exact h.elim
def gdraw (call:GCall) (ov:Nat→Option Bool) (ms:List Nat):Nat→List AOper→List (Nat × AHeap)→List Seen→Env→AHeap→(Env→AHeap→Prop)→Prop
 | _,[],_,_,T,H,K=>K T H
 | i,o::r,hs,rs,T,H,K=>match wantedA T o.guard with
  | none=>False
  | some false=>gdraw call ov ms (i+1) r hs rs (T.put o.dst aundef) H K
  | some true=>match told ov o T with
   | some (c,u,v,b)=>abin c u v=some (.bool b)∧gdraw call ov ms (i+1) r hs rs (T.put o.dst (.bool b)) H K
   | none=>match astep o.op T H with
    | some (.value v H1)=>
     match o.op.quiet with
     | true=>match o.op.reads with
      | true=>seesK (ms.getD i 0) o.op T v hs (gdraw call ov ms (i+1) r hs (⟨i,o.op,T,v⟩::rs) (T.put o.dst v) H K)
      | false=>gdraw call ov ms (i+1) r hs rs (T.put o.dst v) H K
     | false=>staysK (ms.getD i 0) H1 rs (gdraw call ov ms (i+1) r ((i,H)::hs) rs (T.put o.dst v) H1 K)
    | some (.enter f xs)=>call f xs H fun x H1=>match x with
     | .ret v=>staysK (ms.getD i 0) H1 rs (gdraw call ov ms (i+1) r ((i,H)::hs) rs (T.put o.dst v) H1 K)
     | .pan v=>False
    | _=>False
theorem told_quiet {ov:Nat→Option Bool} {o:AOper} {T:Env} {c:BinOp} {u v:AVal} {b:Bool} (h:told ov o T=some (c,u,v,b)):o.op.quiet=true∧o.op.reads=false:=by
 unfold told at h
 split at h
 ·split at h
  ·split at h
   ·rename_i hop; rw [hop]; exact ⟨rfl,rfl⟩
   ·cases h
  ·cases h
 ·cases h
theorem gdraw_sound {P:Program} {call:GCall} (hc:call.Ok P) {ov:Nat→Option Bool} {ms:List Nat} {K K':Env→AHeap→Prop} (hK:∀ T H,K T H→K' T H):∀ (l:List AOper) (i:Nat) (hs:List (Nat × AHeap)) (rs:List Seen) (T:Env) (H:AHeap),(∀ q ∈ rs,q.op.quiet=true)→gdraw call ov ms i l hs rs T H K→DrawRun P ms i l hs rs T H K'
 | [],i,hs,rs,T,H,_,h=>hK _ _ h
 | o::r,i,hs,rs,T,H,hall,h=>by
  simp only [gdraw] at h
  simp only [DrawRun]
  split at h
  ·exact h.elim
  ·rename_i hw; rw [hw]; exact gdraw_sound hc hK r _ _ _ _ _ hall h
  ·rename_i hw
   rw [hw]
   split at h
   ·rename_i c u v b ht
    obtain ⟨q1,q2⟩:=told_quiet ht
    rw [told_step ht h.1 H]
    simp only [q1,q2,if_true,Bool.false_eq_true,if_false]
    exact gdraw_sound hc hK r _ _ _ _ _ hall h.2
   ·split at h
    ·rename_i v H1 hst
     rw [hst]
     simp only
     split at h
     ·rename_i hq
      obtain ⟨u',hu'⟩:=astep_quiet hq hst
      injection hu' with e1 e2
      subst e2
      rw [if_pos hq]
      split at h
      ·rename_i hr
       rw [if_pos hr]
       obtain ⟨hsee,h⟩:=seesK_sound hq h
       exact ⟨hsee,gdraw_sound hc hK r _ _ _ _ _ (fun q hq'=>(List.mem_cons.mp hq').elim (fun e=>by subst e; exact hq) (hall q)) h⟩
      ·rename_i hr
       rw [if_neg (by rw [hr]; simp)]
       exact gdraw_sound hc hK r _ _ _ _ _ hall h
     ·rename_i hq
      rw [if_neg (by rw [hq]; simp)]
      obtain ⟨hst',h⟩:=staysK_sound hall h
      exact ⟨hst',gdraw_sound hc hK r _ _ _ _ _ hall h⟩
    ·rename_i f xs hst
     rw [hst]
     simp only
     obtain ⟨x,H1,h',hd⟩:=hc f xs H _ h
     cases x with
     | pan v=>exact h'.elim
     | ret v=>
      simp only at h'
      obtain ⟨hst',h'⟩:=staysK_sound hall h'
      exact ⟨v,H1,hd.det,hst',gdraw_sound hc hK r _ _ _ _ _ hall h'⟩
    ·exact h.elim
theorem DRX.drawD {P:Program} {ks:Keeps} {nt:Nat} {k:List AItem} {ds:List ADef} {T:Env} {H:AHeap} {Q:AEnd→List ADef→Env→AHeap→Prop} {l:List AOper} {kl:List Nat} {ms:List Nat} (hm:P.follows .mixedOrders=true) (hok:okDraw l ms=true)
  (h:DrawRun P ms 0 l [] [] T H fun T' H'=>DRX P ks nt k ds (T'.keep kl) H' Q):DRX P ks nt (.code (.region true l kl)::k) ds T H Q:=by
 obtain ⟨st,hl,h0,e,d,T',H',hq,hr⟩:=h.line
 exact ⟨e,d,T',H',hq,RunsX.ofLine hm hok hl h0 hr⟩
def gleave (call:ACallD) (al:List ARes):List ADef→AEnd→Env→AHeap→(AOut→AHeap→Prop)→Prop
 | [],.ret,T,H,K=>match aresult H T al with
  | some r=>K (.ret r) H
  | none=>False
 | [],.pan v,_,H,K=>K (.pan v) H
 | (g,xs)::ds,m,T,H,K=>match call g xs m H with
  | some (m',H')=>gleave call al ds m' T H' K
  | none=>False
theorem gleave_sound {P:Program} {call:ACallD} (hc:SoundD P call) {al:List ARes} {K:AOut→AHeap→Prop}:∀ (ds:List ADef) (m:AEnd) (T:Env) (H:AHeap),gleave call al ds m T H K→DLeave P al ds m T H K
 | [],.ret,T,H,h=>by
  simp only [gleave] at h
  split at h
  ·rename_i r hr; exact ⟨r,hr,h⟩
  ·exact h.elim
 | [],.pan v,T,H,h=>h
 | (g,xs)::ds,m,T,H,h=>by
  simp only [gleave] at h
  split at h
  ·rename_i m1 H1 he
   exact (hc _ _ _ _ _ _ he).mono fun a b ⟨e1,e2⟩=>by subst e1; subst e2; exact gleave_sound hc ds _ _ _ h
  ·exact h.elim
end Go.Am
namespace Go.Am
open Go.RowKit
end Go.Am
namespace Go.Am
open Go.RowKit
def toldS (sym:List Nat) (o:AOper) (T:Env):Option (BinOp × AVal × AVal × Bool):=told (fun d=>match sym.contains d with
 | true=>some true
 | false=>none) o T
def hops (call:GCall) (sym:List Nat):List AOper→List ADef→Env→AHeap→(List ADef→Env→AHeap→Prop)→(AVal→List ADef→Env→AHeap→Prop)→Prop
 | [],ds,T,H,K,R=>K ds T H
 | o::r,ds,T,H,K,R=>match wantedA T o.guard with
  | none=>False
  | some false=>hops call sym r ds (T.put o.dst aundef) H K R
  | some true=>match toldS sym o T with
   | some (c,u,v,_)=>isCmp c u v=true∧(abin c u v=some (.bool true)→hops call sym r ds (T.put o.dst (.bool true)) H K R)∧(abin c u v=some (.bool false)→hops call sym r ds (T.put o.dst (.bool false)) H K R)
   | none=>match astep o.op T H with
    | some (.value v H')=>hops call sym r ds (T.put o.dst v) H' K R
    | some (.enter f xs)=>call f xs H fun x H'=>match x with
     | .ret v=>hops call sym r ds (T.put o.dst v) H' K R
     | .pan v=>R v ds T H'
    | some (.pan v)=>R v ds T H
    | _=>False
theorem told_any {ov:Nat→Option Bool} {o:AOper} {T:Env} {c:BinOp} {u v:AVal} {b b':Bool} (h:told ov o T=some (c,u,v,b)) (hb:abin c u v=some (.bool b')) (H:AHeap):astep o.op T H=some (.value (.bool b') H):=by
 unfold told at h
 split at h
 ·split at h
  ·split at h
   ·rename_i hop
    split at h
    ·rename_i hu hv
     injection h with h; injection h with h1 h; injection h with h2 h; injection h with h3 h4
     subst h1; subst h2; subst h3
     rw [hop]; simp [astep,hu,hv,hb]
    ·cases h
   ·cases h
  ·cases h
 ·cases h
theorem hops_sound {P:Program} {call:GCall} (hc:call.Ok P) {sym:List Nat} {K K':List ADef→Env→AHeap→Prop} {R R':AVal→List ADef→Env→AHeap→Prop} (hK:∀ ds T H,K ds T H→K' ds T H) (hR:∀ v ds T H,R v ds T H→R' v ds T H):∀ (l:List AOper) (ds:List ADef) (T:Env) (H:AHeap),hops call sym l ds T H K R→DOpsX P l ds T H K' R'
 | [],ds,T,H,h=>hK _ _ _ h
 | o::r,ds,T,H,h=>by
  simp only [hops] at h
  simp only [DOpsX]
  split at h
  ·exact h.elim
  ·rename_i hw; rw [hw]; exact hops_sound hc hK hR r _ _ _ h
  ·rename_i hw
   rw [hw]
   split at h
   ·rename_i c u v b ht
    obtain ⟨b',hb'⟩:=isCmp_some h.1
    rw [told_any ht hb' H]
    cases b' with
    | true=>exact hops_sound hc hK hR r _ _ _ (h.2.1 hb')
    | false=>exact hops_sound hc hK hR r _ _ _ (h.2.2 hb')
   ·split at h
    ·rename_i v H1 hs; rw [hs]; exact hops_sound hc hK hR r _ _ _ h
    ·rename_i f xs hs
     rw [hs]
     refine (hc f xs H _ h).mono fun x H' h'=> ?_
     cases x with
     | ret v=>exact hops_sound hc hK hR r _ _ _ h'
     | pan v=>exact hR _ _ _ _ h'
    ·rename_i v hs; rw [hs]; exact hR _ _ _ _ h
    ·exact h.elim
def hrun (call:GCall) (sym:List Nat):Nat→List AItem→List ADef→Env→AHeap→(AEnd→List ADef→Env→AHeap→Prop)→Prop
 | 0,_,_,_,_,_=>False
 | n+1,todo,ds,T,H,Q=>match todo with
  | []=>Q .ret ds T H
  | .inBlock _::k=>hrun call sym n k ds T H Q
  | .inLoop x::k=>hrun call sym n (.code x::.inLoop x::k) ds T H Q
  | .inScope _::k=>hrun call sym n k ds T H Q
  | .code c::k=>match c with
   | .skip=>hrun call sym n k ds T H Q
   | .label _=>hrun call sym n k ds T H Q
   | .seq x y=>hrun call sym n (.code x::.code y::k) ds T H Q
   | .block id x=>hrun call sym n (.code x::.inBlock id::k) ds T H Q
   | .loop x=>hrun call sym n (.code x::.inLoop x::k) ds T H Q
   | .scope x=>hrun call sym n (.code x::.inScope x::k) ds T H Q
   | .ret=>Q .ret ds T H
   | .cond u x y=>match T.val u with
    | some (.bool true)=>hrun call sym n (.code x::k) ds T H Q
    | some (.bool false)=>hrun call sym n (.code y::k) ds T H Q
    | _=>False
   | .exit id=>match aexitTo id k with
    | some k'=>hrun call sym n k' ds T H Q
    | none=>False
   | .goto l=>match agotoIn l k with
    | some k'=>hrun call sym n k' ds T H Q
    | none=>False
   | .region false l kl=>hops call sym l ds T H (fun ds' T' H'=>hrun call sym n k ds' (T'.keep kl) H' Q) fun v ds' T' H'=>Q (.pan v) ds' T' H'
   | .region true l kl=>match okDraw l (aclos l []) with
    | true=>match l.all fun o=>o.op.quiet with
     | true=>hops call sym l ds T H (fun _ T' H'=>hrun call sym n k ds (T'.keep kl) H' Q) fun _ _ _ _=>False
     | false=>gdraw call (fun _=>none) (aclos l []) 0 l [] [] T H fun T' H'=>hrun call sym n k ds (T'.keep kl) H' Q
    | false=>False
theorem hops_draw {P:Program} {ms:List Nat} {ds:List ADef} {K:List ADef→Env→AHeap→Prop} {R:AVal→List ADef→Env→AHeap→Prop} {K':Env→AHeap→Prop} (hK:∀ T H,K ds T H→K' T H):∀ {l:List AOper} {i:Nat} {rs:List Seen} {T:Env} {H:AHeap},(∀ o ∈ l,o.op.quiet=true)→(∀ q ∈ rs,q.op.quiet=true)→DOpsX P l ds T H K R→DrawRun P ms i l [] rs T H K'
 | [],i,rs,T,H,_,_,h=>hK T H h
 | o::r,i,rs,T,H,hq,hr,h=>by
  simp only [DOpsX] at h
  simp only [DrawRun]
  have hqo:=hq o (List.mem_cons_self ..)
  have hqr:=fun x hx=>hq x (List.mem_cons_of_mem _ hx)
  cases hw:wantedA T o.guard with
  | none=>rw [hw] at h; exact h.elim
  | some b=>
   rw [hw] at h
   cases b with
   | false=>exact hops_draw hK hqr hr h
   | true=>
    simp only at h ⊢
    cases hs:astep o.op T H with
    | none=>rw [hs] at h; exact h.elim
    | some nx=>
     obtain ⟨v,rfl⟩:=astep_quiet hqo hs
     rw [hs] at h
     simp only at h ⊢
     rw [if_pos hqo]
     split
     ·exact ⟨fun p hp=>(by cases hp),hops_draw hK hqr (fun q hq'=>(List.mem_cons.mp hq').elim (fun e=>by subst e; exact hqo) (hr q)) h⟩
     ·exact hops_draw hK hqr hr h
theorem DRX.drawH {P:Program} {ks:Keeps} {nt:Nat} {k:List AItem} {ds:List ADef} {T:Env} {H:AHeap} {Q:AEnd→List ADef→Env→AHeap→Prop} {l:List AOper} {kl:List Nat} (hm:P.follows .mixedOrders=true) (hok:okDraw l (aclos l [])=true) (hq:(l.all fun o=>o.op.quiet)=true)
  (h:DOpsX P l ds T H (fun _ T' H'=>DRX P ks nt k ds (T'.keep kl) H' Q) fun _ _ _ _=>False):DRX P ks nt (.code (.region true l kl)::k) ds T H Q:=
 DRX.drawD hm hok (hops_draw (fun T' H' h'=>h') (fun o ho=>List.all_eq_true.mp hq o ho) (fun p hp=>by cases hp) h)
theorem hrun_sound {P:Program} {ks:Keeps} {nt:Nat} {call:GCall} (hm:P.follows .mixedOrders=true) (hc:call.Ok P) {sym:List Nat} {Q Q':AEnd→List ADef→Env→AHeap→Prop} (hQ:∀ e ds T H,Q e ds T H→Q' e ds T H):∀ (n:Nat) (todo:List AItem) (ds:List ADef) (T:Env) (H:AHeap),hrun call sym n todo ds T H Q→DRX P ks nt todo ds T H Q'
 | 0,todo,ds,T,H,h=>h.elim
 | n+1,todo,ds,T,H,h=>by
  unfold hrun at h
  split at h
  ·exact DRX.done (hQ _ _ _ _ h)
  ·exact DRX.inBlock (hrun_sound hm hc hQ n _ _ _ _ h)
  ·exact DRX.inLoop (hrun_sound hm hc hQ n _ _ _ _ h)
  ·exact DRX.inScope (hrun_sound hm hc hQ n _ _ _ _ h)
  ·split at h
   ·exact DRX.skip (hrun_sound hm hc hQ n _ _ _ _ h)
   ·exact DRX.label (hrun_sound hm hc hQ n _ _ _ _ h)
   ·exact DRX.seq (hrun_sound hm hc hQ n _ _ _ _ h)
   ·exact DRX.block (hrun_sound hm hc hQ n _ _ _ _ h)
   ·exact DRX.loop (hrun_sound hm hc hQ n _ _ _ _ h)
   ·exact DRX.scope (hrun_sound hm hc hQ n _ _ _ _ h)
   ·exact DRX.ret (hQ _ _ _ _ h)
   ·split at h
    ·rename_i hu; exact DRX.yes hu (hrun_sound hm hc hQ n _ _ _ _ h)
    ·rename_i hu; exact DRX.no hu (hrun_sound hm hc hQ n _ _ _ _ h)
    ·exact h.elim
   ·split at h
    ·rename_i he; exact DRX.exit he (hrun_sound hm hc hQ n _ _ _ _ h)
    ·exact h.elim
   ·split at h
    ·rename_i he; exact DRX.goto he (hrun_sound hm hc hQ n _ _ _ _ h)
    ·exact h.elim
   ·exact DRX.region (hops_sound hc (fun ds' T' H' h'=>hrun_sound hm hc hQ n _ _ _ _ h') (fun v ds' T' H' h'=>hQ _ _ _ _ h') _ _ _ _ h)
   ·split at h
    ·rename_i hok
     split at h
     ·rename_i hq
      exact DRX.drawH hm hok hq (hops_sound hc (fun ds' T' H' h'=>hrun_sound hm hc hQ n _ _ _ _ h') (fun v ds' T' H' h'=>h') _ _ _ _ h)
     ·exact DRX.drawD hm hok (gdraw_sound hc (fun T' H' h'=>hrun_sound hm hc hQ n _ _ _ _ h') _ _ _ _ _ _ (fun q hq=>by cases hq) h)
    ·exact h.elim
abbrev GKnown:=FuncId→List AVal→AHeap→(AOut→AHeap→Prop)→Option Prop
def GKnown.Ok (P:Program) (g:GKnown):Prop:=∀ f xs H F p,g f xs H F=some p→p→DCallX P f xs H F
def GKnown.none:GKnown:=fun _ _ _ _=>Option.none
theorem GKnown.none_ok (P:Program):GKnown.none.Ok P:=fun _ _ _ _ _ h=>nomatch h
def hcall (tab:Tab) (known:GKnown) (sym:FuncId→List Nat) (steps:Nat):Nat→GCall
 | 0,_,_,_,_=>False
 | n+1,f,xs,H,F=>match known f xs H F with
  | some p=>p
  | none=>match tab.at_ f with
   | none=>False
   | some af=>match Nat.ble xs.length af.ntmps with
    | true=>hrun (hcall tab known sym steps n) (sym f) steps [.code af.body] [] (envFrom 0 xs) H fun e ds T' H'=>gleave (fun _ _ _ _=>Option.none) af.results ds e T' H' F
    | false=>False
theorem leave_none {P:Program}:SoundD P fun _ _ _ _=>Option.none:=fun _ _ _ _ _ _ h=>by cases h
theorem hcall_sound {P:Program} {tab:Tab} {known:GKnown} (hm:P.follows .mixedOrders=true) (ht:tab.Ok P) (hk:known.Ok P) {sym:FuncId→List Nat} {steps:Nat}:∀ n,(hcall tab known sym steps n).Ok P
 | 0=>fun f xs H F h=>h.elim
 | n+1=>fun f xs H F h=>by
  simp only [hcall] at h
  split at h
  ·rename_i p hp
   exact hk f xs H F p hp h
  ·split at h
   ·exact h.elim
   ·rename_i af haf
    split at h
    ·rename_i hn
     obtain ⟨fn,ks,h1,h2,h3⟩:=Tab.ok_at ht haf
     exact DCallX.of_body h1 h2 h3 (Nat.le_of_ble_eq_true hn) (hrun_sound hm (hcall_sound hm ht hk n) (fun e ds T' H' h'=>gleave_sound leave_none _ _ _ _ h') _ _ _ _ _ h)
    ·exact h.elim
end Go.Am
