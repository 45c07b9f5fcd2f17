/- The abstract machine's states and the model's worlds: when a world realizes a state. -/
import Derived.Test.YtmoimchdhgoeeaaDoorAm1
import Derived.Orders
import Derived.Below
set_option linter.unusedVariables false
namespace Go.Am
abbrev Mu:=Nat→Option (Nat × Nat)
mutual
def VR (P:Program) (w:World) (ro:Nat→Prop) (μ:Mu):AVal→Value→Prop
  | .bool b,v=>v = .bool b
  | .int k n,v=>v = .int k n
  | .flt k n,v=>v = .float k n
  | .str s,v=>v = .string s
  | .nilp,v=>v = .pointer none
  | .nils,v=>v = .slice none 0 0
  | .nilm,v=>v = .map none
  | .nilf,v=>v = .nilFunc
  | .nili,v=>v = .nilIface
  | .ptr id off,v=>∃ b base,μ id=some (b,base)∧v = .pointer (some ⟨b,base+off,none⟩)
  | .rop cs,v=>∃ b o sp,v = .pointer (some ⟨b,o,sp⟩)∧(cs≠[]→ro b∧sp=none)∧VRat P w ro μ cs b o
  | .sl id off n cap,v=>∃ b base c e fr k,μ id=some (b,base)∧w.heap[b]? = some (Obj.cells c e fr)∧v = .slice (some ⟨b,base+off,none⟩) n k∧n≤k∧
      (match cap with | some j=>k=j | none=>base+off+k * P.cellsOf e=c.size)
  | .ros cs n,v=>∃ b o k sp,v = .slice (some ⟨b,o,sp⟩) n k∧n≤k∧(cs≠[]→ro b∧sp=none)∧VRat P w ro μ cs b o
  | .map id,v=>∃ b,μ id=some (b,0)∧v = .map (some b)
  | .fn f first cap,v=>∃ fs cs,v = .func f fs cs∧VRs P w ro μ first fs.toList∧VRs P w ro μ cap cs.toList
  | .ifc t x,v=>∃ u,v = .iface t u∧VR P w ro μ x u
  | .agg cs,v=>∃ vs,v = .agg vs∧VRs P w ro μ cs vs.toList
  | .tup cs,v=>∃ vs,v = .tuple vs∧VRs P w ro μ cs vs.toList
  | .nan k,v=>∃ b,v = .float k b∧(k.format.read b).isNaN=true
def VRs (P:Program) (w:World) (ro:Nat→Prop) (μ:Mu):List AVal→List Value→Prop
  | [],vs=>vs=[]
  | c::cs,vs=>∃ u r,vs=u::r∧VR P w ro μ c u∧VRs P w ro μ cs r
def VRat (P:Program) (w:World) (ro:Nat→Prop) (μ:Mu):List AVal→Nat→Nat→Prop
  | [],_,_=>True
  | c::cs,b,o=>(∃ u,w.cell? ⟨b,o,none⟩=some u∧VR P w ro μ c u)∧VRat P w ro μ cs b (o+1)
end
def ER (P:Program) (w:World) (ro:Nat→Prop) (μ:Mu) (e:AEntry) (m:MapEntry):Prop:=
  VR P w ro μ e.key m.key∧VR P w ro μ e.val m.val∧m.born=e.born∧simpleKey e.key=true
def ERs (P:Program) (w:World) (ro:Nat→Prop) (μ:Mu):List AEntry→List MapEntry→Prop
  | [],ms=>ms=[]
  | e::es,ms=>∃ m r,ms=m::r∧ER P w ro μ e m∧ERs P w ro μ es r
def BR (P:Program) (w:World) (ro:Nat→Prop) (μ:Mu) (b base:Nat):ABlk→Prop
  | .cells e cs=>∃ c fr,w.heap[b]? = some (Obj.cells c e fr)∧base+cs.length≤c.size∧(∀ i,base≤i→i < c.size→¬ (fr.1≤i∧i < fr.2))∧VRat P w ro μ cs b base
  | .map es clock=>base=0∧∃ ms,w.heap[b]? = some (Obj.map ms clock)∧ERs P w ro μ es ms.toList
  | .siter s pos=>base=0∧w.heap[b]? = some (Obj.stringIter s pos)
  | .miter m since seen last=>base=0∧∃ bm,μ m=some (bm,0)∧w.heap[b]? = some (Obj.mapIter (some bm) since seen.toArray last)
def Lv (μ:Mu) (H:AHeap) (b:Nat):Prop:=∃ id k base,H.get id=some k∧μ id=some (b,base)
def Glob (P:Program) (w:World) (ro:Nat→Prop):Prop:=∀ g cs,laidAt g=some cs→ro g∧∀ μ,VRat P w ro μ cs g 0
structure Good (P:Program) (w:World) (ro:Nat→Prop) (μ:Mu) (H:AHeap):Prop where
  blk:∀ id k b base,H.get id=some k→μ id=some (b,base)→BR P w ro μ b base k
  lt:∀ id b base,μ id=some (b,base)→b < w.heap.size
  nro:∀ id k b base,H.get id=some k→μ id=some (b,base)→¬ ro b
  inj:∀ i j ki kj b oi oj,H.get i=some ki→H.get j=some kj→μ i=some (b,oi)→μ j=some (b,oj)→i=j
  new:∀ id,H.next≤id→μ id=none
  rolt:∀ b,ro b→b < w.heap.size
  glob:Glob P w ro
structure Keep (w w':World) (L:Nat→Prop):Prop where
  size:w.heap.size≤w'.heap.size
  same:∀ b:Nat,b < w.heap.size→¬ L b→w'.heap[b]? = w.heap[b]?
  shape:∀ (b:Nat) (c:Array Value) (e:TypeId) (fr:Nat × Nat),w.heap[b]? = some (Obj.cells c e fr)→∃ c' fr',w'.heap[b]? = some (Obj.cells c' e fr')∧c'.size=c.size
  os:w'.os=w.os
  tape:w'.tape=w.tape
  output:w'.output=w.output
structure Out (w:World) (ro:Nat→Prop) (μ:Mu) (H:AHeap) (w':World) (ro':Nat→Prop) (μ':Mu) (H':AHeap):Prop where
  next:H.next≤H'.next
  same:∀ id,id < H.next→μ' id=μ id
  roLe:∀ b,ro b→ro' b
  roNew:∀ b,ro' b→ro b∨Lv μ H b∨w.heap.size≤b
  lv:∀ b,Lv μ' H' b→Lv μ H b∨w.heap.size≤b
  keep:Keep w w' (Lv μ H)
theorem Keep.refl (w:World) (L:Nat→Prop):Keep w w L:=⟨Nat.le_refl _,fun _ _ _=>rfl,fun _ c _ fr h=>⟨c,fr,h,rfl⟩,rfl,rfl,rfl⟩
theorem Keep.trans {w w1 w2:World} {L L1:Nat→Prop} (h:Keep w w1 L) (k:Keep w1 w2 L1) (hl:∀ b,L1 b→L b∨w.heap.size≤b):Keep w w2 L:=
  ⟨Nat.le_trans h.size k.size,fun b hb hn=>(k.same b (Nat.lt_of_lt_of_le hb h.size) (fun hb1=>(hl b hb1).elim hn (fun hge=>absurd hb (by omega)))).trans (h.same b hb hn),
   fun b c e fr hc=>by
    obtain ⟨c1,f1,h1,s1⟩:=h.shape b c e fr hc
    obtain ⟨c2,f2,h2,s2⟩:=k.shape b c1 e f1 h1
    exact ⟨c2,f2,h2,s2.trans s1⟩,
   k.os.trans h.os,k.tape.trans h.tape,k.output.trans h.output⟩
theorem Keep.mono {w w':World} {L L':Nat→Prop} (h:Keep w w' L) (hl:∀ b,L b→L' b):Keep w w' L':=
  ⟨h.size,fun b hb hn=>h.same b hb (fun x=>hn (hl b x)),h.shape,h.os,h.tape,h.output⟩
theorem Out.refl (w:World) (ro:Nat→Prop) (μ:Mu) (H:AHeap):Out w ro μ H w ro μ H:=
  ⟨Nat.le_refl _,fun _ _=>rfl,fun _ h=>h,fun _ h=>.inl h,fun _ h=>.inl h,Keep.refl _ _⟩
theorem Out.trans {w w1 w2:World} {ro ro1 ro2:Nat→Prop} {μ μ1 μ2:Mu} {H H1 H2:AHeap} (h:Out w ro μ H w1 ro1 μ1 H1) (k:Out w1 ro1 μ1 H1 w2 ro2 μ2 H2):Out w ro μ H w2 ro2 μ2 H2:=
  ⟨Nat.le_trans h.next k.next,fun id hi=>(k.same id (Nat.lt_of_lt_of_le hi h.next)).trans (h.same id hi),fun b hb=>k.roLe b (h.roLe b hb),
   fun b hb=>by
    rcases k.roNew b hb with x | x | x
    · exact h.roNew b x
    · exact .inr (h.lv b x)
    · exact .inr (.inr (Nat.le_trans h.keep.size x)),
   fun b hb=>by
    rcases k.lv b hb with x | x
    · exact h.lv b x
    · exact .inr (Nat.le_trans h.keep.size x),
   h.keep.trans k.keep h.lv⟩
structure Ext (w:World) (ro:Nat→Prop) (μ:Mu) (w':World) (ro':Nat→Prop) (μ':Mu):Prop where
  rom:∀ b,ro b→ro' b
  mu:∀ id b o,μ id=some (b,o)→μ' id=some (b,o)
  cell:∀ b:Nat,ro b→w'.heap[b]? = w.heap[b]?
  shape:∀ (b:Nat) (c:Array Value) (e:TypeId) (fr:Nat × Nat),w.heap[b]? = some (Obj.cells c e fr)→∃ c' fr',w'.heap[b]? = some (Obj.cells c' e fr')∧c'.size=c.size
theorem Ext.refl (w:World) (ro:Nat→Prop) (μ:Mu):Ext w ro μ w ro μ:=⟨fun _ h=>h,fun _ _ _ h=>h,fun _ _=>rfl,fun _ c _ fr h=>⟨c,fr,h,rfl⟩⟩
mutual
theorem VR.ext {P:Program} {w w':World} {ro ro':Nat→Prop} {μ μ':Mu} (h:Ext w ro μ w' ro' μ'):∀ (a:AVal) (v:Value),VR P w ro μ a v→VR P w' ro' μ' a v
  | .bool b,v=>id | .int k n,v=>id | .flt k n,v=>id | .str s,v=>id
  | .nilp,v=>id | .nils,v=>id | .nilm,v=>id | .nilf,v=>id | .nili,v=>id
  | .ptr i off,v=>fun ⟨b,base,hm,hv⟩=>⟨b,base,h.mu _ _ _ hm,hv⟩
  | .rop cs,v=>fun ⟨b,o,sp,hv,hr,hc⟩=>⟨b,o,sp,hv,fun hn=>⟨h.rom _ (hr hn).1,(hr hn).2⟩,VRat.ext h cs b o (fun hn=>(hr hn).1) hc⟩
  | .sl i off n cap,v=>fun ⟨b,base,c,e,fr,k,hm,hb,hv,hk,hcap⟩=>by
      obtain ⟨c',fr',hb',hs⟩:=h.shape b c e fr hb
      refine ⟨b,base,c',e,fr',k,h.mu _ _ _ hm,hb',hv,hk,?_⟩
      cases cap with
      | none=>simp only at hcap ⊢; rw [hs]; exact hcap
      | some j=>exact hcap
  | .ros cs n,v=>fun ⟨b,o,k,sp,hv,hk,hr,hc⟩=>⟨b,o,k,sp,hv,hk,fun hn=>⟨h.rom _ (hr hn).1,(hr hn).2⟩,VRat.ext h cs b o (fun hn=>(hr hn).1) hc⟩
  | .map i,v=>fun ⟨b,hm,hv⟩=>⟨b,h.mu _ _ _ hm,hv⟩
  | .fn f first cap,v=>fun ⟨fs,cs,hv,h1,h2⟩=>⟨fs,cs,hv,VRs.ext h first _ h1,VRs.ext h cap _ h2⟩
  | .ifc t x,v=>fun ⟨u,hv,hx⟩=>⟨u,hv,VR.ext h x u hx⟩
  | .agg cs,v=>fun ⟨vs,hv,hc⟩=>⟨vs,hv,VRs.ext h cs _ hc⟩
  | .tup cs,v=>fun ⟨vs,hv,hc⟩=>⟨vs,hv,VRs.ext h cs _ hc⟩
  | .nan k,v=>id
theorem VRs.ext {P:Program} {w w':World} {ro ro':Nat→Prop} {μ μ':Mu} (h:Ext w ro μ w' ro' μ'):∀ (as:List AVal) (vs:List Value),VRs P w ro μ as vs→VRs P w' ro' μ' as vs
  | [],vs=>id
  | c::cs,vs=>fun ⟨u,r,hv,hu,hr⟩=>⟨u,r,hv,VR.ext h c u hu,VRs.ext h cs r hr⟩
theorem VRat.ext {P:Program} {w w':World} {ro ro':Nat→Prop} {μ μ':Mu} (h:Ext w ro μ w' ro' μ'):∀ (cs:List AVal) (b o:Nat),(cs≠[]→ro b)→VRat P w ro μ cs b o→VRat P w' ro' μ' cs b o
  | [],_,_=>fun _ _=>True.intro
  | c::cs,b,o=>fun hro ⟨⟨u,hc,hu⟩,hr⟩=>⟨⟨u,by rw [← hc]; exact World.cell?_of_block (w:=w) (h.cell b (hro (by simp))),VR.ext h c u hu⟩,VRat.ext h cs b (o+1) (fun _=>hro (by simp)) hr⟩
end
theorem VRat_iff {P:Program} {w:World} {ro:Nat→Prop} {μ:Mu}:∀ (cs:List AVal) (b o:Nat),VRat P w ro μ cs b o↔∀ (i:Nat) (a:AVal),cs[i]? = some a→∃ u,w.cell? ⟨b,o+i,none⟩=some u∧VR P w ro μ a u
  | [],b,o=>by simp [VRat]
  | c::cs,b,o=>by
    simp only [VRat,VRat_iff cs b (o+1)]
    constructor
    · rintro ⟨h0,h⟩ i a hi
      cases i with
      | zero=>simp at hi; subst hi; exact h0
      | succ i=>have:=h i a (by simpa using hi); rwa [show o+1+i=o+(i+1) by omega] at this
    · intro h
      refine ⟨h 0 c rfl,fun i a hi=> ?_⟩
      have:=h (i+1) a (by simpa using hi)
      rwa [show o+(i+1)=o+1+i by omega] at this
theorem VRs_iff {P:Program} {w:World} {ro:Nat→Prop} {μ:Mu}:∀ (cs:List AVal) (vs:List Value),VRs P w ro μ cs vs↔cs.length=vs.length∧∀ (i:Nat) (a:AVal) (v:Value),cs[i]? = some a→vs[i]? = some v→VR P w ro μ a v
  | [],vs=>by cases vs <;> simp [VRs]
  | c::cs,vs=>by
    cases vs with
    | nil=>simp [VRs]
    | cons u r=>
      simp only [VRs,VRs_iff cs]
      constructor
      · rintro ⟨u',r',he,hu,hl,h⟩
        injection he with h1 h2; subst h1; subst h2
        refine ⟨by simp [hl],fun i a v ha hv=> ?_⟩
        cases i with
        | zero=>simp at ha hv; subst ha; subst hv; exact hu
        | succ i=>exact h i a v (by simpa using ha) (by simpa using hv)
      · rintro ⟨hl,h⟩
        exact ⟨u,r,rfl,h 0 c u rfl rfl,by simpa using hl,fun i a v ha hv=>h (i+1) a v (by simpa using ha) (by simpa using hv)⟩
theorem VRat.cells {P:Program} {w:World} {ro:Nat→Prop} {μ:Mu} {cs:List AVal} {b o:Nat} {c:Array Value} {e:TypeId} {fr:Nat × Nat} (hb:w.heap[b]? = some (Obj.cells c e fr)) (h:VRat P w ro μ cs b o) :
    VRs P w ro μ cs ((c.toList.drop o).take cs.length)∧(cs≠[]→o+cs.length≤c.size):=by
  rw [VRat_iff] at h
  have hcell:∀ i,w.cell? ⟨b,o+i,none⟩=c[o+i]? :=fun i=>by simp [World.cell?,hb]
  have hlen:cs≠[]→o+cs.length≤c.size:=by
    intro hne
    have hp:0 < cs.length:=List.length_pos_iff.2 hne
    obtain ⟨u,hu,_⟩:=h (cs.length - 1) (cs[cs.length - 1]'(by omega)) (by rw [List.getElem?_eq_getElem])
    rw [hcell] at hu
    have:=(Array.getElem?_eq_some_iff.1 hu).1
    omega
  refine ⟨?_,hlen⟩
  rw [VRs_iff]
  refine ⟨?_,fun i a v ha hv=> ?_⟩
  · by_cases hne:cs=[]
    · simp [hne]
    · have:=hlen hne; simp; omega
  · obtain ⟨u,hu,hvr⟩:=h i a ha
    rw [hcell] at hu
    have hi:i < cs.length:=(List.getElem?_eq_some_iff.1 ha).1
    rw [List.getElem?_take,if_pos hi,List.getElem?_drop] at hv
    have:c[o+i]? = some v:=by simpa using hv
    rw [this] at hu; injection hu with hu; subst hu; exact hvr
theorem ER.ext {P:Program} {w w':World} {ro ro':Nat→Prop} {μ μ':Mu} (h:Ext w ro μ w' ro' μ') {e:AEntry} {m:MapEntry} (k:ER P w ro μ e m):ER P w' ro' μ' e m:=
  ⟨k.1.ext h _ _,k.2.1.ext h _ _,k.2.2.1,k.2.2.2⟩
theorem ERs.ext {P:Program} {w w':World} {ro ro':Nat→Prop} {μ μ':Mu} (h:Ext w ro μ w' ro' μ'):∀ (es:List AEntry) (ms:List MapEntry),ERs P w ro μ es ms→ERs P w' ro' μ' es ms
  | [],ms=>id
  | e::es,ms=>fun ⟨m,r,hm,he,hr⟩=>⟨m,r,hm,he.ext h,ERs.ext h es r hr⟩
theorem BR.ext {P:Program} {w w':World} {ro ro':Nat→Prop} {μ μ':Mu} (h:Ext w ro μ w' ro' μ') {b base:Nat} (hb:w'.heap[b]? = w.heap[b]?):∀ {k:ABlk},BR P w ro μ b base k→BR P w' ro' μ' b base k
  | .cells e cs=>fun ⟨c,fr,h1,h2,h3,h4⟩=>⟨c,fr,hb.trans h1,h2,h3,by
      rw [VRat_iff] at h4 ⊢
      intro i a hi
      obtain ⟨u,hu,hv⟩:=h4 i a hi
      exact ⟨u,by rw [← hu]; exact World.cell?_of_block (w:=w) hb,hv.ext h _ _⟩⟩
  | .map es clock=>fun ⟨h0,ms,h1,h2⟩=>⟨h0,ms,hb.trans h1,h2.ext h _ _⟩
  | .siter s pos=>fun ⟨h0,h1⟩=>⟨h0,hb.trans h1⟩
  | .miter m since seen last=>fun ⟨h0,bm,h1,h2⟩=>⟨h0,bm,h.mu _ _ _ h1,hb.trans h2⟩
theorem Out.ext {P:Program} {w w':World} {ro ro':Nat→Prop} {μ μ':Mu} {H H':AHeap} (hg:Good P w ro μ H) (h:Out w ro μ H w' ro' μ' H'):Ext w ro μ w' ro' μ':=
  ⟨h.roLe,fun id b o hm=>by
    rw [h.same id (by
      rcases Nat.lt_or_ge id H.next with hl | hl
      · exact hl
      · rw [hg.new id hl] at hm; cases hm)]
    exact hm,
   fun b hb=>h.keep.same b (hg.rolt b hb) (fun ⟨id,k,base,hk,hm⟩=>hg.nro id k b base hk hm hb),h.keep.shape⟩
theorem Glob.ext {P:Program} {w w':World} {ro ro':Nat→Prop} {μ μ':Mu} (h:Ext w ro μ w' ro' μ') (k:Glob P w ro):Glob P w' ro':=
  fun g cs hl=>⟨h.rom g (k g cs hl).1,fun ν=>VRat.ext (μ:=ν) (μ':=ν) ⟨h.rom,fun _ _ _ x=>x,h.cell,h.shape⟩ cs g 0 (fun _=>(k g cs hl).1) ((k g cs hl).2 ν)⟩
structure TR (P:Program) (w:World) (ro:Nat→Prop) (μ:Mu) (T:Env) (tmps:Array Value):Prop where
  val:∀ s v,T.get s=some v→VR P w ro μ v (tmps.getD s undef)
  glob:Glob P w ro
theorem TR.ext {P:Program} {w w':World} {ro ro':Nat→Prop} {μ μ':Mu} (h:Ext w ro μ w' ro' μ') {T:Env} {tmps:Array Value} (k:TR P w ro μ T tmps):TR P w' ro' μ' T tmps:=
  ⟨fun s v hv=>(k.val s v hv).ext h _ _,k.glob.ext h⟩
theorem Env.get_set (T:Env) (s:Nat) (v:AVal) (j:Nat):(T.set s v).get j=if j=s then some v else T.get j:=by
  induction T with
  | nil=>simp only [Env.set,Env.get]
  | cons p r ih=>
    obtain ⟨k,u⟩:=p
    simp only [Env.set]
    split
    · rename_i h; subst h
      simp only [Env.get]
      split <;> rfl
    · rename_i h
      simp only [Env.get,ih]
      split
      · rename_i h1; subst h1; rw [if_neg (fun e=>h e.symm)]
      · rfl
theorem Env.get_keep (T:Env) (l:List Nat) (j:Nat) (v:AVal) (h:(T.keep l).get j=some v):T.get j=some v:=by
  induction l with
  | nil=>simp [Env.keep,Env.get] at h
  | cons s r ih=>
    simp only [Env.keep] at h
    split at h
    · rename_i u hu
      simp only [Env.get] at h
      split at h
      · rename_i e; subst e; rw [hu]; exact h
      · exact ih h
    · exact ih h
end Go.Am
