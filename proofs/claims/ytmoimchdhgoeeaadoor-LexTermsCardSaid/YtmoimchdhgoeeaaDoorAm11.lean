/- One operation: conversions, maps, lengths, interface values, ranges over strings. -/
import Derived.Test.YtmoimchdhgoeeaaDoorAm10
set_option linter.unusedVariables false
set_option linter.unusedSimpArgs false
namespace Go.Am
open Go.RowKit
theorem sliceCells_sound {P:Program} {w:World} {ro:Nat→Prop} {μ:Mu} {H:AHeap} (hg:Good P w ro μ H) {n:Nat} {x:AVal} {x':Value} (hx:VR P w ro μ x x') {cs:List AVal} {len:Nat} (hl:alen x=some len) (h:sliceCells H n x=some cs) (hs:∀ s,x≠.str s) :
  (x' = .slice none 0 0∧cs=[]∧len=0)∨∃ b o k sp,x' = .slice (some ⟨b,o,sp⟩) len k∧VRat P w ro μ cs b o∧cs.length=len * n∧(cs≠[]→sp=none):=by
 unfold sliceCells at h
 split at h
 ·injection h with h; subst h
  simp only [VR] at hx; simp only [alen] at hl; injection hl with hl
  exact .inl ⟨hx,rfl,hl.symm⟩
 ·simp only [alen] at hl; injection hl with hl; subst hl
  split at h
  case isFalse=>cases h
  injection h with h; subst h
  obtain ⟨b,o,k,sp,rfl,_,hr,hc⟩:=hx
  exact .inr ⟨b,o,k,sp,rfl,hc.take _,by simp; omega,fun hne=>(hr (fun e=>hne (by rw [e]; simp))).2⟩
 ·simp only [alen] at hl; injection hl with hl; subst hl
  split at h
  case h_2=>cases h
  rename_i e cs' hid
  split at h
  case isFalse=>cases h
  injection h with h; subst h
  obtain ⟨b,base,c,e',fr,k,hm,hb,rfl,_,_⟩:=hx
  obtain ⟨c0,fr0,h1,h2,h3,h4⟩:=hg.blk _ _ b base hid hm
  exact .inr ⟨b,base+_,k,none,rfl,(h4.drop _).take _,by simp; omega,fun _=>rfl⟩
 ·exact absurd rfl (hs _)
 ·cases h
theorem bytesOf_sound {P:Program} {w:World} {ro:Nat→Prop} {μ:Mu}:∀ {cs:List AVal} {vs:List Value} {bs:List UInt8},VRs P w ro μ cs vs→bytesOf cs=some bs→∃ ns:List Int,vs=ns.map (Value.int .u8)∧bs=ns.map fun n=>UInt8.ofNat n.toNat
 | [],vs,bs,h,hb=>by
  simp only [VRs] at h; subst h
  simp only [bytesOf] at hb; injection hb with hb; subst hb
  exact ⟨[],rfl,rfl⟩
 | c::cs,vs,bs,h,hb=>by
  obtain ⟨u,r,rfl,hu,hr⟩:=h
  unfold bytesOf at hb
  split at hb
  ·rename_i e; cases e
  ·rename_i n rr e
   injection e with e1 e2; subst e1; subst e2
   simp only [Option.map_eq_some_iff] at hb
   obtain ⟨bs',hb',rfl⟩:=hb
   simp only [VR] at hu; subst hu
   obtain ⟨ns,rfl,rfl⟩:=bytesOf_sound hr hb'
   exact ⟨n::ns,rfl,rfl⟩
  ·cases hb
theorem foldl_push_u8 (ns:List Int) (r:ByteArray):ns.foldl (fun r n=>r.push (UInt8.ofNat n.toNat)) r=⟨(r.data.toList++ns.map fun n=>UInt8.ofNat n.toNat).toArray⟩:=by
 induction ns generalizing r with
 | nil=>simp
 | cons n ns ih=>
  rw [List.foldl_cons,ih]
  simp [ByteArray.push]
theorem do_bytesStr {P:Program} {w:World} {ro:Nat→Prop} {μ:Mu} {H:AHeap} (hg:Good P w ro μ H) {x:AVal} {x':Value} (hx:VR P w ro μ x x') {s d e:TypeId} (hs:P.underlying s=some (.slice e)) (he:P.underlying e=some (.int .u8)) (hd:P.underlying d=some .string) (hns:∀ s,x≠.str s)
  {cs:List AVal} {len:Nat} (hl:alen x=some len) (h:sliceCells H 1 x=some cs) {bs:List UInt8} (hb:bytesOf cs=some bs) :
  (convert s d x').run P w = .ok (.string ⟨bs.toArray⟩) w:=by
 rcases sliceCells_sound hg hx hl h hns with ⟨rfl,rfl,_⟩ | ⟨b,o,k,sp,rfl,hat,hlen,hsp⟩
 ·simp only [bytesOf] at hb; injection hb with hb; subst hb
  rw [run_convert_bytes_string w s d e none 0 0 hs he hd]
  simp [Conv.bytesToString]; rfl
 ·obtain ⟨vs,hvs,hcell⟩:=hat.vals
  obtain ⟨ns,rfl,rfl⟩:=bytesOf_sound hvs hb
  have hll:=hvs.len
  have hld:=run_loadCells_list (P:=P) w ⟨b,o,sp⟩ (ns.map (Value.int .u8)) (fun j u hj=>by
   have hne:cs≠[]:=by
    intro e; subst e
    have h0:=(List.getElem?_eq_some_iff.1 hj).1
    simp at hll h0; omega
   have hsp0:=hsp hne; subst hsp0
   rw [Addr.add_lit]; exact hcell j u hj)
  have hn:(ns.map (Value.int .u8)).length=len:=by omega
  rw [hn] at hld
  rw [run_convert_bytes_string w s d e (some ⟨b,o,sp⟩) len k hs he hd,run_bytesToString w ⟨b,o,sp⟩ len k ns hld,foldl_push_u8]
  simp
theorem do_strBytes {P:Program} {w:World} {ro:Nat→Prop} {μ:Mu} {H:AHeap} (hg:Good P w ro μ H) {src dst e:TypeId} (s:ByteArray) (hs:P.underlying src=some .string) (hd:P.underlying dst=some (.slice e)) (he:P.underlying e=some (.int .u8)) (hsz:szOf P e=some 1) (hlt:s.size < 9223372036854775808) :
  ∃ v' w' μ',(convert src dst (.string s)).run P w = .ok v' w'∧VR P w' ro μ' (.sl H.next 0 s.size none) v'∧Good P w' ro μ' (H.push (.cells e (s.data.toList.map fun b=>.int .u8 b.toNat)))∧Out w ro μ H w' ro μ' (H.push (.cells e (s.data.toList.map fun b=>.int .u8 b.toNat))):=by
 have hcap:s.size≤grownCap w s.size 0 e:=by unfold grownCap Question.cut; exact Nat.le_add_right _ _
 have hrow:(bytesRow s (grownCap w s.size 0 e)).size=grownCap w s.size 0 e:=by simp [bytesRow]; omega
 have hdata:s.data.size=s.size:=rfl
 have hp:=new_cells (P:=P) (w:=w) (w':=w.drew.alloc (.cells (bytesRow s (grownCap w s.size 0 e)) e ((bytesRow s (grownCap w s.size 0 e)).size,(bytesRow s (grownCap w s.size 0 e)).size+1))) (cs:=s.data.toList.map fun b=>AVal.int .u8 b.toNat) hg rfl rfl rfl rfl
  (fun i hi=>by simp; omega) (by simp [hrow]; omega) (by
   rw [VRs_iff]
   refine ⟨by simp [hrow]; omega,fun i a v ha hv=> ?_⟩
   simp only [List.getElem?_map,Option.map_eq_some_iff] at ha
   obtain ⟨c,hc,rfl⟩:=ha
   have hi:i < s.data.size:=by have:=(List.getElem?_eq_some_iff.1 hc).1; simpa using this
   rw [List.getElem?_take,if_pos (by simp; omega)] at hv
   simp only [bytesRow,Array.toList_append,Array.toList_map] at hv
   rw [List.getElem?_append_left (by simp; omega),List.getElem?_map,hc] at hv
   simp only [Option.map_some,Option.some.injEq] at hv
   exact hv.symm)
 refine ⟨_,_,μ.put H.next w.heap.size 0,run_bytes_of_string w src dst e s hs hd he,?_,hp⟩
 have hnew:(w.drew.alloc (.cells (bytesRow s (grownCap w s.size 0 e)) e ((bytesRow s (grownCap w s.size 0 e)).size,(bytesRow s (grownCap w s.size 0 e)).size+1))).heap[w.heap.size]? = some (Obj.cells (bytesRow s (grownCap w s.size 0 e)) e ((bytesRow s (grownCap w s.size 0 e)).size,(bytesRow s (grownCap w s.size 0 e)).size+1)):=by
  show (w.heap.push _)[w.heap.size]? = _; simp
 refine ⟨w.heap.size,0,_,e,_,grownCap w s.size 0 e,by simp [Mu.put],hnew,rfl,hcap,?_⟩
 have:P.cellsOf e=1:=by unfold szOf at hsz; simp [Program.cellsOf,hsz]
 simp [this,hrow]
theorem do_mkmap {P:Program} {w:World} {ro:Nat→Prop} {μ:Mu} {H:AHeap} (hg:Good P w ro μ H) (t:TypeId) :
  ∃ v' w' μ',(Instr.makeMap t none).run P w = .ok v' w'∧VR P w' ro μ' (.map H.next) v'∧Good P w' ro μ' (H.push (.map [] 0))∧Out w ro μ H w' ro μ' (H.push (.map [] 0)):=by
 refine ⟨.map (some w.heap.size),w.alloc (.map #[] 0),μ.put H.next w.heap.size 0,by simp [Instr.makeMap],⟨w.heap.size,by simp [Mu.put],rfl⟩,?_⟩
 exact hg.push (o:=.map #[] 0) rfl rfl rfl rfl ⟨rfl, #[],by show (w.heap.push _)[w.heap.size]? = _; simp,rfl⟩
theorem do_mkslice {P:Program} {w:World} {ro:Nat→Prop} {μ:Mu} {H:AHeap} (hg:Good P w ro μ H) {t e:TypeId} {i:TypeInfo} {z:AVal} {l c:Int} (hu:P.underlying t=some (.slice e)) (hi:P.info? e=some i) (hz:zeroOf P e=some z) (hzn:z.cells.length=i.size)
  (h0:0≤l) (hlc:l≤c) (hb:(i.bytes:Int) * c≤140737488355328) (h63:c < 9223372036854775808) (hz0:z.cells.length≠0) :
  ∃ v' w' μ',(Instr.makeSlice t (.int .i64 l) (.int .i64 c)).run P w = .ok v' w'∧VR P w' ro μ' (.sl H.next 0 l.toNat (some c.toNat)) v'∧Good P w' ro μ' (H.push (.cells e (List.replicate c.toNat z.cells).flatten))∧Out w ro μ H w' ro μ' (H.push (.cells e (List.replicate c.toNat z.cells).flatten)):=by
 obtain ⟨zv,_,hzv,hzz⟩:=zeroOf_sound hz w (ro:=ro) (μ:=μ)
 have hzz':i.zero=some zv:=by simpa [hi] using hzz
 have hzc:=hzv.cells
 have hzl:zv.cells.size=i.size:=by have:=hzc.len; simp at this; omega
 have hvr:VRs P w ro μ (List.replicate c.toNat z.cells).flatten (madeCells zv.cells (c.toNat * i.size)).toList:=by
  rw [madeCells_toList _ i.size c.toNat hzl (by omega)]; exact hzc.flat_rep _
 have hcl:=hvr.len
 simp only [Array.length_toList] at hcl
 have hp:=new_cells (w':=w.alloc (.cells (madeCells zv.cells (c.toNat * i.size)) e)) (e:=e) (fr:=(0,0)) hg rfl rfl rfl rfl (fun i _=>by simp) (by omega) (VRs.refl_toList hvr)
 refine ⟨_,_,_,run_make w t e i zv hu hi hzz' .i64 .i64 l c h0 hlc (by omega) (by omega),?_,hp⟩
 have hnew:(w.alloc (.cells (madeCells zv.cells (c.toNat * i.size)) e)).heap[w.heap.size]? = some (Obj.cells (madeCells zv.cells (c.toNat * i.size)) e (0,0)):=by
  show (w.heap.push _)[w.heap.size]? = _; simp
 exact ⟨w.heap.size,0,_,e,(0,0),c.toNat,by simp [Mu.put],hnew,rfl,by omega,rfl⟩
theorem keyEq_sound {P:Program} {w:World} {ro:Nat→Prop} {μ:Mu} {k e:AVal} {k' e':Value} (hk:VR P w ro μ k k') (he:VR P w ro μ e e') {d:TypeDesc} (hd:d = .string∨(∃ i,d = .int i)∨d = .bool) {b:Bool} (h:keyEq k e=some b) :
  (d = .string∧(∃ s,k = .str s)∨(∃ i,d = .int i)∧(∃ j n,k = .int j n)∨d = .bool∧(∃ c,k = .bool c))→Instr.sameNow d k' e'=some b:=by
 unfold keyEq at h
 split at h
 ·rename_i i a j c
  simp only [VR] at hk he; subst hk; subst he
  split at h
  case isFalse=>cases h
  rename_i hij; subst hij
  injection h with h; subst h
  rintro (⟨_,s,hs⟩ | ⟨⟨i',rfl⟩,_⟩ | ⟨_,s,hs⟩)
  ·cases hs
  ·simp [Instr.sameNow]
  ·cases hs
 ·rename_i a c
  simp only [VR] at hk he; subst hk; subst he
  injection h with h; subst h
  rintro (⟨rfl,_⟩ | ⟨_,i,n,hs⟩ | ⟨_,s,hs⟩)
  ·simp [Instr.sameNow]
  ·cases hs
  ·cases hs
 ·rename_i a c
  simp only [VR] at hk he; subst hk; subst he
  injection h with h; subst h
  rintro (⟨_,s,hs⟩ | ⟨_,i,n,hs⟩ | ⟨rfl,_⟩)
  ·cases hs
  ·cases hs
  ·simp [Instr.sameNow]
 ·cases h
end Go.Am
