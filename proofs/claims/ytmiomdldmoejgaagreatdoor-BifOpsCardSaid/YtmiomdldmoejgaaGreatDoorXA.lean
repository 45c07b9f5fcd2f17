/- Parts: Z0, B0, BL, B5, B6, B7, B13, B28, B29, B30, B31, B32, FT, FU, B8. -/
import Derived.Test.YtmiomdldmoejgaaGreatDoorRows
import Derived.Test.YtmiomdldmoejgaaGreatDoorAmQ
import Derived.Test.YtmiomdldmoejgaaGreatDoorProg
import Derived.ProofKit
import Derived.LaidMore
import Derived.OpenShut
import Derived.Stop.Joined
import Derived.Test.YtmiomdldmoejgaaGreatDoorFn
import Derived.Test.YtmiomdldmoejgaaGreatDoorAmR
import Derived.Test.YtmiomdldmoejgaaGreatDoorFnK
import Derived.Test.YtmiomdldmoejgaaGreatDoorAmS
set_option linter.unusedVariables false
set_option linter.unusedSimpArgs false
set_option maxRecDepth 100000
set_option maxRecDepth 20000
namespace Go.Proofs.YtmiomdldmoejgaaGreatDoor
open Go.Am Go.RowKit Go.ChangeShapes Go.WideShapes Go.ChangeAt Go.WideMaps Go.WideElems
theorem own:ownKnob Tryz.prog.godebug=none:=by kernel_rfl
theorem laidOut:laidOutB Tryz.prog=true:=by kernel_rfl
abbrev laid2 : List (String × DataW Unit) := [("math/bits.deBruijn32tab", Rows.laid_math_bits_deBruijn32tab), ("math/bits.deBruijn64tab", Rows.laid_math_bits_deBruijn64tab), ("internal/strconv.uint64pow10", Rows.laid_internal_strconv_uint64pow10), ("strconv.ErrRange", Rows.laid_strconv_ErrRange), ("strconv.ErrSyntax", Rows.laid_strconv_ErrSyntax)]
theorem door_met (os:Os) (args:Array Value):laidMetH Tryz.prog laid2 ((World.doorLaid Tryz.prog 400 os).forCall (fun _ _=>0) ⟨#[],args,[]⟩).memory:=
 laidMetH_of_parts3 (fuel:=8) (laidMet_of_run' 8 (by kernel_rfl) (by kernel_rfl)) (by kernel_rfl) (by kernel_rfl)
theorem glob_laid (W:World) (h:laidMetH Tryz.prog laid2 W):Glob Tryz.prog W (fun b=>b < W.heap.size):=by
 intro g cs hl
 cases hl
end Go.Proofs.YtmiomdldmoejgaaGreatDoor
namespace Go.Am.Rl
open Go.Proofs
theorem mixed:Tryz.prog.follows .mixedOrders=true:=by kernel_rfl
def szs:TypeId→Nat:=fun e=>if e=27 then 5 else if e=55 then 3 else 1
def tab:Tab:=[(4,f4),(9,f9),(6,f6),(10,f10),(11,f11),(14,f14),(16,f16),(17,f17),(27,f27),(28,f28),(30,f30),(31,f31),(32,f32),(33,f33),(34,f34),(35,f35),(36,f36),(40,f40),(50,f50),(51,f51),(52,f52),(53,f53),(68,f68),(71,f71),(72,f72),(73,f73),(74,f74),(75,f75),(80,f80),(83,f83),(84,f84),(85,f85),(101,f101),(106,f106),(108,f108),(111,f111),(112,f112),(113,f113),(117,f117),(119,f119),(120,f120),(122,f122),(127,f127),(129,f129),(130,f130),(133,f133),(135,f135),(156,f156),(157,f157),(158,f158),(159,f159),(162,f162),(184,f184),(195,f195),(196,f196)]
theorem tab_ok:tab.Ok Tryz.prog:=⟨⟨Tryz.f4,kof k4,by kernel_rfl,c4,by kernel_rfl⟩,⟨Tryz.f9,kof k9,by kernel_rfl,c9,by kernel_rfl⟩,⟨Tryz.f6,kof k6,by kernel_rfl,c6,by kernel_rfl⟩,⟨Tryz.f10,kof k10,by kernel_rfl,c10,by kernel_rfl⟩,⟨Tryz.f11,kof k11,by kernel_rfl,c11,by kernel_rfl⟩,⟨Tryz.f14,kof k14,by kernel_rfl,c14,by kernel_rfl⟩,⟨Tryz.f16,kof k16,by kernel_rfl,c16,by kernel_rfl⟩,⟨Tryz.f17,kof k17,by kernel_rfl,c17,by kernel_rfl⟩,⟨Tryz.f27,kof k27,by kernel_rfl,c27,by kernel_rfl⟩,⟨Tryz.f28,kof k28,by kernel_rfl,c28,by kernel_rfl⟩,⟨Tryz.f30,kof k30,by kernel_rfl,c30,by kernel_rfl⟩,⟨Tryz.f31,kof k31,by kernel_rfl,c31,by kernel_rfl⟩,⟨Tryz.f32,kof k32,by kernel_rfl,c32,by kernel_rfl⟩,⟨Tryz.f33,kof k33,by kernel_rfl,c33,by kernel_rfl⟩,⟨Tryz.f34,kof k34,by kernel_rfl,c34,by kernel_rfl⟩,⟨Tryz.f35,kof k35,by kernel_rfl,c35,by kernel_rfl⟩,⟨Tryz.f36,kof k36,by kernel_rfl,c36,by kernel_rfl⟩,⟨Tryz.f40,kof k40,by kernel_rfl,c40,by kernel_rfl⟩,⟨Tryz.f50,kof k50,by kernel_rfl,c50,by kernel_rfl⟩,⟨Tryz.f51,kof k51,by kernel_rfl,c51,by kernel_rfl⟩,⟨Tryz.f52,kof k52,by kernel_rfl,c52,by kernel_rfl⟩,⟨Tryz.f53,kof k53,by kernel_rfl,c53,by kernel_rfl⟩,⟨Tryz.f68,kof k68,by kernel_rfl,c68,by kernel_rfl⟩,⟨Tryz.f71,kof k71,by kernel_rfl,c71,by kernel_rfl⟩,⟨Tryz.f72,kof k72,by kernel_rfl,c72,by kernel_rfl⟩,⟨Tryz.f73,kof k73,by kernel_rfl,c73,by kernel_rfl⟩,⟨Tryz.f74,kof k74,by kernel_rfl,c74,by kernel_rfl⟩,⟨Tryz.f75,kof k75,by kernel_rfl,c75,by kernel_rfl⟩,⟨Tryz.f80,kof k80,by kernel_rfl,c80,by kernel_rfl⟩,⟨Tryz.f83,kof k83,by kernel_rfl,c83,by kernel_rfl⟩,⟨Tryz.f84,kof k84,by kernel_rfl,c84,by kernel_rfl⟩,⟨Tryz.f85,kof k85,by kernel_rfl,c85,by kernel_rfl⟩,⟨Tryz.f101,kof k101,by kernel_rfl,c101,by kernel_rfl⟩,⟨Tryz.f106,kof k106,by kernel_rfl,c106,by kernel_rfl⟩,⟨Tryz.f108,kof k108,by kernel_rfl,c108,by kernel_rfl⟩,⟨Tryz.f111,kof k111,by kernel_rfl,c111,by kernel_rfl⟩,⟨Tryz.f112,kof k112,by kernel_rfl,c112,by kernel_rfl⟩,⟨Tryz.f113,kof k113,by kernel_rfl,c113,by kernel_rfl⟩,⟨Tryz.f117,kof k117,by kernel_rfl,c117,by kernel_rfl⟩,⟨Tryz.f119,kof k119,by kernel_rfl,c119,by kernel_rfl⟩,⟨Tryz.f120,kof k120,by kernel_rfl,c120,by kernel_rfl⟩,⟨Tryz.f122,kof k122,by kernel_rfl,c122,by kernel_rfl⟩,⟨Tryz.f127,kof k127,by kernel_rfl,c127,by kernel_rfl⟩,⟨Tryz.f129,kof k129,by kernel_rfl,c129,by kernel_rfl⟩,⟨Tryz.f130,kof k130,by kernel_rfl,c130,by kernel_rfl⟩,⟨Tryz.f133,kof k133,by kernel_rfl,c133,by kernel_rfl⟩,⟨Tryz.f135,kof k135,by kernel_rfl,c135,by kernel_rfl⟩,⟨Tryz.f156,kof k156,by kernel_rfl,c156,by kernel_rfl⟩,⟨Tryz.f157,kof k157,by kernel_rfl,c157,by kernel_rfl⟩,⟨Tryz.f158,kof k158,by kernel_rfl,c158,by kernel_rfl⟩,⟨Tryz.f159,kof k159,by kernel_rfl,c159,by kernel_rfl⟩,⟨Tryz.f162,kof k162,by kernel_rfl,c162,by kernel_rfl⟩,⟨Tryz.f184,kof k184,by kernel_rfl,c184,by kernel_rfl⟩,⟨Tryz.f195,kof k195,by kernel_rfl,c195,by kernel_rfl⟩,⟨Tryz.f196,kof k196,by kernel_rfl,c196,by kernel_rfl⟩,trivial⟩
def cmp90:Orc:=fun f xs=>if f=114 then tworun (acall tab Orc.none 100000 50) 2 100000 50 szs f114 xs else none
theorem cmp90_ok:cmp90.Ok Tryz.prog:=by
 intro f xs r h H
 unfold cmp90 at h
 split at h
 ·rename_i e; subst e
  exact tworun_sound ⟨Tryz.f114,kof k114,by kernel_rfl,c114,by kernel_rfl⟩ mixed (acall_sound mixed tab_ok (Orc.none_ok _) _ _) h H
 ·cases h
theorem known0:xclosed tab cmp90 100000 100 szs 4 []=some (.bool true):=by kernel_rfl
theorem g7 (H:AHeap):DCall Tryz.prog 4 [] H fun a H'=>a = .bool true∧H'=H:=(xclosed_sound mixed tab_ok cmp90_ok known0 H).dcall
end Go.Am.Rl
namespace Go.Am.Rl
open Go.Proofs
theorem upd {H:AHeap} {id:Nat} {b0:ABlk} (g:H.get id=some b0) (b:ABlk):∃ H',H'=H.set id b∧H'.get id=some b∧H'.next=H.next∧∀ j,j≠id→H'.get j=H.get j:=
 ⟨_,rfl,by rw [AHeap.get_set,if_pos rfl,if_pos (AHeap.get_lt g)],rfl,fun j hj=>by rw [AHeap.get_set,if_neg hj]⟩
theorem psh (H:AHeap) (b:ABlk):∃ H',H'=H.push b∧H'.get H.next=some b∧H'.next=H.next+1∧∀ j,j < H.next→H'.get j=H.get j:=
 ⟨_,rfl,by rw [AHeap.get_push,if_pos rfl],rfl,fun j hj=>by rw [AHeap.get_push,if_neg (by omega)]⟩
end Go.Am.Rl
namespace Go.Am.Rl
open Go.Proofs
theorem sub_some (f:Nat):∃ v,abin .sub (.flt .f64 f) (.flt .f64 f)=some v∧∃ b,abin .eql v (.flt .f64 0)=some (.bool b):=by
 cases h:FloatKind.f64.format.sub f f with
 | none=>exact ⟨.nan .f64,by simp [abin,h,flOr],_,rfl⟩
 | some r=>exact ⟨.flt .f64 r,by simp [abin,h,flOr],_,rfl⟩
theorem g163 (f:Nat) {H:AHeap}:DCall Tryz.prog 87 [.flt .f64 f] H fun r H'=>(∃ b,r = .bool b)∧H'=H:=by
 obtain ⟨v,hv,b,hb⟩:=sub_some f
 refine DCall.of_body (fn:=Tryz.f87) (by kernel_rfl) c87 (by kernel_rfl) (by simp [f87]) ?_
 unfold f87
 simp only []
 refine Dg rfl ?_
 simp -dsimp only [SE,astep,seval]
 refine Dg rfl ?_
 simp -dsimp only [SE,astep,seval,hv,hb]
 refine Dm rfl ?_
 exact DR.ret ⟨_,by simp [aresult,ares,Env.get] <;> rfl,⟨_,rfl⟩,rfl⟩
def fin163:CallK:=fun f xs H F=>match xs with
 | [.flt .f64 _]=>match Nat.beq f 87 with
  | true=>match F (.bool true) H with
   | true=>F (.bool false) H
   | false=>false
  | false=>false
 | _=>false
theorem fin163_ok:fin163.Ok Tryz.prog:=by
 intro f xs H F h Q hF
 unfold fin163 at h
 split at h
 ·rename_i x
  split at h
  ·rename_i e
   have e:=Nat.eq_of_beq_eq_true e
   subst e
   split at h
   ·rename_i h1
    refine (g163 x).mono ?_
    rintro r H' ⟨⟨b,rfl⟩,rfl⟩
    cases b with
    | true=>exact hF _ _ h1
    | false=>exact hF _ _ h
   ·cases h
  ·cases h
 ·cases h
def symR:FuncId→List Nat:=fun f=>if f=109 then [6,7,8,10,11,13,19] else if f=110 then [15,19,30,37,41,46,57,63,67,72,84,88] else if f=54 then [5,10,14,17,21,30,34] else if f=86 then [5] else []
def tabR:Tab:=[(109,f109),(110,f110),(54,f54),(86,f86)]
theorem tabR_ok:tabR.Ok Tryz.prog:=⟨⟨Tryz.f109,kof k109,by kernel_rfl,c109,by kernel_rfl⟩,⟨Tryz.f110,kof k110,by kernel_rfl,c110,by kernel_rfl⟩,⟨Tryz.f54,kof k54,by kernel_rfl,c54,by kernel_rfl⟩,⟨Tryz.f86,kof k86,by kernel_rfl,c86,by kernel_rfl⟩,trivial⟩
def runR (f:FuncId) (xs:List AVal) (F:AVal→AHeap→Bool):Bool:=pcall tabR symR fin163 1000 4 f xs AHeap.empty F
theorem runR_sound {f:FuncId} {xs:List AVal} {F:AVal→AHeap→Bool} (h:runR f xs F=true):DCall Tryz.prog f xs AHeap.empty fun r H'=>F r H'=true:=pcall_sound mixed tabR_ok fin163_ok 4 f xs AHeap.empty F h fun _ _ h=>h
abbrev T5 (k n:Int) (f:Nat) (s:ByteArray) (r:AVal):List AVal:=[.agg [.int .i64 k,.int .i64 n,.flt .f64 f,.str s,r]]
theorem e85a (k n:Int) (f:Nat) (s:ByteArray):runR 109 (T5 k n f s .nils) (fun r _=>isI r)=true:=by kernel_rfl
theorem e85b (k n:Int) (f:Nat) (s:ByteArray) (cs:List AVal) (m:Nat):runR 109 (T5 k n f s (.ros cs m)) (fun r _=>isI r)=true:=by kernel_rfl
theorem e86a0 (n:Int) (f:Nat) (s:ByteArray):runR 110 (T5 (Int.ofNat 1) n f s .nils) (fun r _=>isB r)=true:=by kernel_rfl
theorem e86b0 (n:Int) (f:Nat) (s:ByteArray) (cs:List AVal) (m:Nat):runR 110 (T5 (Int.ofNat 1) n f s (.ros cs m)) (fun r _=>isB r)=true:=by kernel_rfl
theorem e86a1 (n:Int) (f:Nat) (s:ByteArray):runR 110 (T5 (Int.ofNat 2) n f s .nils) (fun r _=>isB r)=true:=by kernel_rfl
theorem e86b1 (n:Int) (f:Nat) (s:ByteArray) (cs:List AVal) (m:Nat):runR 110 (T5 (Int.ofNat 2) n f s (.ros cs m)) (fun r _=>isB r)=true:=by kernel_rfl
theorem e86a2 (n:Int) (f:Nat) (s:ByteArray):runR 110 (T5 (Int.ofNat 3) n f s .nils) (fun r _=>isB r)=true:=by kernel_rfl
theorem e86b2 (n:Int) (f:Nat) (s:ByteArray) (cs:List AVal) (m:Nat):runR 110 (T5 (Int.ofNat 3) n f s (.ros cs m)) (fun r _=>isB r)=true:=by kernel_rfl
theorem e86a3 (n:Int) (f:Nat) (s:ByteArray):runR 110 (T5 (Int.ofNat 4) n f s .nils) (fun r _=>isB r)=true:=by kernel_rfl
theorem e86b3 (n:Int) (f:Nat) (s:ByteArray) (cs:List AVal) (m:Nat):runR 110 (T5 (Int.ofNat 4) n f s (.ros cs m)) (fun r _=>isB r)=true:=by kernel_rfl
theorem e86a4 (n:Int) (f:Nat) (s:ByteArray):runR 110 (T5 (Int.ofNat 5) n f s .nils) (fun r _=>isB r)=true:=by kernel_rfl
theorem e86b4 (n:Int) (f:Nat) (s:ByteArray) (cs:List AVal) (m:Nat):runR 110 (T5 (Int.ofNat 5) n f s (.ros cs m)) (fun r _=>isB r)=true:=by kernel_rfl
theorem e86a5 (n:Int) (f:Nat) (s:ByteArray):runR 110 (T5 (Int.ofNat 6) n f s .nils) (fun r _=>isB r)=true:=by kernel_rfl
theorem e86b5 (n:Int) (f:Nat) (s:ByteArray) (cs:List AVal) (m:Nat):runR 110 (T5 (Int.ofNat 6) n f s (.ros cs m)) (fun r _=>isB r)=true:=by kernel_rfl
theorem e86a6 (n:Int) (f:Nat) (s:ByteArray):runR 110 (T5 (Int.ofNat 7) n f s .nils) (fun r _=>isB r)=true:=by kernel_rfl
theorem e86b6 (n:Int) (f:Nat) (s:ByteArray) (cs:List AVal) (m:Nat):runR 110 (T5 (Int.ofNat 7) n f s (.ros cs m)) (fun r _=>isB r)=true:=by kernel_rfl
theorem e86a7 (n:Int) (f:Nat) (s:ByteArray):runR 110 (T5 (Int.ofNat 8) n f s .nils) (fun r _=>isB r)=true:=by kernel_rfl
theorem e86b7 (n:Int) (f:Nat) (s:ByteArray) (cs:List AVal) (m:Nat):runR 110 (T5 (Int.ofNat 8) n f s (.ros cs m)) (fun r _=>isB r)=true:=by kernel_rfl
theorem e86a8 (n:Int) (f:Nat) (s:ByteArray):runR 110 (T5 (Int.ofNat 0) n f s .nils) (fun r _=>r.eqb (.bool false))=true:=by kernel_rfl
theorem e86b8 (n:Int) (f:Nat) (s:ByteArray) (cs:List AVal) (m:Nat):runR 110 (T5 (Int.ofNat 0) n f s (.ros cs m)) (fun r _=>r.eqb (.bool false))=true:=by kernel_rfl
theorem e86a9 (m0:Nat) (n:Int) (f:Nat) (s:ByteArray):runR 110 (T5 (Int.ofNat (m0+9)) n f s .nils) (fun r _=>r.eqb (.bool false))=true:=by kernel_rfl
theorem e86b9 (m0:Nat) (n:Int) (f:Nat) (s:ByteArray) (cs:List AVal) (m:Nat):runR 110 (T5 (Int.ofNat (m0+9)) n f s (.ros cs m)) (fun r _=>r.eqb (.bool false))=true:=by kernel_rfl
theorem e86a10 (m0:Nat) (n:Int) (f:Nat) (s:ByteArray):runR 110 (T5 (Int.negSucc m0) n f s .nils) (fun r _=>r.eqb (.bool false))=true:=by kernel_rfl
theorem e86b10 (m0:Nat) (n:Int) (f:Nat) (s:ByteArray) (cs:List AVal) (m:Nat):runR 110 (T5 (Int.negSucc m0) n f s (.ros cs m)) (fun r _=>r.eqb (.bool false))=true:=by kernel_rfl
end Go.Am.Rl
namespace Go.Am.Rl
open Go.Proofs
theorem TM.lt_of:∀ {l:List TM} {x:TM},x ∈ l→SizeOf.sizeOf x < SizeOf.sizeOf l
 | a::r,x,h=>by
  rcases List.mem_cons.mp h with rfl | h
  ·simp; omega
  ·have:=TM.lt_of h
   simp; omega
theorem TM.all {p:TM→Prop} (h:∀ t:TM,(∀ x ∈ t.l,p x)→p t):∀ t,p t:=by
 have:∀ n:Nat,∀ t:TM,SizeOf.sizeOf t < n→p t:=by
  intro n
  induction n with
  | zero=>intro t h; omega
  | succ n ih=>
   intro t ht
   refine h t fun x hx=>ih x ?_
   cases t with
   | mk k n f s nl l=>
    have:=TM.lt_of hx
    simp at ht
    have e:(TM.mk k n f s nl l).l=l:=rfl
    rw [e] at this
    omega
 exact fun t=>this _ t (Nat.lt_succ_self _)
theorem TM.pures1 (t:TM):AVal.pures [t.agg]=true:=by rw [← TM.agg_eq]; simp [AVal.pures,AVal.pure,TM.pure]
theorem TM.lenT {t:TM} (h:t.ok) (H:AHeap):alenT H 1 t.row=some t.l.length:=by
 cases t with
 | mk k n f s nl l=>
  cases nl with
  | true=>rw [show (TM.mk k n f s true l).l=[] from h.2.2.2.2.2.1 rfl]; rfl
  | false=>rfl
theorem bcmp (o:BinOp) (k:IntKind) (a b:Int) (h:cmpOp o=true):∃ c,abin o (.int k a) (.int k b)=some (.bool c):=isCmp_some (by simp [isCmp,h])
theorem g85 (t:TM) (H:AHeap):DCall Tryz.prog 109 [t.agg] H fun r H'=>(∃ n,r = .int .i64 n)∧H'=H:=by
 have h:DCall Tryz.prog 109 [t.agg] AHeap.empty fun r H'=>∃ n,r = .int .i64 n∧True:=by
  cases t with
  | mk k n f s nl l=>
   cases nl with
   | true=>exact (runR_sound (e85a k n f s)).mono fun r H' e=>by obtain ⟨n,hn⟩:=isI_ex e; exact ⟨n,hn,trivial⟩
   | false=>exact (runR_sound (e85b k n f s (TM.flat l) l.length)).mono fun r H' e=>by obtain ⟨n,hn⟩:=isI_ex e; exact ⟨n,hn,trivial⟩
 exact (DCall.ints (TM.pures1 t) h H).mono fun r H' ⟨⟨n,h1,_⟩,h2⟩=>⟨⟨n,h1⟩,h2⟩
section
variable {t:TM} {H:AHeap} {id:Nat} {k k':List AItem} {Q:Env→AHeap→Prop}
theorem loop52 (ok:t.ok) (ih:∀ x ∈ t.l,x.ok→∀ d m H,DCall Tryz.prog 69 [x.agg,.int .i64 d,.int .i64 m] H fun r H'=>(∃ n,r = .int .i64 n)∧H'=H)
  (g:H.get id=some (.cells 27 [.int .i64 t.k,.int .i64 t.n,.flt .f64 t.f,.str t.s,t.row])) (d m:Int) (hk:aexitTo 0 k=some k') (hend:∀ c:Int,DR Tryz.prog (kof k69) 44 k' [(7,.int .i64 c)] H Q) (hret:∀ T,T.get 6=some (.int .i64 (-1))→Q T H) :
  ∀ (e i:Nat) (c:Int),i+e=t.l.length→DR Tryz.prog (kof k69) 44 (.code l69_0::.inLoop l69_0::k) [(1,.int .i64 d),(2,.int .i64 m),(3,.ptr id 0),(7,.int .i64 c),(8,.int .i64 (i:Nat))] H Q:=by
 intro e
 have l4:=load_cell g (o:=4) (v:=t.row) rfl
 have hl:=TM.lenT ok H
 induction e with
 | zero=>
  intro i c hi
  have hc:decide ((i:Int) < (t.l.length:Int))=false:=by simp; omega
  refine Dg rfl ?_
  simp -dsimp only [SE,astep,seval,l4,hl,hc,abin]
  refine Dn rfl rfl ?_
  refine Dm rfl ?_
  refine DR.exit hk ?_
  exact DR.only [7] (hend c)
 | succ e ih2=>
  intro i c hi
  have hc:decide ((i:Int) < (t.l.length:Int))=true:=by simp; omega
  have hlt:i < t.l.length:=by omega
  have hx:t.l[i]? = some t.l[i]:=List.getElem?_eq_getElem hlt
  have hxo:=TM.ok_at ok hx
  have ra:=TM.row_at ok hx H
  have la:=TM.load t.l[i] (TM.flat (t.l.drop (i+1))) H
  have hle:=TM.len_le ok
  have hw:IntKind.i64.wrap ((i:Int)+1)=((i+1:Nat):Int):=wrap64 (n:=i+1) (by omega)
  refine Dg rfl ?_
  simp -dsimp only [SE,astep,seval,l4,hl,hc,abin]
  refine Dy rfl rfl ?_
  refine Dg rfl ?_
  simp -dsimp only [SE,astep,seval,l4,ra,la,abin]
  refine (ih _ (List.getElem_mem hlt) hxo _ _ H).mono ?_
  rintro r H' ⟨⟨n,rfl⟩,rfl⟩
  simp -dsimp only [SE,astep,seval]
  obtain ⟨b,hb⟩:=bcmp .lss .i64 n 0 rfl
  refine Dg rfl ?_
  simp -dsimp only [SE,astep,seval,hb]
  cases b with
  | true=>
   refine Dy rfl rfl ?_
   refine Dg rfl ?_
   simp -dsimp only [SE,astep,seval]
   refine Dm rfl ?_
   exact DR.ret (hret _ rfl)
  | false=>
   refine Dn rfl rfl ?_
   refine Dg rfl ?_
   simp -dsimp only [SE,astep,seval,abin]
   refine Dg rfl ?_
   simp -dsimp only [SE,astep,seval,hw,abin]
   refine Dm rfl ?_
   refine DR.inLoop ?_
   exact ih2 (i+1) _ (by omega)
end
end Go.Am.Rl
namespace Go.Am.Rl
open Go.Proofs
abbrev TM.c5 (t:TM):List AVal:=[.int .i64 t.k,.int .i64 t.n,.flt .f64 t.f,.str t.s,t.row]
theorem TM.pures2 (t:TM) (d m:Int):AVal.pures [t.agg,.int .i64 d,.int .i64 m]=true:=by
 have:=TM.pures1 t
 simp only [AVal.pures,Bool.and_true] at this ⊢
 rw [this]; rfl
theorem g52:∀ t:TM,t.ok→∀ (d m:Int) (H:AHeap),DCall Tryz.prog 69 [t.agg,.int .i64 d,.int .i64 m] H fun r H'=>(∃ n,r = .int .i64 n)∧H'=H:=by
 refine TM.all fun t ih ok d m H=> ?_
 have h:DCall Tryz.prog 69 [t.agg,.int .i64 d,.int .i64 m] AHeap.empty fun r H'=>∃ n,r = .int .i64 n∧True:=by
  obtain ⟨H1,hH1,g1,n1,f1⟩:=psh AHeap.empty (.cells 27 (TM.c5 t))
  have la:=load_all (n:=5) g1 rfl
  refine DCall.of_body (fn:=Tryz.f69) (by kernel_rfl) c69 (by kernel_rfl) (by simp [f69]) ?_
  unfold f69
  simp only []
  refine Dg rfl ?_
  simp -dsimp only [SE,astep,seval,← hH1]
  obtain ⟨b1,hb1⟩:=bcmp .lss .i64 d 1 rfl
  cases b1 with
  | true=>
   refine Dg rfl ?_
   simp -dsimp only [SE,astep,seval,hb1]
   refine Dy rfl rfl ?_
   refine Dg rfl ?_
   simp -dsimp only [SE,astep,seval]
   refine Dm rfl ?_
   exact DR.ret ⟨_,by simp [aresult,ares,Env.get] <;> rfl,⟨_,rfl,trivial⟩⟩
  | false=>
   refine Dg rfl ?_
   simp -dsimp only [SE,astep,seval,hb1,la]
   refine (g85 t H1).mono ?_
   rintro r H' ⟨⟨n0,rfl⟩,rfl⟩
   obtain ⟨b2,hb2⟩:=bcmp .gtr .i64 n0 m rfl
   simp -dsimp only [SE,astep,seval,hb2]
   cases b2 with
   | true=>
    refine Dy rfl rfl ?_
    refine Dg rfl ?_
    simp -dsimp only [SE,astep,seval]
    refine Dm rfl ?_
    exact DR.ret ⟨_,by simp [aresult,ares,Env.get] <;> rfl,⟨_,rfl,trivial⟩⟩
   | false=>
    refine Dn rfl rfl ?_
    refine Dg rfl ?_
    simp -dsimp only [SE,astep,seval,la]
    refine (g85 t H').mono ?_
    rintro r H2 ⟨⟨m1,rfl⟩,rfl⟩
    simp -dsimp only [SE,astep,seval]
    refine Dg rfl ?_
    simp -dsimp only [SE,astep,seval]
    refine Dm rfl ?_
    refine DR.loop ?_
    refine loop52 ok ih g1 d m rfl (fun c=> ?_) (fun T hT=>⟨_,by simp [aresult,ares,hT] <;> rfl,_,rfl,trivial⟩) t.l.length 0 m1 (by omega)
    refine Dg rfl ?_
    simp -dsimp only [SE,astep,seval]
    refine Dm rfl ?_
    exact DR.ret ⟨_,by simp [aresult,ares,Env.get] <;> rfl,⟨_,rfl,trivial⟩⟩
 exact (DCall.ints (TM.pures2 t d m) h H).mono fun r H' ⟨⟨n,h1,_⟩,h2⟩=>⟨⟨n,h1⟩,h2⟩
section
variable {t:TM} {H:AHeap} {id:Nat} {k k':List AItem} {Q:Env→AHeap→Prop}
theorem loop17 (ok:t.ok) (ih:∀ x ∈ t.l,x.ok→∀ d m H,DCall Tryz.prog 12 [x.agg,.int .i64 d,.int .i64 m] H fun r H'=>(∃ n,r = .int .i64 n)∧H'=H)
  (g:H.get id=some (.cells 27 (TM.c5 t))) (d:Int) (hk:aexitTo 0 k=some k') (hend:∀ c:Int,DR Tryz.prog (kof k12) 37 k' [(1,.int .i64 c)] H Q) :
  ∀ (e i:Nat) (c:Int),i+e=t.l.length→DR Tryz.prog (kof k12) 37 (.code l12_0::.inLoop l12_0::k) [(1,.int .i64 c),(2,.int .i64 d),(3,.ptr id 0),(7,.int .i64 (i:Nat))] H Q:=by
 intro e
 have l4:=load_cell g (o:=4) (v:=t.row) rfl
 have hl:=TM.lenT ok H
 induction e with
 | zero=>
  intro i c hi
  have hc:abin .lss (.int .i64 (i:Nat)) (.int .i64 (t.l.length:Nat))=some (.bool false):=by simp [abin]; omega
  refine Dg rfl ?_
  simp -dsimp only [SE,astep,seval,l4,hl,hc]
  refine Dn rfl rfl ?_
  refine Dm rfl ?_
  refine DR.exit hk ?_
  exact DR.only [1] (hend c)
 | succ e ih2=>
  intro i c hi
  have hc:abin .lss (.int .i64 (i:Nat)) (.int .i64 (t.l.length:Nat))=some (.bool true):=by simp [abin]; omega
  have hlt:i < t.l.length:=by omega
  have hx:t.l[i]? = some t.l[i]:=List.getElem?_eq_getElem hlt
  have hxo:=TM.ok_at ok hx
  have ra:=TM.row_at ok hx H
  have la:=TM.load t.l[i] (TM.flat (t.l.drop (i+1))) H
  have hle:=TM.len_le ok
  have hw:IntKind.i64.wrap ((i:Int)+1)=((i+1:Nat):Int):=wrap64 (n:=i+1) (by omega)
  obtain ⟨b,hb⟩:=bcmp .geq .i64 c 0 rfl
  refine Dg rfl ?_
  simp -dsimp only [SE,astep,seval,l4,hl,hc,hb]
  cases b with
  | false=>
   refine Dn rfl rfl ?_
   refine Dm rfl ?_
   refine DR.exit hk ?_
   exact DR.only [1] (hend c)
  | true=>
   refine Dy rfl rfl ?_
   refine Dg rfl ?_
   simp -dsimp only [SE,astep,seval,l4,ra,la,abin]
   refine (ih _ (List.getElem_mem hlt) hxo _ _ H).mono ?_
   rintro r H' ⟨⟨n,rfl⟩,rfl⟩
   simp -dsimp only [SE,astep,seval]
   refine Dg rfl ?_
   simp -dsimp only [SE,astep,seval,hw,abin]
   refine Dm rfl ?_
   refine DR.inLoop ?_
   exact ih2 (i+1) _ (by omega)
theorem loop53 (ok:t.ok) (ih:∀ x ∈ t.l,x.ok→∀ H,DCall Tryz.prog 70 [x.agg] H fun r H'=>(∃ b,r = .bool b)∧H'=H)
  (g:H.get id=some (.cells 27 (TM.c5 t))) (hk:aexitTo 0 k=some k') (hend:DR Tryz.prog (kof k70) 21 k' [] H Q) (hret:∀ T,T.get 2=some (.bool false)→Q T H) :
  ∀ (e i:Nat),i+e=t.l.length→DR Tryz.prog (kof k70) 21 (.code l70_0::.inLoop l70_0::k) [(1,.ptr id 0),(3,.int .i64 (i:Nat))] H Q:=by
 intro e
 have l4:=load_cell g (o:=4) (v:=t.row) rfl
 have hl:=TM.lenT ok H
 induction e with
 | zero=>
  intro i hi
  have hc:abin .lss (.int .i64 (i:Nat)) (.int .i64 (t.l.length:Nat))=some (.bool false):=by simp [abin]; omega
  refine Dg rfl ?_
  simp -dsimp only [SE,astep,seval,l4,hl,hc]
  refine Dn rfl rfl ?_
  refine Dm rfl ?_
  refine DR.exit hk ?_
  exact DR.only [] hend
 | succ e ih2=>
  intro i hi
  have hc:abin .lss (.int .i64 (i:Nat)) (.int .i64 (t.l.length:Nat))=some (.bool true):=by simp [abin]; omega
  have hlt:i < t.l.length:=by omega
  have hx:t.l[i]? = some t.l[i]:=List.getElem?_eq_getElem hlt
  have hxo:=TM.ok_at ok hx
  have ra:=TM.row_at ok hx H
  have la:=TM.load t.l[i] (TM.flat (t.l.drop (i+1))) H
  have hle:=TM.len_le ok
  have hw:IntKind.i64.wrap ((i:Int)+1)=((i+1:Nat):Int):=wrap64 (n:=i+1) (by omega)
  refine Dg rfl ?_
  simp -dsimp only [SE,astep,seval,l4,hl,hc]
  refine Dy rfl rfl ?_
  refine Dg rfl ?_
  simp -dsimp only [SE,astep,seval,l4,ra,la,abin]
  refine (ih _ (List.getElem_mem hlt) hxo H).mono ?_
  rintro r H' ⟨⟨b,rfl⟩,rfl⟩
  simp -dsimp only [SE,astep,seval]
  cases b with
  | false=>
   refine Dy rfl rfl ?_
   refine Dg rfl ?_
   simp -dsimp only [SE,astep,seval]
   refine Dm rfl ?_
   exact DR.ret (hret _ rfl)
  | true=>
   refine Dn rfl rfl ?_
   refine Dg rfl ?_
   simp -dsimp only [SE,astep,seval,hw,abin]
   refine Dm rfl ?_
   refine DR.inLoop ?_
   exact ih2 (i+1) (by omega)
end
theorem g17:∀ t:TM,t.ok→∀ (d m:Int) (H:AHeap),DCall Tryz.prog 12 [t.agg,.int .i64 d,.int .i64 m] H fun r H'=>(∃ n,r = .int .i64 n)∧H'=H:=by
 refine TM.all fun t ih ok d m H=> ?_
 have h:DCall Tryz.prog 12 [t.agg,.int .i64 d,.int .i64 m] AHeap.empty fun r H'=>∃ n,r = .int .i64 n∧True:=by
  obtain ⟨H1,hH1,g1,n1,f1⟩:=psh AHeap.empty (.cells 27 (TM.c5 t))
  refine DCall.of_body (fn:=Tryz.f12) (by kernel_rfl) c12 (by kernel_rfl) (by simp [f12]) ?_
  unfold f12
  simp only []
  refine Dg rfl ?_
  simp -dsimp only [SE,astep,seval,← hH1]
  obtain ⟨b1,hb1⟩:=bcmp .lss .i64 d 0 rfl
  obtain ⟨b2,hb2⟩:=bcmp .lss .i64 m 0 rfl
  cases b1 with
  | true=>
   refine Dg rfl ?_
   simp -dsimp only [SE,astep,seval,hb1]
   refine Dy rfl rfl ?_
   refine Dg rfl ?_
   simp -dsimp only [SE,astep,seval]
   refine Dm rfl ?_
   exact DR.ret ⟨_,by simp [aresult,ares,Env.get] <;> rfl,⟨_,rfl,trivial⟩⟩
  | false=>
   refine Dg rfl ?_
   simp -dsimp only [SE,astep,seval,hb1,hb2]
   cases b2 with
   | true=>
    refine Dy rfl rfl ?_
    refine Dg rfl ?_
    simp -dsimp only [SE,astep,seval]
    refine Dm rfl ?_
    exact DR.ret ⟨_,by simp [aresult,ares,Env.get] <;> rfl,⟨_,rfl,trivial⟩⟩
   | false=>
    refine Dn rfl rfl ?_
    refine Dg rfl ?_
    simp -dsimp only [SE,astep,seval,abin]
    refine Dg rfl ?_
    simp -dsimp only [SE,astep,seval]
    refine Dm rfl ?_
    refine DR.loop ?_
    refine loop17 ok ih g1 m rfl (fun c=> ?_) t.l.length 0 _ (by omega)
    refine Dg rfl ?_
    simp -dsimp only [SE,astep,seval]
    refine Dm rfl ?_
    exact DR.ret ⟨_,by simp [aresult,ares,Env.get] <;> rfl,⟨_,rfl,trivial⟩⟩
 exact (DCall.ints (TM.pures2 t d m) h H).mono fun r H' ⟨⟨n,h1,_⟩,h2⟩=>⟨⟨n,h1⟩,h2⟩
def TM.kind (t:TM):Prop:=1≤t.k∧t.k≤8
theorem g86 (t:TM) (H:AHeap):DCall Tryz.prog 110 [t.agg] H fun r H'=>(∃ b,r = .bool b∧(b=true→TM.kind t))∧H'=H:=by
 refine DCall.bools (TM.pures1 t) ?_ H
 have good:∀ {r:AVal},isB r=true→TM.kind t→∃ b,r = .bool b∧(b=true→TM.kind t):=fun e hk=>by obtain ⟨b,hb⟩:=isB_ex e; exact ⟨b,hb,fun _=>hk⟩
 have bad:∀ {r:AVal},r.eqb (.bool false)=true→∃ b,r = .bool b∧(b=true→TM.kind t):=fun e=>⟨false,AVal.eqb_eq _ _ e,fun h=>by cases h⟩
 cases t with
 | mk k n f s nl l=>
  cases nl with
  | true=>
   match k with
   | .ofNat 0=>exact (runR_sound (e86a8 n f s)).mono fun r H' e=>bad e
   | .ofNat 1=>exact (runR_sound (e86a0 n f s)).mono fun r H' e=>good e ⟨by show (1:Int)≤1; decide,by show (1:Int)≤8; decide⟩
   | .ofNat 2=>exact (runR_sound (e86a1 n f s)).mono fun r H' e=>good e ⟨by show (1:Int)≤2; decide,by show (2:Int)≤8; decide⟩
   | .ofNat 3=>exact (runR_sound (e86a2 n f s)).mono fun r H' e=>good e ⟨by show (1:Int)≤3; decide,by show (3:Int)≤8; decide⟩
   | .ofNat 4=>exact (runR_sound (e86a3 n f s)).mono fun r H' e=>good e ⟨by show (1:Int)≤4; decide,by show (4:Int)≤8; decide⟩
   | .ofNat 5=>exact (runR_sound (e86a4 n f s)).mono fun r H' e=>good e ⟨by show (1:Int)≤5; decide,by show (5:Int)≤8; decide⟩
   | .ofNat 6=>exact (runR_sound (e86a5 n f s)).mono fun r H' e=>good e ⟨by show (1:Int)≤6; decide,by show (6:Int)≤8; decide⟩
   | .ofNat 7=>exact (runR_sound (e86a6 n f s)).mono fun r H' e=>good e ⟨by show (1:Int)≤7; decide,by show (7:Int)≤8; decide⟩
   | .ofNat 8=>exact (runR_sound (e86a7 n f s)).mono fun r H' e=>good e ⟨by show (1:Int)≤8; decide,by show (8:Int)≤8; decide⟩
   | .ofNat (m0+9)=>exact (runR_sound (e86a9 m0 n f s)).mono fun r H' e=>bad e
   | .negSucc m0=>exact (runR_sound (e86a10 m0 n f s)).mono fun r H' e=>bad e
  | false=>
   match k with
   | .ofNat 0=>exact (runR_sound (e86b8 n f s (TM.flat l) l.length)).mono fun r H' e=>bad e
   | .ofNat 1=>exact (runR_sound (e86b0 n f s (TM.flat l) l.length)).mono fun r H' e=>good e ⟨by show (1:Int)≤1; decide,by show (1:Int)≤8; decide⟩
   | .ofNat 2=>exact (runR_sound (e86b1 n f s (TM.flat l) l.length)).mono fun r H' e=>good e ⟨by show (1:Int)≤2; decide,by show (2:Int)≤8; decide⟩
   | .ofNat 3=>exact (runR_sound (e86b2 n f s (TM.flat l) l.length)).mono fun r H' e=>good e ⟨by show (1:Int)≤3; decide,by show (3:Int)≤8; decide⟩
   | .ofNat 4=>exact (runR_sound (e86b3 n f s (TM.flat l) l.length)).mono fun r H' e=>good e ⟨by show (1:Int)≤4; decide,by show (4:Int)≤8; decide⟩
   | .ofNat 5=>exact (runR_sound (e86b4 n f s (TM.flat l) l.length)).mono fun r H' e=>good e ⟨by show (1:Int)≤5; decide,by show (5:Int)≤8; decide⟩
   | .ofNat 6=>exact (runR_sound (e86b5 n f s (TM.flat l) l.length)).mono fun r H' e=>good e ⟨by show (1:Int)≤6; decide,by show (6:Int)≤8; decide⟩
   | .ofNat 7=>exact (runR_sound (e86b6 n f s (TM.flat l) l.length)).mono fun r H' e=>good e ⟨by show (1:Int)≤7; decide,by show (7:Int)≤8; decide⟩
   | .ofNat 8=>exact (runR_sound (e86b7 n f s (TM.flat l) l.length)).mono fun r H' e=>good e ⟨by show (1:Int)≤8; decide,by show (8:Int)≤8; decide⟩
   | .ofNat (m0+9)=>exact (runR_sound (e86b9 m0 n f s (TM.flat l) l.length)).mono fun r H' e=>bad e
   | .negSucc m0=>exact (runR_sound (e86b10 m0 n f s (TM.flat l) l.length)).mono fun r H' e=>bad e
theorem g53:∀ t:TM,t.ok→∀ H:AHeap,DCall Tryz.prog 70 [t.agg] H fun r H'=>(∃ b,r = .bool b∧(b=true→TM.kind t))∧H'=H:=by
 refine TM.all fun t ih ok H=> ?_
 refine DCall.bools (TM.pures1 t) ?_ H
 obtain ⟨H1,hH1,g1,n1,f1⟩:=psh AHeap.empty (.cells 27 (TM.c5 t))
 have la:=load_all (n:=5) g1 rfl
 refine DCall.of_body (fn:=Tryz.f70) (by kernel_rfl) c70 (by kernel_rfl) (by simp [f70]) ?_
 unfold f70
 simp only []
 refine Dg rfl ?_
 simp -dsimp only [SE,astep,seval,← hH1]
 refine Dg rfl ?_
 simp -dsimp only [SE,astep,seval,la]
 refine (g86 t H1).mono ?_
 rintro r H' ⟨⟨b,rfl,hb⟩,rfl⟩
 simp -dsimp only [SE,astep,seval]
 cases b with
 | false=>
  refine Dy rfl rfl ?_
  refine Dg rfl ?_
  simp -dsimp only [SE,astep,seval]
  refine Dm rfl ?_
  exact DR.ret ⟨_,by simp [aresult,ares,Env.get] <;> rfl,⟨_,rfl,fun h=>by cases h⟩⟩
 | true=>
  refine Dn rfl rfl ?_
  refine Dg rfl ?_
  simp -dsimp only [SE,astep,seval]
  refine Dm rfl ?_
  refine DR.loop ?_
  refine loop53 ok (fun x hx hxo H=>(ih x hx hxo H).mono fun r H' ⟨⟨b,h,_⟩,e⟩=>⟨⟨b,h⟩,e⟩) g1 rfl ?_ (fun T hT=>⟨_,by simp [aresult,ares,hT] <;> rfl,_,rfl,fun h=>by cases h⟩) t.l.length 0 (by omega)
  refine Dg rfl ?_
  simp -dsimp only [SE,astep,seval]
  refine Dm rfl ?_
  exact DR.ret ⟨_,by simp [aresult,ares,Env.get] <;> rfl,⟨_,rfl,fun _=>hb rfl⟩⟩
theorem g26 (t:TM) (ok:t.ok) (H:AHeap):DCall Tryz.prog 29 [t.agg] H fun r H'=>(∃ n,r = .int .i64 n∧(n=0→TM.kind t))∧H'=H:=by
 refine DCall.ints (TM.pures1 t) ?_ H
 obtain ⟨H1,hH1,g1,n1,f1⟩:=psh AHeap.empty (.cells 27 (TM.c5 t))
 have la:=load_all (n:=5) g1 rfl
 refine DCall.of_body (fn:=Tryz.f29) (by kernel_rfl) c29 (by kernel_rfl) (by simp [f29]) ?_
 unfold f29
 simp only []
 refine Dg rfl ?_
 simp -dsimp only [SE,astep,seval,← hH1]
 refine Dg rfl ?_
 simp -dsimp only [SE,astep,seval,la]
 refine (g52 t ok _ _ H1).mono ?_
 rintro r H' ⟨⟨n,rfl⟩,rfl⟩
 obtain ⟨b,hb⟩:=bcmp .lss .i64 n 0 rfl
 simp -dsimp only [SE,astep,seval,hb]
 cases b with
 | true=>
  refine Dy rfl rfl ?_
  refine Dg rfl ?_
  simp -dsimp only [SE,astep,seval]
  refine Dm rfl ?_
  exact DR.ret ⟨_,by simp [aresult,ares,Env.get] <;> rfl,⟨_,rfl,fun h=>by cases h⟩⟩
 | false=>
  refine Dn rfl rfl ?_
  refine Dg rfl ?_
  simp -dsimp only [SE,astep,seval,la]
  refine (g53 t ok H').mono ?_
  rintro r H2 ⟨⟨b,rfl,hb⟩,rfl⟩
  simp -dsimp only [SE,astep,seval]
  cases b with
  | false=>
   refine Dy rfl rfl ?_
   refine Dg rfl ?_
   simp -dsimp only [SE,astep,seval]
   refine Dm rfl ?_
   exact DR.ret ⟨_,by simp [aresult,ares,Env.get] <;> rfl,⟨_,rfl,fun h=>by cases h⟩⟩
  | true=>
   refine Dn rfl rfl ?_
   refine Dg rfl ?_
   simp -dsimp only [SE,astep,seval]
   refine Dm rfl ?_
   exact DR.ret ⟨_,by simp [aresult,ares,Env.get] <;> rfl,⟨_,rfl,fun _=>hb rfl⟩⟩
theorem g18 (t:TM) (ok:t.ok) (H:AHeap):DCall Tryz.prog 13 [t.agg] H fun r H'=>(∃ b,r = .bool b∧(b=true→TM.kind t))∧H'=H:=by
 refine DCall.bools (TM.pures1 t) ?_ H
 obtain ⟨H1,hH1,g1,n1,f1⟩:=psh AHeap.empty (.cells 27 (TM.c5 t))
 have la:=load_all (n:=5) g1 rfl
 refine DCall.of_body (fn:=Tryz.f13) (by kernel_rfl) c13 (by kernel_rfl) (by simp [f13]) ?_
 unfold f13
 simp only []
 refine Dg rfl ?_
 simp -dsimp only [SE,astep,seval,← hH1]
 refine Dg rfl ?_
 simp -dsimp only [SE,astep,seval,la]
 refine (g26 t ok H1).mono ?_
 rintro r H' ⟨⟨n,rfl,hn⟩,rfl⟩
 simp -dsimp only [SE,astep,seval,abin]
 refine Dm rfl ?_
 exact DR.ret ⟨_,by simp [aresult,ares,Env.get] <;> rfl,⟨_,rfl,fun h=>hn (by simpa using h)⟩⟩
end Go.Am.Rl
namespace Go.Am.Rl
open Go.Proofs
def symP:FuncId→List Nat:=fun f=>if f=195 then [10,11,12,14,15,17,21] else if f=196 then [10,14,17,21,24,28,33,44,49,52,73,85,88,89,101,109,114,117,118] else if f=119 then [5] else if f=120 then [6,10,14] else []
def tabP:Tab:=[(195,f195),(196,f196),(119,f119),(120,f120),(162,f162)]
theorem tabP_ok:tabP.Ok Tryz.prog:=⟨⟨Tryz.f195,kof k195,by kernel_rfl,c195,by kernel_rfl⟩,⟨Tryz.f196,kof k196,by kernel_rfl,c196,by kernel_rfl⟩,⟨Tryz.f119,kof k119,by kernel_rfl,c119,by kernel_rfl⟩,⟨Tryz.f120,kof k120,by kernel_rfl,c120,by kernel_rfl⟩,⟨Tryz.f162,kof k162,by kernel_rfl,c162,by kernel_rfl⟩,trivial⟩
def runP (f:FuncId) (xs:List AVal) (F:AVal→AHeap→Bool):Bool:=pcall tabP symP CallK.none 1000 4 f xs AHeap.empty F
theorem runP_sound {f:FuncId} {xs:List AVal} {F:AVal→AHeap→Bool} (h:runP f xs F=true):DCall Tryz.prog f xs AHeap.empty fun r H'=>F r H'=true:=pcall_sound mixed tabP_ok (CallK.none_ok _) 4 f xs AHeap.empty F h fun _ _ h=>h
end Go.Am.Rl
namespace Go.Am.Rl
open Go.Proofs
def fin64 (f:Nat):Bool:=match FloatKind.f64.format.sub f f with
 | some r=>FloatKind.f64.format.order r 0==some .eq
 | none=>false
theorem g163x (f:Nat) (H:AHeap):DCall Tryz.prog 87 [.flt .f64 f] H fun r H'=>r = .bool (fin64 f)∧H'=H:=by
 have h:∃ v,abin .sub (.flt .f64 f) (.flt .f64 f)=some v∧abin .eql v (.flt .f64 0)=some (.bool (fin64 f)):=by
  unfold fin64
  cases h:FloatKind.f64.format.sub f f with
  | none=>exact ⟨.nan .f64,by simp [abin,h,flOr],rfl⟩
  | some r=>exact ⟨.flt .f64 r,by simp [abin,h,flOr],by simp [abin]⟩
 obtain ⟨v,hv,hb⟩:=h
 refine DCall.of_body (fn:=Tryz.f87) (by kernel_rfl) c87 (by kernel_rfl) (by simp [f87]) ?_
 unfold f87
 simp only []
 refine Dg rfl ?_
 simp -dsimp only [SE,astep,seval]
 refine Dg rfl ?_
 simp -dsimp only [SE,astep,seval,hv,hb]
 refine Dm rfl ?_
 exact DR.ret ⟨_,by simp [aresult,ares,Env.get] <;> rfl,⟨rfl,rfl⟩⟩
def known163:GKnown:=fun f xs H F=>match xs with
 | [.flt .f64 x]=>match Nat.beq f 87 with
  | true=>some ((fin64 x=true→F (.ret (.bool true)) H)∧(fin64 x=false→F (.ret (.bool false)) H))
  | false=>none
 | _=>none
theorem known163_ok:known163.Ok Tryz.prog:=by
 intro f xs H F p hp h
 unfold known163 at hp
 split at hp
 ·rename_i x
  split at hp
  ·rename_i e
   obtain rfl:=Nat.eq_of_beq_eq_true e
   injection hp with hp
   subst hp
   refine (DCall.x (g163x x H)).mono fun o H' ⟨r,ho,hr,hH⟩=> ?_
   subst hr; subst hH; subst ho
   cases hb:fin64 x with
   | true=>exact h.1 hb
   | false=>exact h.2 hb
  ·cases hp
 ·cases hp
abbrev Cond:=BinOp × AVal × AVal × Bool
def Cond.met (c:Cond):Prop:=abin c.1 c.2.1 c.2.2.1=some (.bool c.2.2.2)
def chainP:List Cond→Prop→Prop→Prop
 | [],good,_=>good
 | (c,u,v,true)::r,good,bad=>isCmp c u v=true∧(abin c u v=some (.bool true)→chainP r good bad)∧(abin c u v=some (.bool false)→bad)
 | (c,u,v,false)::r,good,bad=>isCmp c u v=true∧(abin c u v=some (.bool true)→bad)∧(abin c u v=some (.bool false)→chainP r good bad)
theorem chainP_of:∀ {l:List Cond} {good bad:Prop},(∀ c ∈ l,isCmp c.1 c.2.1 c.2.2.1=true)→((∀ c ∈ l,c.met)→good)→bad→chainP l good bad
 | [],good,bad,_,h,_=>h fun c hc=>by cases hc
 | (c,u,v,true)::r,good,bad,hc,h,hb=>⟨hc _ (List.mem_cons_self ..),fun ht=>chainP_of (fun c h=>hc c (List.mem_cons_of_mem _ h)) (fun hr=>h fun c hm=>by
   rcases List.mem_cons.mp hm with rfl | hm
   ·exact ht
   ·exact hr c hm) hb,fun _=>hb⟩
 | (c,u,v,false)::r,good,bad,hc,h,hb=>⟨hc _ (List.mem_cons_self ..),fun _=>hb,fun ht=>chainP_of (fun c h=>hc c (List.mem_cons_of_mem _ h)) (fun hr=>h fun c hm=>by
   rcases List.mem_cons.mp hm with rfl | hm
   ·exact ht
   ·exact hr c hm) hb⟩
def Tru (p:Prop) (o:AOut) (H:AHeap):Prop:=∃ b,o = .ret (.bool b)∧(b=true→p)
def symF:FuncId→List Nat:=fun f=>if f=110 then [15,19,30,37,41,46,57,63,67,72,84,88] else if f=54 then [5,10,17,21,34] else if f=86 then [5] else []
def run86 (xs:List AVal) (p:Prop):Prop:=hcall tabR known163 symF 1000 4 110 xs AHeap.empty (Tru p)
theorem run86_sound {xs:List AVal} {p:Prop} (h:run86 xs p):DCallX Tryz.prog 110 xs AHeap.empty (Tru p):=hcall_sound mixed tabR_ok known163_ok 4 110 xs AHeap.empty (Tru p) h
abbrev yes (p:Prop):Prop:=∃ b,AOut.ret (.bool true) = .ret (.bool b)∧(b=true→p)
abbrev no (p:Prop):Prop:=∃ b,AOut.ret (.bool false) = .ret (.bool b)∧(b=true→p)
abbrev i64 (n:Int):AVal:=.int .i64 n
abbrev cS (s:ByteArray):Cond:=(.eql,.str s,.str ⟨#[]⟩,true)
abbrev cF (f:Nat):Cond:=(.eql,.int .u64 f,.int .u64 0,true)
theorem f86a1 (n:Int) (f:Nat) (s:ByteArray) (p:Prop):chainP [(.neq,.str s,.str ⟨#[]⟩,false),(.neq,i64 (0:Nat),i64 0,false),(.geq,i64 n,i64 (-576460752303423488),true),(.leq,i64 n,i64 576460752303423487,true),cF f] (yes p) (no p)=run86 (T5 (Int.ofNat 1) n f s .nils) p:=by kernel_rfl
theorem f86b1 (n:Int) (f:Nat) (s:ByteArray) (cs:List AVal) (m:Nat) (p:Prop):chainP [(.neq,.str s,.str ⟨#[]⟩,false),(.neq,i64 m,i64 0,false),(.geq,i64 n,i64 (-576460752303423488),true),(.leq,i64 n,i64 576460752303423487,true),cF f] (yes p) (no p)=run86 (T5 (Int.ofNat 1) n f s (.ros cs m)) p:=by kernel_rfl
theorem f86a2 (n:Int) (f:Nat) (s:ByteArray) (p:Prop):chainP [(.neq,.str s,.str ⟨#[]⟩,false),(.neq,i64 (0:Nat),i64 0,false),(.eql,i64 n,i64 0,true)] ((fin64 f=true→yes p)∧(fin64 f=false→no p)) (no p)=run86 (T5 (Int.ofNat 2) n f s .nils) p:=by kernel_rfl
theorem f86b2 (n:Int) (f:Nat) (s:ByteArray) (cs:List AVal) (m:Nat) (p:Prop):chainP [(.neq,.str s,.str ⟨#[]⟩,false),(.neq,i64 m,i64 0,false),(.eql,i64 n,i64 0,true)] ((fin64 f=true→yes p)∧(fin64 f=false→no p)) (no p)=run86 (T5 (Int.ofNat 2) n f s (.ros cs m)) p:=by kernel_rfl
theorem f86a3 (n:Int) (f:Nat) (s:ByteArray) (p:Prop):chainP [(.leq,i64 s.size,i64 64,true),(.eql,i64 n,i64 0,true),cF f,(.eql,i64 (0:Nat),i64 0,true)] (yes p) (no p)=run86 (T5 (Int.ofNat 3) n f s .nils) p:=by kernel_rfl
theorem f86b3 (n:Int) (f:Nat) (s:ByteArray) (cs:List AVal) (m:Nat) (p:Prop):chainP [(.leq,i64 s.size,i64 64,true),(.eql,i64 n,i64 0,true),cF f,(.eql,i64 m,i64 0,true)] (yes p) (no p)=run86 (T5 (Int.ofNat 3) n f s (.ros cs m)) p:=by kernel_rfl
theorem f86a4 (n:Int) (f:Nat) (s:ByteArray) (p:Prop):chainP [(.geq,i64 n,i64 0,true),(.leq,i64 n,i64 1099511627776,true),cS s,cF f,(.eql,i64 (0:Nat),i64 0,true)] (yes p) (no p)=run86 (T5 (Int.ofNat 4) n f s .nils) p:=by kernel_rfl
theorem f86b4 (n:Int) (f:Nat) (s:ByteArray) (cs:List AVal) (m:Nat) (p:Prop):chainP [(.geq,i64 n,i64 0,true),(.leq,i64 n,i64 1099511627776,true),cS s,cF f,(.eql,i64 m,i64 0,true)] (yes p) (no p)=run86 (T5 (Int.ofNat 4) n f s (.ros cs m)) p:=by kernel_rfl
theorem f86a5 (n:Int) (f:Nat) (s:ByteArray) (p:Prop):chainP [(.geq,i64 n,i64 0,true),(.leq,i64 n,i64 16384,true),cS s,cF f] (yes p) (no p)=run86 (T5 (Int.ofNat 5) n f s .nils) p:=by kernel_rfl
theorem f86b5 (n:Int) (f:Nat) (s:ByteArray) (cs:List AVal) (m:Nat) (p:Prop):chainP [(.geq,i64 n,i64 0,true),(.leq,i64 n,i64 16384,true),cS s,cF f] (yes p) (no p)=run86 (T5 (Int.ofNat 5) n f s (.ros cs m)) p:=by kernel_rfl
theorem f86a6 (n:Int) (f:Nat) (s:ByteArray) (p:Prop):chainP [(.geq,i64 n,i64 0,true),(.leq,i64 n,i64 1099511627776,true),cS s,cF f,(.eql,i64 (0:Nat),i64 0,true)] (yes p) (no p)=run86 (T5 (Int.ofNat 6) n f s .nils) p:=by kernel_rfl
theorem f86b6 (n:Int) (f:Nat) (s:ByteArray) (cs:List AVal) (m:Nat) (p:Prop):chainP [(.geq,i64 n,i64 0,true),(.leq,i64 n,i64 1099511627776,true),cS s,cF f,(.eql,i64 m,i64 0,true)] (yes p) (no p)=run86 (T5 (Int.ofNat 6) n f s (.ros cs m)) p:=by kernel_rfl
theorem f86a7 (n:Int) (f:Nat) (s:ByteArray) (p:Prop):chainP [(.eql,i64 n,i64 0,true),cS s,cF f] (yes p) (no p)=run86 (T5 (Int.ofNat 7) n f s .nils) p:=by kernel_rfl
theorem f86b7 (n:Int) (f:Nat) (s:ByteArray) (cs:List AVal) (m:Nat) (p:Prop):chainP [(.eql,i64 n,i64 0,true),cS s,cF f] (yes p) (no p)=run86 (T5 (Int.ofNat 7) n f s (.ros cs m)) p:=by kernel_rfl
theorem f86a8 (n:Int) (f:Nat) (s:ByteArray) (p:Prop):chainP [(.eql,i64 n,i64 0,true),cS s,cF f] (yes p) (no p)=run86 (T5 (Int.ofNat 8) n f s .nils) p:=by kernel_rfl
theorem f86b8 (n:Int) (f:Nat) (s:ByteArray) (cs:List AVal) (m:Nat) (p:Prop):chainP [(.eql,i64 n,i64 0,true),cS s,cF f] (yes p) (no p)=run86 (T5 (Int.ofNat 8) n f s (.ros cs m)) p:=by kernel_rfl
theorem f86ax0 (n:Int) (f:Nat) (s:ByteArray) (p:Prop):no p=run86 (T5 (Int.ofNat 0) n f s .nils) p:=by kernel_rfl
theorem f86bx0 (n:Int) (f:Nat) (s:ByteArray) (cs:List AVal) (m:Nat) (p:Prop):no p=run86 (T5 (Int.ofNat 0) n f s (.ros cs m)) p:=by kernel_rfl
theorem f86ax1 (m0:Nat) (n:Int) (f:Nat) (s:ByteArray) (p:Prop):no p=run86 (T5 (Int.ofNat (m0+9)) n f s .nils) p:=by kernel_rfl
theorem f86bx1 (m0:Nat) (n:Int) (f:Nat) (s:ByteArray) (cs:List AVal) (m:Nat) (p:Prop):no p=run86 (T5 (Int.ofNat (m0+9)) n f s (.ros cs m)) p:=by kernel_rfl
theorem f86ax2 (m0:Nat) (n:Int) (f:Nat) (s:ByteArray) (p:Prop):no p=run86 (T5 (Int.negSucc m0) n f s .nils) p:=by kernel_rfl
theorem f86bx2 (m0:Nat) (n:Int) (f:Nat) (s:ByteArray) (cs:List AVal) (m:Nat) (p:Prop):no p=run86 (T5 (Int.negSucc m0) n f s (.ros cs m)) p:=by kernel_rfl
end Go.Am.Rl
namespace Go.Am.Rl
open Go.Proofs
def TM.pl (t:TM):Prop:=
 (t.k=1∧t.s=⟨#[]⟩∧t.l=[]∧(-576460752303423488≤t.n∧t.n≤576460752303423487)∧t.f=0)∨
 (t.k=2∧t.s=⟨#[]⟩∧t.l=[]∧t.n=0∧fin64 t.f=true)∨
 (t.k=3∧t.s.size≤64∧t.n=0∧t.f=0∧t.l=[])∨
 ((t.k=4∨t.k=6)∧(0≤t.n∧t.n≤1099511627776)∧t.s=⟨#[]⟩∧t.f=0∧t.l=[])∨
 (t.k=5∧(0≤t.n∧t.n≤16384)∧t.s=⟨#[]⟩∧t.f=0)∨
 ((t.k=7∨t.k=8)∧t.n=0∧t.s=⟨#[]⟩∧t.f=0)
theorem met_eq {k:IntKind} {n m:Int} (h:Cond.met (.eql,.int k n,.int k m,true)):n=m:=by simpa [Cond.met,abin] using h
theorem met_ne {k:IntKind} {n m:Int} (h:Cond.met (.neq,.int k n,.int k m,false)):n=m:=by simpa [Cond.met,abin] using h
theorem met_ge {k:IntKind} {n m:Int} (h:Cond.met (.geq,.int k n,.int k m,true)):m≤n:=by simpa [Cond.met,abin] using h
theorem met_le {k:IntKind} {n m:Int} (h:Cond.met (.leq,.int k n,.int k m,true)):n≤m:=by simpa [Cond.met,abin] using h
theorem met_s {s u:ByteArray} (h:Cond.met (.eql,.str s,.str u,true)):s=u:=by
 have h:(s.toList==u.toList)=true:=by simpa [Cond.met,abin] using h
 exact bytes_eq (by rw [beq_toListBytes]; exact h)
theorem met_ns {s u:ByteArray} (h:Cond.met (.neq,.str s,.str u,false)):s=u:=by
 have h:(s.toList==u.toList)=true:=by simpa [Cond.met,abin] using h
 exact bytes_eq (by rw [beq_toListBytes]; exact h)
theorem met_f {f:Nat} (h:Cond.met (cF f)):f=0:=by have:=met_eq h; omega
theorem len0 {l:List TM} (h:((l.length:Nat):Int)=0):l=[]:=List.length_eq_zero_iff.mp (by omega)
theorem via {l:List Cond} {p:Prop} {xs:List AVal} (e:chainP l (yes p) (no p)=run86 xs p) (hc:∀ c ∈ l,isCmp c.1 c.2.1 c.2.2.1=true) (hp:(∀ c ∈ l,c.met)→p):DCallX Tryz.prog 110 xs AHeap.empty (Tru p):=
 run86_sound (e.mp (chainP_of hc (fun h=>⟨true,rfl,fun _=>hp h⟩) ⟨false,rfl,fun h=>nomatch h⟩))
theorem vian {p:Prop} {xs:List AVal} (e:no p=run86 xs p):DCallX Tryz.prog 110 xs AHeap.empty (Tru p):=run86_sound (e.mp ⟨false,rfl,fun h=>nomatch h⟩)
theorem via2 {l:List Cond} {p:Prop} {xs:List AVal} {f:Nat} (e:chainP l ((fin64 f=true→yes p)∧(fin64 f=false→no p)) (no p)=run86 xs p) (hc:∀ c ∈ l,isCmp c.1 c.2.1 c.2.2.1=true) (hp:(∀ c ∈ l,c.met)→fin64 f=true→p):DCallX Tryz.prog 110 xs AHeap.empty (Tru p):=
 run86_sound (e.mp (chainP_of hc (fun h=>⟨fun hf=>⟨true,rfl,fun _=>hp h hf⟩,fun _=>⟨false,rfl,fun h=>nomatch h⟩⟩) ⟨false,rfl,fun h=>nomatch h⟩))
theorem DCallX.toPlain {P:Program} {f:FuncId} {xs:List AVal} {H:AHeap} {p:Prop} (h:DCallX P f xs H (Tru p)):DCall P f xs H fun r _=>∃ b,r = .bool b∧(b=true→p):=by
 obtain ⟨o,H',⟨b,rfl,hb⟩,d⟩:=h
 exact ⟨.bool b,H',⟨b,rfl,hb⟩,d.det⟩
theorem g86x (t:TM) (ok:t.ok) (H:AHeap):DCall Tryz.prog 110 [t.agg] H fun r H'=>(∃ b,r = .bool b∧(b=true→TM.pl t))∧H'=H:=by
 refine DCall.bools (TM.pures1 t) (DCallX.toPlain ?_) H
 cases t with
 | mk k n f s nl l=>
  cases nl with
  | true=>
   obtain rfl:l=[]:=ok.2.2.2.2.2.1 rfl
   clear ok
   match k with
   | .ofNat 0=>exact vian (f86ax0 n f s _)
   | .ofNat 1=>
    exact via (f86a1 n f s _) (by simp [isCmp,cmpOp]) fun h=>by
     simp only [List.forall_mem_cons] at h
     obtain ⟨h1,h2,h3,h4,h5,_⟩:=h
     exact .inl ⟨rfl,met_ns h1,rfl,⟨met_ge h3,met_le h4⟩,met_f h5⟩
   | .ofNat 2=>
    exact via2 (f86a2 n f s _) (by simp [isCmp,cmpOp]) fun h hf=>by
     simp only [List.forall_mem_cons] at h
     obtain ⟨h1,h2,h3,_⟩:=h
     exact .inr (.inl ⟨rfl,met_ns h1,rfl,met_eq h3,hf⟩)
   | .ofNat 3=>
    exact via (f86a3 n f s _) (by simp [isCmp,cmpOp]) fun h=>by
     simp only [List.forall_mem_cons] at h
     obtain ⟨h1,h2,h3,h4,_⟩:=h
     exact .inr (.inr (.inl ⟨rfl,(by have:=met_le h1; show s.size≤64; omega),met_eq h2,met_f h3,rfl⟩))
   | .ofNat 4=>
    exact via (f86a4 n f s _) (by simp [isCmp,cmpOp]) fun h=>by
     simp only [List.forall_mem_cons] at h
     obtain ⟨h1,h2,h3,h4,h5,_⟩:=h
     exact .inr (.inr (.inr (.inl ⟨.inl rfl,⟨met_ge h1,met_le h2⟩,met_s h3,met_f h4,rfl⟩)))
   | .ofNat 5=>
    exact via (f86a5 n f s _) (by simp [isCmp,cmpOp]) fun h=>by
     simp only [List.forall_mem_cons] at h
     obtain ⟨h1,h2,h3,h4,_⟩:=h
     exact .inr (.inr (.inr (.inr (.inl ⟨rfl,⟨met_ge h1,met_le h2⟩,met_s h3,met_f h4⟩))))
   | .ofNat 6=>
    exact via (f86a6 n f s _) (by simp [isCmp,cmpOp]) fun h=>by
     simp only [List.forall_mem_cons] at h
     obtain ⟨h1,h2,h3,h4,h5,_⟩:=h
     exact .inr (.inr (.inr (.inl ⟨.inr rfl,⟨met_ge h1,met_le h2⟩,met_s h3,met_f h4,rfl⟩)))
   | .ofNat 7=>
    exact via (f86a7 n f s _) (by simp [isCmp,cmpOp]) fun h=>by
     simp only [List.forall_mem_cons] at h
     obtain ⟨h1,h2,h3,_⟩:=h
     exact .inr (.inr (.inr (.inr (.inr ⟨.inl rfl,met_eq h1,met_s h2,met_f h3⟩))))
   | .ofNat 8=>
    exact via (f86a8 n f s _) (by simp [isCmp,cmpOp]) fun h=>by
     simp only [List.forall_mem_cons] at h
     obtain ⟨h1,h2,h3,_⟩:=h
     exact .inr (.inr (.inr (.inr (.inr ⟨.inr rfl,met_eq h1,met_s h2,met_f h3⟩))))
   | .ofNat (m0+9)=>exact vian (f86ax1 m0 n f s _)
   | .negSucc m0=>exact vian (f86ax2 m0 n f s _)
  | false=>
   clear ok
   match k with
   | .ofNat 0=>exact vian (f86bx0 n f s (TM.flat l) l.length _)
   | .ofNat 1=>
    exact via (f86b1 n f s (TM.flat l) l.length _) (by simp [isCmp,cmpOp]) fun h=>by
     simp only [List.forall_mem_cons] at h
     obtain ⟨h1,h2,h3,h4,h5,_⟩:=h
     exact .inl ⟨rfl,met_ns h1,len0 (met_ne h2),⟨met_ge h3,met_le h4⟩,met_f h5⟩
   | .ofNat 2=>
    exact via2 (f86b2 n f s (TM.flat l) l.length _) (by simp [isCmp,cmpOp]) fun h hf=>by
     simp only [List.forall_mem_cons] at h
     obtain ⟨h1,h2,h3,_⟩:=h
     exact .inr (.inl ⟨rfl,met_ns h1,len0 (met_ne h2),met_eq h3,hf⟩)
   | .ofNat 3=>
    exact via (f86b3 n f s (TM.flat l) l.length _) (by simp [isCmp,cmpOp]) fun h=>by
     simp only [List.forall_mem_cons] at h
     obtain ⟨h1,h2,h3,h4,_⟩:=h
     exact .inr (.inr (.inl ⟨rfl,(by have:=met_le h1; show s.size≤64; omega),met_eq h2,met_f h3,len0 (met_eq h4)⟩))
   | .ofNat 4=>
    exact via (f86b4 n f s (TM.flat l) l.length _) (by simp [isCmp,cmpOp]) fun h=>by
     simp only [List.forall_mem_cons] at h
     obtain ⟨h1,h2,h3,h4,h5,_⟩:=h
     exact .inr (.inr (.inr (.inl ⟨.inl rfl,⟨met_ge h1,met_le h2⟩,met_s h3,met_f h4,len0 (met_eq h5)⟩)))
   | .ofNat 5=>
    exact via (f86b5 n f s (TM.flat l) l.length _) (by simp [isCmp,cmpOp]) fun h=>by
     simp only [List.forall_mem_cons] at h
     obtain ⟨h1,h2,h3,h4,_⟩:=h
     exact .inr (.inr (.inr (.inr (.inl ⟨rfl,⟨met_ge h1,met_le h2⟩,met_s h3,met_f h4⟩))))
   | .ofNat 6=>
    exact via (f86b6 n f s (TM.flat l) l.length _) (by simp [isCmp,cmpOp]) fun h=>by
     simp only [List.forall_mem_cons] at h
     obtain ⟨h1,h2,h3,h4,h5,_⟩:=h
     exact .inr (.inr (.inr (.inl ⟨.inr rfl,⟨met_ge h1,met_le h2⟩,met_s h3,met_f h4,len0 (met_eq h5)⟩)))
   | .ofNat 7=>
    exact via (f86b7 n f s (TM.flat l) l.length _) (by simp [isCmp,cmpOp]) fun h=>by
     simp only [List.forall_mem_cons] at h
     obtain ⟨h1,h2,h3,_⟩:=h
     exact .inr (.inr (.inr (.inr (.inr ⟨.inl rfl,met_eq h1,met_s h2,met_f h3⟩))))
   | .ofNat 8=>
    exact via (f86b8 n f s (TM.flat l) l.length _) (by simp [isCmp,cmpOp]) fun h=>by
     simp only [List.forall_mem_cons] at h
     obtain ⟨h1,h2,h3,_⟩:=h
     exact .inr (.inr (.inr (.inr (.inr ⟨.inr rfl,met_eq h1,met_s h2,met_f h3⟩))))
   | .ofNat (m0+9)=>exact vian (f86bx1 m0 n f s (TM.flat l) l.length _)
   | .negSucc m0=>exact vian (f86bx2 m0 n f s (TM.flat l) l.length _)
end Go.Am.Rl
namespace Go.Am.Rl
open Go.Proofs
def own:Int→Nat→Nat
 | .ofNat 1,_=>0
 | .ofNat 2,_=>2
 | .ofNat 3,_=>0
 | .ofNat 4,_=>2
 | .ofNat 5,m=>2+m
 | .ofNat 6,_=>0
 | .ofNat 8,m=>2 * m
 | _,m=>1+m
theorem own_le (k:Int) (m:Nat):own k m≤2 * m+2:=by unfold own; split <;> omega
def Is (x:Int) (o:AOut) (H:AHeap):Prop:=o = .ret (.int .i64 x)
def tabOf (f:FuncId):Tab:=match Nat.beq f 109 with
 | true=>tabR
 | false=>tabP
theorem tabOf_ok (f:FuncId):(tabOf f).Ok Tryz.prog:=by
 unfold tabOf
 cases Nat.beq f 109 with
 | true=>exact tabR_ok
 | false=>exact tabP_ok
def runO (f:FuncId) (xs:List AVal) (x:Int):Prop:=hcall (tabOf f) GKnown.none (fun _=>[]) 1000 4 f xs AHeap.empty (Is x)
theorem runO_sound {f:FuncId} {xs:List AVal} {x:Int} (h:runO f xs x):DCall Tryz.prog f xs AHeap.empty fun r _=>∃ n,r = .int .i64 n∧n=x:=by
 obtain ⟨o,H',rfl,d⟩:=hcall_sound mixed (tabOf_ok f) (GKnown.none_ok _) 4 f xs AHeap.empty (Is x) h
 exact ⟨_,H',⟨x,rfl,rfl⟩,d.det⟩
theorem w8 {m:Nat} (h:m≤2 ^ 41):IntKind.i64.wrap (2 * (m:Int))=((2 * m:Nat):Int):=by rw [show 2 * (m:Int)=((2 * m:Nat):Int) by omega]; exact wrap64 (by omega)
theorem w5 {m:Nat} (h:m≤2 ^ 41):IntKind.i64.wrap (2+(m:Int))=((2+m:Nat):Int):=by rw [show 2+(m:Int)=((2+m:Nat):Int) by omega]; exact wrap64 (by omega)
theorem w1 {m:Nat} (h:m≤2 ^ 41):IntKind.i64.wrap (1+(m:Int))=((1+m:Nat):Int):=by rw [show 1+(m:Int)=((1+m:Nat):Int) by omega]; exact wrap64 (by omega)
theorem viaO {f:FuncId} {xs:List AVal} {a x:Int} (e:∀ x,(AOut.ret (.int .i64 a) = .ret (.int .i64 x))=runO f xs x) (h:a=x):runO f xs x:=(e x).mp (by rw [h])
theorem o85a0 (n:Int) (f:Nat) (s:ByteArray) (x:Int):(AOut.ret (.int .i64 (IntKind.i64.wrap (1+((0:Nat):Int)))) = .ret (.int .i64 x))=runO 109 (T5 (Int.ofNat 0) n f s .nils) x:=by kernel_rfl
theorem o85b0 (n:Int) (f:Nat) (s:ByteArray) (cs:List AVal) (m:Nat) (x:Int):(AOut.ret (.int .i64 (IntKind.i64.wrap (1+(m:Int)))) = .ret (.int .i64 x))=runO 109 (T5 (Int.ofNat 0) n f s (.ros cs m)) x:=by kernel_rfl
theorem o85a1 (n:Int) (f:Nat) (s:ByteArray) (x:Int):(AOut.ret (.int .i64 (0)) = .ret (.int .i64 x))=runO 109 (T5 (Int.ofNat 1) n f s .nils) x:=by kernel_rfl
theorem o85b1 (n:Int) (f:Nat) (s:ByteArray) (cs:List AVal) (m:Nat) (x:Int):(AOut.ret (.int .i64 (0)) = .ret (.int .i64 x))=runO 109 (T5 (Int.ofNat 1) n f s (.ros cs m)) x:=by kernel_rfl
theorem o85a2 (n:Int) (f:Nat) (s:ByteArray) (x:Int):(AOut.ret (.int .i64 (2)) = .ret (.int .i64 x))=runO 109 (T5 (Int.ofNat 2) n f s .nils) x:=by kernel_rfl
theorem o85b2 (n:Int) (f:Nat) (s:ByteArray) (cs:List AVal) (m:Nat) (x:Int):(AOut.ret (.int .i64 (2)) = .ret (.int .i64 x))=runO 109 (T5 (Int.ofNat 2) n f s (.ros cs m)) x:=by kernel_rfl
theorem o85a3 (n:Int) (f:Nat) (s:ByteArray) (x:Int):(AOut.ret (.int .i64 (0)) = .ret (.int .i64 x))=runO 109 (T5 (Int.ofNat 3) n f s .nils) x:=by kernel_rfl
theorem o85b3 (n:Int) (f:Nat) (s:ByteArray) (cs:List AVal) (m:Nat) (x:Int):(AOut.ret (.int .i64 (0)) = .ret (.int .i64 x))=runO 109 (T5 (Int.ofNat 3) n f s (.ros cs m)) x:=by kernel_rfl
theorem o85a4 (n:Int) (f:Nat) (s:ByteArray) (x:Int):(AOut.ret (.int .i64 (2)) = .ret (.int .i64 x))=runO 109 (T5 (Int.ofNat 4) n f s .nils) x:=by kernel_rfl
theorem o85b4 (n:Int) (f:Nat) (s:ByteArray) (cs:List AVal) (m:Nat) (x:Int):(AOut.ret (.int .i64 (2)) = .ret (.int .i64 x))=runO 109 (T5 (Int.ofNat 4) n f s (.ros cs m)) x:=by kernel_rfl
theorem o85a5 (n:Int) (f:Nat) (s:ByteArray) (x:Int):(AOut.ret (.int .i64 (IntKind.i64.wrap (2+((0:Nat):Int)))) = .ret (.int .i64 x))=runO 109 (T5 (Int.ofNat 5) n f s .nils) x:=by kernel_rfl
theorem o85b5 (n:Int) (f:Nat) (s:ByteArray) (cs:List AVal) (m:Nat) (x:Int):(AOut.ret (.int .i64 (IntKind.i64.wrap (2+(m:Int)))) = .ret (.int .i64 x))=runO 109 (T5 (Int.ofNat 5) n f s (.ros cs m)) x:=by kernel_rfl
theorem o85a6 (n:Int) (f:Nat) (s:ByteArray) (x:Int):(AOut.ret (.int .i64 (0)) = .ret (.int .i64 x))=runO 109 (T5 (Int.ofNat 6) n f s .nils) x:=by kernel_rfl
theorem o85b6 (n:Int) (f:Nat) (s:ByteArray) (cs:List AVal) (m:Nat) (x:Int):(AOut.ret (.int .i64 (0)) = .ret (.int .i64 x))=runO 109 (T5 (Int.ofNat 6) n f s (.ros cs m)) x:=by kernel_rfl
theorem o85a7 (n:Int) (f:Nat) (s:ByteArray) (x:Int):(AOut.ret (.int .i64 (IntKind.i64.wrap (1+((0:Nat):Int)))) = .ret (.int .i64 x))=runO 109 (T5 (Int.ofNat 7) n f s .nils) x:=by kernel_rfl
theorem o85b7 (n:Int) (f:Nat) (s:ByteArray) (cs:List AVal) (m:Nat) (x:Int):(AOut.ret (.int .i64 (IntKind.i64.wrap (1+(m:Int)))) = .ret (.int .i64 x))=runO 109 (T5 (Int.ofNat 7) n f s (.ros cs m)) x:=by kernel_rfl
theorem o85a8 (n:Int) (f:Nat) (s:ByteArray) (x:Int):(AOut.ret (.int .i64 (IntKind.i64.wrap (2 * ((0:Nat):Int)))) = .ret (.int .i64 x))=runO 109 (T5 (Int.ofNat 8) n f s .nils) x:=by kernel_rfl
theorem o85b8 (n:Int) (f:Nat) (s:ByteArray) (cs:List AVal) (m:Nat) (x:Int):(AOut.ret (.int .i64 (IntKind.i64.wrap (2 * (m:Int)))) = .ret (.int .i64 x))=runO 109 (T5 (Int.ofNat 8) n f s (.ros cs m)) x:=by kernel_rfl
theorem o85a9 (m0:Nat) (n:Int) (f:Nat) (s:ByteArray) (x:Int):(AOut.ret (.int .i64 (IntKind.i64.wrap (1+((0:Nat):Int)))) = .ret (.int .i64 x))=runO 109 (T5 (Int.ofNat (m0+9)) n f s .nils) x:=by kernel_rfl
theorem o85b9 (m0:Nat) (n:Int) (f:Nat) (s:ByteArray) (cs:List AVal) (m:Nat) (x:Int):(AOut.ret (.int .i64 (IntKind.i64.wrap (1+(m:Int)))) = .ret (.int .i64 x))=runO 109 (T5 (Int.ofNat (m0+9)) n f s (.ros cs m)) x:=by kernel_rfl
theorem o85a10 (m0:Nat) (n:Int) (f:Nat) (s:ByteArray) (x:Int):(AOut.ret (.int .i64 (IntKind.i64.wrap (1+((0:Nat):Int)))) = .ret (.int .i64 x))=runO 109 (T5 (Int.negSucc m0) n f s .nils) x:=by kernel_rfl
theorem o85b10 (m0:Nat) (n:Int) (f:Nat) (s:ByteArray) (cs:List AVal) (m:Nat) (x:Int):(AOut.ret (.int .i64 (IntKind.i64.wrap (1+(m:Int)))) = .ret (.int .i64 x))=runO 109 (T5 (Int.negSucc m0) n f s (.ros cs m)) x:=by kernel_rfl
theorem o175a0 (n:Int) (f:Nat) (s:ByteArray) (x:Int):(AOut.ret (.int .i64 (IntKind.i64.wrap (1+((0:Nat):Int)))) = .ret (.int .i64 x))=runO 195 (T5 (Int.ofNat 0) n f s .nils) x:=by kernel_rfl
theorem o175b0 (n:Int) (f:Nat) (s:ByteArray) (cs:List AVal) (m:Nat) (x:Int):(AOut.ret (.int .i64 (IntKind.i64.wrap (1+(m:Int)))) = .ret (.int .i64 x))=runO 195 (T5 (Int.ofNat 0) n f s (.ros cs m)) x:=by kernel_rfl
theorem o175a1 (n:Int) (f:Nat) (s:ByteArray) (x:Int):(AOut.ret (.int .i64 (0)) = .ret (.int .i64 x))=runO 195 (T5 (Int.ofNat 1) n f s .nils) x:=by kernel_rfl
theorem o175b1 (n:Int) (f:Nat) (s:ByteArray) (cs:List AVal) (m:Nat) (x:Int):(AOut.ret (.int .i64 (0)) = .ret (.int .i64 x))=runO 195 (T5 (Int.ofNat 1) n f s (.ros cs m)) x:=by kernel_rfl
theorem o175a2 (n:Int) (f:Nat) (s:ByteArray) (x:Int):(AOut.ret (.int .i64 (2)) = .ret (.int .i64 x))=runO 195 (T5 (Int.ofNat 2) n f s .nils) x:=by kernel_rfl
theorem o175b2 (n:Int) (f:Nat) (s:ByteArray) (cs:List AVal) (m:Nat) (x:Int):(AOut.ret (.int .i64 (2)) = .ret (.int .i64 x))=runO 195 (T5 (Int.ofNat 2) n f s (.ros cs m)) x:=by kernel_rfl
theorem o175a3 (n:Int) (f:Nat) (s:ByteArray) (x:Int):(AOut.ret (.int .i64 (0)) = .ret (.int .i64 x))=runO 195 (T5 (Int.ofNat 3) n f s .nils) x:=by kernel_rfl
theorem o175b3 (n:Int) (f:Nat) (s:ByteArray) (cs:List AVal) (m:Nat) (x:Int):(AOut.ret (.int .i64 (0)) = .ret (.int .i64 x))=runO 195 (T5 (Int.ofNat 3) n f s (.ros cs m)) x:=by kernel_rfl
theorem o175a4 (n:Int) (f:Nat) (s:ByteArray) (x:Int):(AOut.ret (.int .i64 (2)) = .ret (.int .i64 x))=runO 195 (T5 (Int.ofNat 4) n f s .nils) x:=by kernel_rfl
theorem o175b4 (n:Int) (f:Nat) (s:ByteArray) (cs:List AVal) (m:Nat) (x:Int):(AOut.ret (.int .i64 (2)) = .ret (.int .i64 x))=runO 195 (T5 (Int.ofNat 4) n f s (.ros cs m)) x:=by kernel_rfl
theorem o175a5 (n:Int) (f:Nat) (s:ByteArray) (x:Int):(AOut.ret (.int .i64 (IntKind.i64.wrap (2+((0:Nat):Int)))) = .ret (.int .i64 x))=runO 195 (T5 (Int.ofNat 5) n f s .nils) x:=by kernel_rfl
theorem o175b5 (n:Int) (f:Nat) (s:ByteArray) (cs:List AVal) (m:Nat) (x:Int):(AOut.ret (.int .i64 (IntKind.i64.wrap (2+(m:Int)))) = .ret (.int .i64 x))=runO 195 (T5 (Int.ofNat 5) n f s (.ros cs m)) x:=by kernel_rfl
theorem o175a6 (n:Int) (f:Nat) (s:ByteArray) (x:Int):(AOut.ret (.int .i64 (0)) = .ret (.int .i64 x))=runO 195 (T5 (Int.ofNat 6) n f s .nils) x:=by kernel_rfl
theorem o175b6 (n:Int) (f:Nat) (s:ByteArray) (cs:List AVal) (m:Nat) (x:Int):(AOut.ret (.int .i64 (0)) = .ret (.int .i64 x))=runO 195 (T5 (Int.ofNat 6) n f s (.ros cs m)) x:=by kernel_rfl
theorem o175a7 (n:Int) (f:Nat) (s:ByteArray) (x:Int):(AOut.ret (.int .i64 (IntKind.i64.wrap (1+((0:Nat):Int)))) = .ret (.int .i64 x))=runO 195 (T5 (Int.ofNat 7) n f s .nils) x:=by kernel_rfl
theorem o175b7 (n:Int) (f:Nat) (s:ByteArray) (cs:List AVal) (m:Nat) (x:Int):(AOut.ret (.int .i64 (IntKind.i64.wrap (1+(m:Int)))) = .ret (.int .i64 x))=runO 195 (T5 (Int.ofNat 7) n f s (.ros cs m)) x:=by kernel_rfl
theorem o175a8 (n:Int) (f:Nat) (s:ByteArray) (x:Int):(AOut.ret (.int .i64 (IntKind.i64.wrap (2 * ((0:Nat):Int)))) = .ret (.int .i64 x))=runO 195 (T5 (Int.ofNat 8) n f s .nils) x:=by kernel_rfl
theorem o175b8 (n:Int) (f:Nat) (s:ByteArray) (cs:List AVal) (m:Nat) (x:Int):(AOut.ret (.int .i64 (IntKind.i64.wrap (2 * (m:Int)))) = .ret (.int .i64 x))=runO 195 (T5 (Int.ofNat 8) n f s (.ros cs m)) x:=by kernel_rfl
theorem o175a9 (m0:Nat) (n:Int) (f:Nat) (s:ByteArray) (x:Int):(AOut.ret (.int .i64 (IntKind.i64.wrap (1+((0:Nat):Int)))) = .ret (.int .i64 x))=runO 195 (T5 (Int.ofNat (m0+9)) n f s .nils) x:=by kernel_rfl
theorem o175b9 (m0:Nat) (n:Int) (f:Nat) (s:ByteArray) (cs:List AVal) (m:Nat) (x:Int):(AOut.ret (.int .i64 (IntKind.i64.wrap (1+(m:Int)))) = .ret (.int .i64 x))=runO 195 (T5 (Int.ofNat (m0+9)) n f s (.ros cs m)) x:=by kernel_rfl
theorem o175a10 (m0:Nat) (n:Int) (f:Nat) (s:ByteArray) (x:Int):(AOut.ret (.int .i64 (IntKind.i64.wrap (1+((0:Nat):Int)))) = .ret (.int .i64 x))=runO 195 (T5 (Int.negSucc m0) n f s .nils) x:=by kernel_rfl
theorem o175b10 (m0:Nat) (n:Int) (f:Nat) (s:ByteArray) (cs:List AVal) (m:Nat) (x:Int):(AOut.ret (.int .i64 (IntKind.i64.wrap (1+(m:Int)))) = .ret (.int .i64 x))=runO 195 (T5 (Int.negSucc m0) n f s (.ros cs m)) x:=by kernel_rfl
theorem ow0 (m:Nat):own (Int.ofNat 0) m=1+m:=rfl
theorem ow1 (m:Nat):own (Int.ofNat 1) m=0:=rfl
theorem ow2 (m:Nat):own (Int.ofNat 2) m=2:=rfl
theorem ow3 (m:Nat):own (Int.ofNat 3) m=0:=rfl
theorem ow4 (m:Nat):own (Int.ofNat 4) m=2:=rfl
theorem ow5 (m:Nat):own (Int.ofNat 5) m=2+m:=rfl
theorem ow6 (m:Nat):own (Int.ofNat 6) m=0:=rfl
theorem ow7 (m:Nat):own (Int.ofNat 7) m=1+m:=rfl
theorem ow8 (m:Nat):own (Int.ofNat 8) m=2 * m:=rfl
theorem ow9 (m0:Nat) (m:Nat):own (Int.ofNat (m0+9)) m=1+m:=by unfold own; split <;> first | rfl | (rename_i h; injection h with h; omega)
theorem ow10 (m0:Nat) (m:Nat):own (Int.negSucc m0) m=1+m:=rfl
attribute [local irreducible] runO own
theorem p85a (k n:Int) (f:Nat) (s:ByteArray) {m:Nat} (h:m≤2 ^ 41):runO 109 (T5 k n f s .nils) (own k 0:Nat):=by
 match k with
 | .ofNat 0=>exact viaO (o85a0 n f s) ((w1 (Nat.zero_le _)).trans (congrArg (Nat.cast (R:=Int)) (ow0 _).symm))
 | .ofNat 1=>exact viaO (o85a1 n f s) ((show (0:Int)=((0:Nat):Int) from rfl).trans (congrArg (Nat.cast (R:=Int)) (ow1 _).symm))
 | .ofNat 2=>exact viaO (o85a2 n f s) ((show (2:Int)=((2:Nat):Int) from rfl).trans (congrArg (Nat.cast (R:=Int)) (ow2 _).symm))
 | .ofNat 3=>exact viaO (o85a3 n f s) ((show (0:Int)=((0:Nat):Int) from rfl).trans (congrArg (Nat.cast (R:=Int)) (ow3 _).symm))
 | .ofNat 4=>exact viaO (o85a4 n f s) ((show (2:Int)=((2:Nat):Int) from rfl).trans (congrArg (Nat.cast (R:=Int)) (ow4 _).symm))
 | .ofNat 5=>exact viaO (o85a5 n f s) ((w5 (Nat.zero_le _)).trans (congrArg (Nat.cast (R:=Int)) (ow5 _).symm))
 | .ofNat 6=>exact viaO (o85a6 n f s) ((show (0:Int)=((0:Nat):Int) from rfl).trans (congrArg (Nat.cast (R:=Int)) (ow6 _).symm))
 | .ofNat 7=>exact viaO (o85a7 n f s) ((w1 (Nat.zero_le _)).trans (congrArg (Nat.cast (R:=Int)) (ow7 _).symm))
 | .ofNat 8=>exact viaO (o85a8 n f s) ((w8 (Nat.zero_le _)).trans (congrArg (Nat.cast (R:=Int)) (ow8 _).symm))
 | .ofNat (m0+9)=>exact viaO (o85a9 m0 n f s) ((w1 (Nat.zero_le _)).trans (congrArg (Nat.cast (R:=Int)) (ow9 m0 _).symm))
 | .negSucc m0=>exact viaO (o85a10 m0 n f s) ((w1 (Nat.zero_le _)).trans (congrArg (Nat.cast (R:=Int)) (ow10 m0 _).symm))
theorem p85b (k n:Int) (f:Nat) (s:ByteArray) (cs:List AVal) {m:Nat} (h:m≤2 ^ 41):runO 109 (T5 k n f s (.ros cs m)) (own k m:Nat):=by
 match k with
 | .ofNat 0=>exact viaO (o85b0 n f s cs m) ((w1 h).trans (congrArg (Nat.cast (R:=Int)) (ow0 _).symm))
 | .ofNat 1=>exact viaO (o85b1 n f s cs m) ((show (0:Int)=((0:Nat):Int) from rfl).trans (congrArg (Nat.cast (R:=Int)) (ow1 _).symm))
 | .ofNat 2=>exact viaO (o85b2 n f s cs m) ((show (2:Int)=((2:Nat):Int) from rfl).trans (congrArg (Nat.cast (R:=Int)) (ow2 _).symm))
 | .ofNat 3=>exact viaO (o85b3 n f s cs m) ((show (0:Int)=((0:Nat):Int) from rfl).trans (congrArg (Nat.cast (R:=Int)) (ow3 _).symm))
 | .ofNat 4=>exact viaO (o85b4 n f s cs m) ((show (2:Int)=((2:Nat):Int) from rfl).trans (congrArg (Nat.cast (R:=Int)) (ow4 _).symm))
 | .ofNat 5=>exact viaO (o85b5 n f s cs m) ((w5 h).trans (congrArg (Nat.cast (R:=Int)) (ow5 _).symm))
 | .ofNat 6=>exact viaO (o85b6 n f s cs m) ((show (0:Int)=((0:Nat):Int) from rfl).trans (congrArg (Nat.cast (R:=Int)) (ow6 _).symm))
 | .ofNat 7=>exact viaO (o85b7 n f s cs m) ((w1 h).trans (congrArg (Nat.cast (R:=Int)) (ow7 _).symm))
 | .ofNat 8=>exact viaO (o85b8 n f s cs m) ((w8 h).trans (congrArg (Nat.cast (R:=Int)) (ow8 _).symm))
 | .ofNat (m0+9)=>exact viaO (o85b9 m0 n f s cs m) ((w1 h).trans (congrArg (Nat.cast (R:=Int)) (ow9 m0 _).symm))
 | .negSucc m0=>exact viaO (o85b10 m0 n f s cs m) ((w1 h).trans (congrArg (Nat.cast (R:=Int)) (ow10 m0 _).symm))
theorem g85x (t:TM) (ok:t.ok) (H:AHeap):DCall Tryz.prog 109 [t.agg] H fun r H'=>r = .int .i64 (own t.k t.l.length:Nat)∧H'=H:=by
 have h:DCall Tryz.prog 109 [t.agg] AHeap.empty fun r _=>∃ n,r = .int .i64 n∧n=(own t.k t.l.length:Nat):=by
  have hle:=TM.len_le ok
  cases t with
  | mk k n f s nl l=>
   cases nl with
   | true=>
    obtain rfl:l=[]:=ok.2.2.2.2.2.1 rfl
    exact runO_sound (p85a k n f s (m:=0) (Nat.zero_le _))
   | false=>exact runO_sound (p85b k n f s (TM.flat l) hle)
 exact (DCall.ints (TM.pures1 t) h H).mono fun r H' ⟨⟨n,h1,h3⟩,h2⟩=>⟨by rw [h1,h3],h2⟩
theorem p175a (k n:Int) (f:Nat) (s:ByteArray) {m:Nat} (h:m≤2 ^ 41):runO 195 (T5 k n f s .nils) (own k 0:Nat):=by
 match k with
 | .ofNat 0=>exact viaO (o175a0 n f s) ((w1 (Nat.zero_le _)).trans (congrArg (Nat.cast (R:=Int)) (ow0 _).symm))
 | .ofNat 1=>exact viaO (o175a1 n f s) ((show (0:Int)=((0:Nat):Int) from rfl).trans (congrArg (Nat.cast (R:=Int)) (ow1 _).symm))
 | .ofNat 2=>exact viaO (o175a2 n f s) ((show (2:Int)=((2:Nat):Int) from rfl).trans (congrArg (Nat.cast (R:=Int)) (ow2 _).symm))
 | .ofNat 3=>exact viaO (o175a3 n f s) ((show (0:Int)=((0:Nat):Int) from rfl).trans (congrArg (Nat.cast (R:=Int)) (ow3 _).symm))
 | .ofNat 4=>exact viaO (o175a4 n f s) ((show (2:Int)=((2:Nat):Int) from rfl).trans (congrArg (Nat.cast (R:=Int)) (ow4 _).symm))
 | .ofNat 5=>exact viaO (o175a5 n f s) ((w5 (Nat.zero_le _)).trans (congrArg (Nat.cast (R:=Int)) (ow5 _).symm))
 | .ofNat 6=>exact viaO (o175a6 n f s) ((show (0:Int)=((0:Nat):Int) from rfl).trans (congrArg (Nat.cast (R:=Int)) (ow6 _).symm))
 | .ofNat 7=>exact viaO (o175a7 n f s) ((w1 (Nat.zero_le _)).trans (congrArg (Nat.cast (R:=Int)) (ow7 _).symm))
 | .ofNat 8=>exact viaO (o175a8 n f s) ((w8 (Nat.zero_le _)).trans (congrArg (Nat.cast (R:=Int)) (ow8 _).symm))
 | .ofNat (m0+9)=>exact viaO (o175a9 m0 n f s) ((w1 (Nat.zero_le _)).trans (congrArg (Nat.cast (R:=Int)) (ow9 m0 _).symm))
 | .negSucc m0=>exact viaO (o175a10 m0 n f s) ((w1 (Nat.zero_le _)).trans (congrArg (Nat.cast (R:=Int)) (ow10 m0 _).symm))
theorem p175b (k n:Int) (f:Nat) (s:ByteArray) (cs:List AVal) {m:Nat} (h:m≤2 ^ 41):runO 195 (T5 k n f s (.ros cs m)) (own k m:Nat):=by
 match k with
 | .ofNat 0=>exact viaO (o175b0 n f s cs m) ((w1 h).trans (congrArg (Nat.cast (R:=Int)) (ow0 _).symm))
 | .ofNat 1=>exact viaO (o175b1 n f s cs m) ((show (0:Int)=((0:Nat):Int) from rfl).trans (congrArg (Nat.cast (R:=Int)) (ow1 _).symm))
 | .ofNat 2=>exact viaO (o175b2 n f s cs m) ((show (2:Int)=((2:Nat):Int) from rfl).trans (congrArg (Nat.cast (R:=Int)) (ow2 _).symm))
 | .ofNat 3=>exact viaO (o175b3 n f s cs m) ((show (0:Int)=((0:Nat):Int) from rfl).trans (congrArg (Nat.cast (R:=Int)) (ow3 _).symm))
 | .ofNat 4=>exact viaO (o175b4 n f s cs m) ((show (2:Int)=((2:Nat):Int) from rfl).trans (congrArg (Nat.cast (R:=Int)) (ow4 _).symm))
 | .ofNat 5=>exact viaO (o175b5 n f s cs m) ((w5 h).trans (congrArg (Nat.cast (R:=Int)) (ow5 _).symm))
 | .ofNat 6=>exact viaO (o175b6 n f s cs m) ((show (0:Int)=((0:Nat):Int) from rfl).trans (congrArg (Nat.cast (R:=Int)) (ow6 _).symm))
 | .ofNat 7=>exact viaO (o175b7 n f s cs m) ((w1 h).trans (congrArg (Nat.cast (R:=Int)) (ow7 _).symm))
 | .ofNat 8=>exact viaO (o175b8 n f s cs m) ((w8 h).trans (congrArg (Nat.cast (R:=Int)) (ow8 _).symm))
 | .ofNat (m0+9)=>exact viaO (o175b9 m0 n f s cs m) ((w1 h).trans (congrArg (Nat.cast (R:=Int)) (ow9 m0 _).symm))
 | .negSucc m0=>exact viaO (o175b10 m0 n f s cs m) ((w1 h).trans (congrArg (Nat.cast (R:=Int)) (ow10 m0 _).symm))
theorem g175x (t:TM) (ok:t.ok) (H:AHeap):DCall Tryz.prog 195 [t.agg] H fun r H'=>r = .int .i64 (own t.k t.l.length:Nat)∧H'=H:=by
 have h:DCall Tryz.prog 195 [t.agg] AHeap.empty fun r _=>∃ n,r = .int .i64 n∧n=(own t.k t.l.length:Nat):=by
  have hle:=TM.len_le ok
  cases t with
  | mk k n f s nl l=>
   cases nl with
   | true=>
    obtain rfl:l=[]:=ok.2.2.2.2.2.1 rfl
    exact runO_sound (p175a k n f s (m:=0) (Nat.zero_le _))
   | false=>exact runO_sound (p175b k n f s (TM.flat l) hle)
 exact (DCall.ints (TM.pures1 t) h H).mono fun r H' ⟨⟨n,h1,h3⟩,h2⟩=>⟨by rw [h1,h3],h2⟩
end Go.Am.Rl
namespace Go.Am.Rl
open Go.Proofs
def symN:FuncId→List Nat:=fun f=>if f=196 then [24,28,44,49,109,114] else []
def symK:FuncId→List Nat:=fun f=>if f=196 then [85] else if f=119 then [5] else if f=120 then [14] else []
def Yes (o:AOut) (H:AHeap):Prop:=o = .ret (.bool true)
def run176 (sym:FuncId→List Nat) (xs:List AVal):Prop:=hcall tabP GKnown.none sym 1000 4 196 xs AHeap.empty Yes
abbrev Y:Prop:=AOut.ret (.bool true) = .ret (.bool true)
abbrev N:Prop:=AOut.ret (.bool false) = .ret (.bool true)
def bothN (n:Int) (p:Prop):Prop:=isCmp .geq (i64 n) (i64 0)=true∧(abin .geq (i64 n) (i64 0)=some (.bool true)→isCmp .leq (i64 n) (i64 1099511627776)=true∧(abin .leq (i64 n) (i64 1099511627776)=some (.bool true)→p)∧(abin .leq (i64 n) (i64 1099511627776)=some (.bool false)→p))∧(abin .geq (i64 n) (i64 0)=some (.bool false)→p)
def absv (f:Nat):AVal:=.flt .f64 (IntKind.u64.wrap ((BitVec.ofInt IntKind.u64.bits (f:Int) &&& ~~~ BitVec.ofInt IntKind.u64.bits 9223372036854775808).toNat:Nat)).toNat
theorem q7a:Y=run176 symK (T5 (Int.ofNat 7) 0 0 ⟨#[]⟩ .nils):=by kernel_rfl
theorem q7b (cs:List AVal) (m:Nat):Y=run176 symK (T5 (Int.ofNat 7) 0 0 ⟨#[]⟩ (.ros cs m)):=by kernel_rfl
theorem q8a:Y=run176 symK (T5 (Int.ofNat 8) 0 0 ⟨#[]⟩ .nils):=by kernel_rfl
theorem q8b (cs:List AVal) (m:Nat):Y=run176 symK (T5 (Int.ofNat 8) 0 0 ⟨#[]⟩ (.ros cs m)):=by kernel_rfl
theorem q3a (s:ByteArray):chainP [(.leq,i64 s.size,i64 64,true)] Y N=run176 symK (T5 (Int.ofNat 3) 0 0 s .nils):=by kernel_rfl
theorem q3b (s:ByteArray):chainP [(.leq,i64 s.size,i64 64,true)] Y N=run176 symK (T5 (Int.ofNat 3) 0 0 s (.ros [] 0)):=by kernel_rfl
theorem q1a (n:Int):bothN n (chainP [(.geq,i64 n,i64 (-576460752303423488),true),(.leq,i64 n,i64 576460752303423487,true)] Y N)=run176 symN (T5 (Int.ofNat 1) n 0 ⟨#[]⟩ .nils):=by kernel_rfl
theorem q1b (n:Int):bothN n (chainP [(.geq,i64 n,i64 (-576460752303423488),true),(.leq,i64 n,i64 576460752303423487,true)] Y N)=run176 symN (T5 (Int.ofNat 1) n 0 ⟨#[]⟩ (.ros [] 0)):=by kernel_rfl
theorem q4a (n:Int):chainP [(.geq,i64 n,i64 0,true),(.leq,i64 n,i64 1099511627776,true)] Y N=run176 symN (T5 (Int.ofNat 4) n 0 ⟨#[]⟩ .nils):=by kernel_rfl
theorem q4b (n:Int):chainP [(.geq,i64 n,i64 0,true),(.leq,i64 n,i64 1099511627776,true)] Y N=run176 symN (T5 (Int.ofNat 4) n 0 ⟨#[]⟩ (.ros [] 0)):=by kernel_rfl
theorem q6a (n:Int):chainP [(.geq,i64 n,i64 0,true),(.leq,i64 n,i64 1099511627776,true)] Y N=run176 symN (T5 (Int.ofNat 6) n 0 ⟨#[]⟩ .nils):=by kernel_rfl
theorem q6b (n:Int):chainP [(.geq,i64 n,i64 0,true),(.leq,i64 n,i64 1099511627776,true)] Y N=run176 symN (T5 (Int.ofNat 6) n 0 ⟨#[]⟩ (.ros [] 0)):=by kernel_rfl
theorem q5a (n:Int):bothN n (chainP [(.geq,i64 n,i64 0,true),(.leq,i64 n,i64 16384,true)] Y N)=run176 symN (T5 (Int.ofNat 5) n 0 ⟨#[]⟩ .nils):=by kernel_rfl
theorem q5b (n:Int) (cs:List AVal) (m:Nat):bothN n (chainP [(.geq,i64 n,i64 0,true),(.leq,i64 n,i64 16384,true)] Y N)=run176 symN (T5 (Int.ofNat 5) n 0 ⟨#[]⟩ (.ros cs m)):=by kernel_rfl
theorem q2a (f:Nat):chainP [(.neq,.flt .f64 f,.flt .f64 f,false),(.gtr,absv f,.flt .f64 9218868437227405311,false)] Y N=run176 symK (T5 (Int.ofNat 2) 0 f ⟨#[]⟩ .nils):=by kernel_rfl
theorem q2b (f:Nat):chainP [(.neq,.flt .f64 f,.flt .f64 f,false),(.gtr,absv f,.flt .f64 9218868437227405311,false)] Y N=run176 symK (T5 (Int.ofNat 2) 0 f ⟨#[]⟩ (.ros [] 0)):=by kernel_rfl
end Go.Am.Rl
namespace Go.Am.Rl
open Go.Proofs
theorem f64s:FloatKind.f64.format.signWeight=9223372036854775808:=by decide
theorem f64b:FloatKind.f64.format.binade=4503599627370496:=by decide
theorem f64i:FloatKind.f64.format.infRung=9218868437227405312:=by decide
theorem fin_lt {f:Nat} (h:fin64 f=true):f % 9223372036854775808 < 9218868437227405312:=by
 by_cases hlt:f % 9223372036854775808 < 9218868437227405312
 ·exact hlt
 exfalso
 have hn:FloatKind.f64.format.sub f f=none:=by
  unfold Ieee.Format.sub Ieee.Format.read
  simp only [f64s,f64b,f64i]
  rw [if_neg (by omega),if_neg hlt]
  by_cases he:f % 9223372036854775808=9218868437227405312
  ·rw [if_pos he]
   simp only [Ieee.Datum.opposite,Ieee.Datum.sum]
   cases (f / 9223372036854775808 % 2==1) <;> rfl
  ·rw [if_neg he]; rfl
 unfold fin64 at h
 rw [hn] at h
 cases h
theorem cmp_self (x:Int):compare x x=Ordering.eq:=by simp [compare,compareOfLessAndEq]
theorem cmp_le {x y:Int} (h:x≤y):(some (compare x y)==some Ordering.gt)=false:=by
 simp only [compare,compareOfLessAndEq]
 split
 ·rfl
 ·split
  ·rfl
  ·omega
theorem read_num {f:Nat} (h:f % 9223372036854775808 < 9218868437227405312):∃ m j,FloatKind.f64.format.read f = .number (f / 9223372036854775808 % 2==1) m (FloatKind.f64.format.leastPlace+(j:Nat))∧m≤9007199254740991∧j≤2045:=by
 unfold Ieee.Format.read
 simp only [f64s,f64b,f64i]
 by_cases h1:f % 9223372036854775808 < 4503599627370496
 ·rw [if_pos h1]; exact ⟨f % 9223372036854775808,0,by simp,by omega,by omega⟩
 ·rw [if_neg h1,if_pos h]; exact ⟨_,_,rfl,by omega,by omega⟩
theorem neq_fin {f:Nat} (h:fin64 f=true):Cond.met (.neq,.flt .f64 f,.flt .f64 f,false):=by
 obtain ⟨m,j,hr,_,_⟩:=read_num (fin_lt h)
 show abin .neq (.flt .f64 f) (.flt .f64 f)=some (.bool false)
 have:FloatKind.f64.format.order f f=some .eq:=by
  unfold Ieee.Format.order
  rw [hr]
  simp only [Ieee.Datum.order,cmp_self]
 simp [abin,this]
theorem read_max:FloatKind.f64.format.read 9218868437227405311 = .number false 9007199254740991 (FloatKind.f64.format.leastPlace+(2045:Nat)):=by decide
theorem abs_val {f:Nat} (h:f < 18446744073709551616):absv f = .flt .f64 (f % 9223372036854775808):=by
 have e:(BitVec.ofInt 64 (f:Int) &&& ~~~ BitVec.ofInt 64 9223372036854775808).toNat=f % 9223372036854775808:=by
  rw [show (~~~ BitVec.ofInt 64 9223372036854775808:BitVec 64)=BitVec.ofNat 64 9223372036854775807 by decide,BitVec.ofInt_natCast,BitVec.toNat_and,BitVec.toNat_ofNat,BitVec.toNat_ofNat,Nat.mod_eq_of_lt h]
  exact Nat.and_two_pow_sub_one_eq_mod f 63
 unfold absv
 have hb:IntKind.u64.bits=64:=rfl
 show AVal.flt .f64 (IntKind.u64.wrap ((BitVec.ofInt 64 (f:Int) &&& ~~~ BitVec.ofInt 64 9223372036854775808).toNat:Nat)).toNat=_
 rw [e]
 have:IntKind.u64.wrap ((f % 9223372036854775808:Nat):Int)=((f % 9223372036854775808:Nat):Int):=by
  have hl:f % 9223372036854775808 < 9223372036854775808:=Nat.mod_lt _ (by decide)
  generalize f % 9223372036854775808=a at hl
  simp only [IntKind.wrap]
  have:((a:Nat):Int) % 2 ^ 64=(a:Int):=by omega
  simp_all [IntKind.bits,IntKind.signed]
 rw [this,Int.toNat_natCast]
theorem gtr_fin {f:Nat} (h:fin64 f=true) (hf:f < 18446744073709551616):Cond.met (.gtr,absv f,.flt .f64 9218868437227405311,false):=by
 have hl:=fin_lt h
 rw [abs_val hf]
 obtain ⟨m,j,hr,hm,hj⟩:=read_num (f:=f % 9223372036854775808) (by rw [Nat.mod_mod]; exact hl)
 have hneg:(f % 9223372036854775808 / 9223372036854775808 % 2==1)=false:=by
  have:f % 9223372036854775808 / 9223372036854775808=0:=Nat.div_eq_of_lt (Nat.mod_lt _ (by decide))
  rw [this]; rfl
 rw [hneg] at hr
 show abin .gtr (.flt .f64 (f % 9223372036854775808)) (.flt .f64 9218868437227405311)=some (.bool false)
 have ho:(FloatKind.f64.format.order (f % 9223372036854775808) 9218868437227405311==some .gt)=false:=by
  unfold Ieee.Format.order
  rw [hr,read_max]
  simp only [Ieee.Datum.order]
  refine cmp_le ?_
  generalize FloatKind.f64.format.leastPlace=p
  rw [show min (p+(j:Int)) (p+((2045:Nat):Int))=p+(j:Int) by omega]
  rw [show (p+(j:Int) - (p+(j:Int))).toNat=0 by omega,show (p+((2045:Nat):Int) - (p+(j:Int))).toNat=2045 - j by omega]
  simp only [Ieee.signed,Bool.false_eq_true,if_false,Nat.shiftLeft_eq,Nat.pow_zero,Nat.mul_one]
  have:1≤2 ^ (2045 - j):=Nat.one_le_two_pow
  have:9007199254740991 * 1≤9007199254740991 * 2 ^ (2045 - j):=Nat.mul_le_mul_left _ this
  omega
 simp [abin,ho]
attribute [local irreducible] run176
theorem t176 {sym:FuncId→List Nat} {xs:List AVal} {p:Prop} (e:p=run176 sym xs) (hp:p):DCall Tryz.prog 196 xs AHeap.empty fun r _=>∃ b,r = .bool b∧b=true:=by
 obtain ⟨o,H',rfl,d⟩:=hcall_sound mixed tabP_ok (GKnown.none_ok _) 4 196 xs AHeap.empty Yes (show hcall tabP GKnown.none sym 1000 4 196 xs AHeap.empty Yes by have h:=e.mp hp; unfold run176 at h; exact h)
 exact ⟨_,H',⟨true,rfl,rfl⟩,d.det⟩
theorem chainT:∀ {l:List Cond} {good bad:Prop},(∀ c ∈ l,isCmp c.1 c.2.1 c.2.2.1=true)→(∀ c ∈ l,c.met)→good→chainP l good bad
 | [],good,bad,_,_,h=>h
 | (c,u,v,true)::r,good,bad,hc,hm,h=>⟨hc _ (List.mem_cons_self ..),fun _=>chainT (fun c h=>hc c (List.mem_cons_of_mem _ h)) (fun c h=>hm c (List.mem_cons_of_mem _ h)) h,fun hf=>by
   have:=hm _ (List.mem_cons_self ..)
   simp only [Cond.met] at this
   rw [hf] at this; cases this⟩
 | (c,u,v,false)::r,good,bad,hc,hm,h=>⟨hc _ (List.mem_cons_self ..),fun hf=>(by
   have:=hm _ (List.mem_cons_self ..)
   simp only [Cond.met] at this
   rw [hf] at this
   cases this),fun _=>chainT (fun c h=>hc c (List.mem_cons_of_mem _ h)) (fun c h=>hm c (List.mem_cons_of_mem _ h)) h⟩
theorem bothN_of {n:Int} {p:Prop} (h:p):bothN n p:=⟨by simp [isCmp,cmpOp],fun _=>⟨by simp [isCmp,cmpOp],fun _=>h,fun _=>h⟩,fun _=>h⟩
theorem ge_met {n m:Int} (h:m≤n):Cond.met (.geq,i64 n,i64 m,true):=by simp [Cond.met,abin,h]
theorem le_met {n m:Int} (h:n≤m):Cond.met (.leq,i64 n,i64 m,true):=by simp [Cond.met,abin,h]
theorem two_met {c d:Cond} (h1:c.met) (h2:d.met):∀ x ∈ [c,d],x.met:=by
 intro x hx
 rcases List.mem_cons.mp hx with rfl | hx
 ·exact h1
 ·rcases List.mem_cons.mp hx with rfl | hx
  ·exact h2
  ·cases hx
theorem g176x (t:TM) (ok:t.ok) (h:TM.pl t) (H:AHeap):DCall Tryz.prog 196 [t.agg] H fun r H'=>r = .bool true∧H'=H:=by
 have hx:DCall Tryz.prog 196 [t.agg] AHeap.empty fun r _=>∃ b,r = .bool b∧b=true:=by
  cases t with
  | mk k n f s nl l=>
   have hf:f < 18446744073709551616:=by
    have:=ok.2.2.1
    simpa [Lit.wf] using this
   rcases h with ⟨rfl,rfl,rfl,⟨h1,h2⟩,rfl⟩ | ⟨rfl,rfl,rfl,rfl,hfin⟩ | ⟨rfl,hs,rfl,rfl,rfl⟩ | ⟨hk,⟨h1,h2⟩,rfl,rfl,rfl⟩ | ⟨rfl,⟨h1,h2⟩,rfl,rfl⟩ | ⟨hk,rfl,rfl,rfl⟩
   ·have hc:=chainT (good:=Y) (bad:=N) (by simp [isCmp,cmpOp]) (two_met (ge_met h1) (le_met h2)) rfl
    cases nl with
    | true=>exact t176 (q1a n) (bothN_of hc)
    | false=>exact t176 (q1b n) (bothN_of hc)
   ·have hc:=chainT (good:=Y) (bad:=N) (by simp [isCmp,cmpOp,absv]) (two_met (neq_fin hfin) (gtr_fin hfin hf)) rfl
    cases nl with
    | true=>exact t176 (q2a f) hc
    | false=>exact t176 (q2b f) hc
   ·have hc:=chainT (l:=[(.leq,i64 s.size,i64 64,true)]) (good:=Y) (bad:=N) (by simp [isCmp,cmpOp]) (by
     intro c hc
     rcases List.mem_cons.mp hc with rfl | hc
     ·exact le_met (by have:s.size≤64:=hs; omega)
     ·cases hc) rfl
    cases nl with
    | true=>exact t176 (q3a s) hc
    | false=>exact t176 (q3b s) hc
   ·have hc:=chainT (good:=Y) (bad:=N) (by simp [isCmp,cmpOp]) (two_met (ge_met h1) (le_met h2)) rfl
    rcases hk with rfl | rfl
    ·cases nl with
     | true=>exact t176 (q4a n) hc
     | false=>exact t176 (q4b n) hc
    ·cases nl with
     | true=>exact t176 (q6a n) hc
     | false=>exact t176 (q6b n) hc
   ·have hc:=chainT (good:=Y) (bad:=N) (by simp [isCmp,cmpOp]) (two_met (ge_met h1) (le_met h2)) rfl
    cases nl with
    | true=>exact t176 (q5a n) (bothN_of hc)
    | false=>exact t176 (q5b n (TM.flat l) l.length) (bothN_of hc)
   ·rcases hk with rfl | rfl
    ·cases nl with
     | true=>exact t176 q7a rfl
     | false=>exact t176 (q7b (TM.flat l) l.length) rfl
    ·cases nl with
     | true=>exact t176 q8a rfl
     | false=>exact t176 (q8b (TM.flat l) l.length) rfl
 exact (DCall.bools (TM.pures1 t) hx H).mono fun r H' ⟨⟨n,h1,h3⟩,h2⟩=>⟨by rw [h1,h3],h2⟩
end Go.Am.Rl
namespace Go.Am.Rl
theorem w64s:FloatKind.f64.format.signWeight=9223372036854775808:=by decide
theorem w64b:FloatKind.f64.format.binade=4503599627370496:=by decide
theorem w64i:FloatKind.f64.format.infRung=9218868437227405312:=by decide
theorem w64l:FloatKind.f64.format.leastPlace = -1074:=by decide
theorem w64f:FloatKind.f64.format.fractionBits=52:=by decide
theorem cut0 (w:Ieee.Toward) (s:Bool) (n:Nat):w.cut s n 0=n:=by
 cases w <;> simp [Ieee.Toward.cut,Nat.mod_one]
theorem cutZ_le (s:Bool) (n d:Nat):Ieee.Toward.zero.cut s n d≤n:=by
 simp only [Ieee.Toward.cut,Bool.toNat_false,Nat.add_zero]
 exact Nat.div_le_self _ _
theorem kept_small {q:Nat} (h0:0 < q) (hL:q.log2≤52):4503599627370496≤q <<< (52 - q.log2)∧q <<< (52 - q.log2) < 9007199254740992:=by
 have h1:=Nat.log2_self_le (n:=q) (by omega)
 have h2:=Nat.lt_log2_self (n:=q)
 rw [Nat.shiftLeft_eq]
 have e:2 ^ q.log2 * 2 ^ (52 - q.log2)=4503599627370496:=by rw [← Nat.pow_add,show q.log2+(52 - q.log2)=52 by omega]
 have e2:2 ^ (q.log2+1) * 2 ^ (52 - q.log2)=9007199254740992:=by rw [← Nat.pow_add,show q.log2+1+(52 - q.log2)=53 by omega]
 constructor
 ·rw [← e]; exact Nat.mul_le_mul_right _ h1
 ·rw [← e2]; exact Nat.mul_lt_mul_of_pos_right h2 (Nat.two_pow_pos _)
theorem kept_big {q:Nat} (hL:52 < q.log2):4503599627370496≤q / 2 ^ (q.log2 - 52)∧q / 2 ^ (q.log2 - 52) < 9007199254740992:=by
 have h0:q≠0:=by intro h; subst h; simp at hL
 have h1:=Nat.log2_self_le (n:=q) h0
 have h2:=Nat.lt_log2_self (n:=q)
 have e:4503599627370496 * 2 ^ (q.log2 - 52)=2 ^ q.log2:=by rw [show (4503599627370496:Nat)=2 ^ 52 by decide,← Nat.pow_add,show 52+(q.log2 - 52)=q.log2 by omega]
 have e2:9007199254740992 * 2 ^ (q.log2 - 52)=2 ^ (q.log2+1):=by rw [show (9007199254740992:Nat)=2 ^ 53 by decide,← Nat.pow_add,show 53+(q.log2 - 52)=q.log2+1 by omega]
 constructor
 ·rw [Nat.le_div_iff_mul_le (Nat.two_pow_pos _),e]; exact h1
 ·rw [Nat.div_lt_iff_lt_mul (Nat.two_pow_pos _),e2]; exact h2
theorem nearest_is (s:Bool) {q:Nat} (h0:0 < q) (hL:q.log2≤63) (hd:52 < q.log2→q % 2 ^ (q.log2 - 52)=0) :
  ∃ kept,4503599627370496≤kept∧kept < 9007199254740992∧FloatKind.f64.format.nearest s q 0=FloatKind.f64.format.word s ((q.log2+1022) * 4503599627370496+kept)∧(52 < q.log2→kept * 2 ^ (q.log2 - 52)≤q):=by
 unfold Ieee.Format.nearest
 rw [if_neg (by omega)]
 simp only [w64f,w64l,w64b,w64i]
 have hlast:max ((0:Int)+(q.log2:Int) - ((52:Nat):Int)) (-1074)=(q.log2:Int) - 52:=by omega
 rw [hlast]
 have hr:((q.log2:Int) - 52 - -1074).toNat=q.log2+1022:=by omega
 rw [hr]
 by_cases h:q.log2≤52
 ·have e1:((0:Int) - ((q.log2:Int) - 52)).toNat=52 - q.log2:=by omega
  have e2:((q.log2:Int) - 52 - 0).toNat=0:=by omega
  rw [e1,e2,cut0]
  obtain ⟨k1,k2⟩:=kept_small h0 h
  exact ⟨_,k1,k2,by rw [Nat.min_eq_left (by omega)],fun h'=>by omega⟩
 ·have h:=Nat.lt_of_not_le h
  have e1:((0:Int) - ((q.log2:Int) - 52)).toNat=0:=by omega
  have e2:((q.log2:Int) - 52 - 0).toNat=q.log2 - 52:=by omega
  rw [e1,e2,Nat.shiftLeft_zero]
  have hcut:Ieee.Toward.even.cut s q (q.log2 - 52)=q / 2 ^ (q.log2 - 52):=by
   have hg:1 <<< min (q.log2 - 52) (q.log2+2)=2 ^ (q.log2 - 52):=by rw [Nat.min_eq_left (by omega),Nat.shiftLeft_eq,Nat.one_mul]
   simp only [Ieee.Toward.cut,hg,hd h]
   have:(2 ^ (q.log2 - 52)==2 * 0)=false:=by
    have:=Nat.two_pow_pos (q.log2 - 52)
    simp
   simp
  rw [hcut]
  obtain ⟨k1,k2⟩:=kept_big h
  exact ⟨_,k1,k2,by rw [Nat.min_eq_left (by omega)],fun _=>Nat.div_mul_le_self _ _⟩
theorem read_word (s:Bool) {L kept:Nat} (hL:L≤63) (h1:4503599627370496≤kept) (h2:kept < 9007199254740992) :
  FloatKind.f64.format.read (FloatKind.f64.format.word s ((L+1022) * 4503599627370496+kept)) = .number s kept ((L:Int) - 52):=by
 obtain ⟨r,hr⟩:∃ r,r=(L+1022) * 4503599627370496+kept:=⟨_,rfl⟩
 rw [← hr]
 have hr1:r < 9218868437227405312:=by omega
 have hr2:4503599627370496≤r:=by omega
 have hdiv:r / 4503599627370496=L+1023:=by omega
 have hmod:4503599627370496+r % 4503599627370496=kept:=by omega
 unfold Ieee.Format.read Ieee.Format.word
 simp only [w64s,w64b,w64i,w64l]
 cases s with
 | false=>
  have e1:r / 9223372036854775808=0:=by omega
  have e2:r % 9223372036854775808=r:=by omega
  simp only [Bool.false_eq_true,if_false,e1,e2]
  rw [if_neg (by omega),if_pos hr1,hmod,hdiv]
  simp; omega
 | true=>
  have e1:(9223372036854775808+r) / 9223372036854775808=1:=by omega
  have e2:(9223372036854775808+r) % 9223372036854775808=r:=by omega
  simp only [if_true,e1,e2]
  rw [if_neg (by omega),if_pos hr1,hmod,hdiv]
  simp; omega
theorem whole_le (s:Bool) {q:Nat} (hq:q≤9223372036854775808) (hd:52 < q.log2→q % 2 ^ (q.log2 - 52)=0) :
  ∃ q',(FloatKind.f64.decode (FloatKind.f64.format.nearest s q 0)).toInt .zero=some (Ieee.signed s q' 0)∧(q'≤q∨q' < 9007199254740992):=by
 by_cases h0:q=0
 ·subst h0
  cases s <;> exact ⟨0,by decide,.inl (Nat.le_refl _)⟩
 have hL:q.log2≤63:=by
  have:=(Nat.log2_lt h0 (k:=64)).mpr (by omega)
  omega
 obtain ⟨kept,k1,k2,hn,hle⟩:=nearest_is s (by omega) hL hd
 rw [hn]
 unfold FloatKind.decode
 rw [read_word s hL k1 k2]
 simp only [Ieee.Datum.toInt,Ieee.Datum.integral]
 refine ⟨_,rfl,?_⟩
 by_cases h:q.log2≤52
 ·right
  have e1:((q.log2:Int) - 52).toNat=0:=by omega
  rw [e1,Nat.shiftLeft_zero]
  exact Nat.lt_of_le_of_lt (cutZ_le _ _ _) k2
 ·left
  have h:=Nat.lt_of_not_le h
  have e1:((q.log2:Int) - 52).toNat=q.log2 - 52:=by omega
  have e2:(-((q.log2:Int) - 52)).toNat=0:=by omega
  rw [e1,e2,cut0,Nat.shiftLeft_eq]
  exact hle h
theorem cut_bounds {s:Bool} {m:Nat} {i:Int} (hm:m≤9007199254740991) (hi:m * 2 ^ (i - min i 11).toNat≤4503599627370496 * 2 ^ (11 - min i 11).toNat) :
  Ieee.Toward.zero.cut s (m <<< i.toNat) (-i).toNat≤9223372036854775808∧(52 < (Ieee.Toward.zero.cut s (m <<< i.toNat) (-i).toNat).log2→Ieee.Toward.zero.cut s (m <<< i.toNat) (-i).toNat % 2 ^ ((Ieee.Toward.zero.cut s (m <<< i.toNat) (-i).toNat).log2 - 52)=0)∧
   (m * 2 ^ (i - min i 11).toNat < 4503599627370496 * 2 ^ (11 - min i 11).toNat→Ieee.Toward.zero.cut s (m <<< i.toNat) (-i).toNat < 9223372036854775808):=by
 by_cases h:i < 0
 ·have e1:i.toNat=0:=by omega
  rw [e1,Nat.shiftLeft_zero]
  have hc:=cutZ_le s m (-i).toNat
  generalize Ieee.Toward.zero.cut s m (-i).toNat=q at hc
  refine ⟨by omega,fun hq=> ?_,fun _=>by omega⟩
  exfalso
  have hq0:q≠0:=by intro e; subst e; simp at hq
  have:=(Nat.log2_lt hq0 (k:=53)).mpr (by omega)
  omega
 ·obtain ⟨n,rfl⟩:∃ n:Nat,i=n:=⟨i.toNat,by omega⟩
  have e1:((n:Int)).toNat=n:=by omega
  have e2:(-(n:Int)).toNat=0:=by omega
  rw [e1,e2,cut0,Nat.shiftLeft_eq]
  have hpow:4503599627370496 * 2 ^ 11=9223372036854775808:=by decide
  have hb:m * 2 ^ n≤9223372036854775808∧(m * 2 ^ ((n:Int) - min (n:Int) 11).toNat < 4503599627370496 * 2 ^ (11 - min (n:Int) 11).toNat→m * 2 ^ n < 9223372036854775808):=by
   by_cases hn:n≤11
   ·have h1:((n:Int) - min (n:Int) 11).toNat=0:=by omega
    have h2:(11 - min (n:Int) 11).toNat=11 - n:=by omega
    rw [h1,h2,Nat.pow_zero,Nat.mul_one] at hi ⊢
    have hp:4503599627370496 * 2 ^ (11 - n) * 2 ^ n=9223372036854775808:=by rw [Nat.mul_assoc,← Nat.pow_add,show 11 - n+n=11 by omega]
    exact ⟨by rw [← hp]; exact Nat.mul_le_mul_right _ hi,fun h=>by rw [← hp]; exact Nat.mul_lt_mul_of_pos_right h (Nat.two_pow_pos _)⟩
   ·have h1:((n:Int) - min (n:Int) 11).toNat=n - 11:=by omega
    have h2:(11 - min (n:Int) 11).toNat=0:=by omega
    rw [h1,h2,Nat.pow_zero,Nat.mul_one] at hi ⊢
    have hp:m * 2 ^ n=m * 2 ^ (n - 11) * 2048:=by rw [Nat.mul_assoc,show (2048:Nat)=2 ^ 11 by decide,← Nat.pow_add,show n - 11+11=n by omega]
    exact ⟨by rw [hp]; omega,fun h=>by rw [hp]; omega⟩
  refine ⟨hb.1,fun hq=> ?_,hb.2⟩
  have hne:m * 2 ^ n≠0:=by intro e; rw [e] at hq; simp at hq
  have hlt:(m * 2 ^ n).log2 < 53+n:=(Nat.log2_lt hne).mpr (by
   rw [Nat.pow_add]
   exact Nat.mul_lt_mul_of_pos_right (by omega) (Nat.two_pow_pos _))
  have hsplit:m * 2 ^ n=m * 2 ^ (n - ((m * 2 ^ n).log2 - 52)) * 2 ^ ((m * 2 ^ n).log2 - 52):=by
   rw [Nat.mul_assoc,← Nat.pow_add,show n - ((m * 2 ^ n).log2 - 52)+((m * 2 ^ n).log2 - 52)=n by omega]
  conv=>lhs; lhs; rw [hsplit]
  exact Nat.mul_mod_left _ _
end Go.Am.Rl
namespace Go.Am.Rl
open Go.Proofs
theorem read_hi:FloatKind.f64.format.read 4890909195324358656 = .number false 4503599627370496 11:=by decide
theorem read_lo:FloatKind.f64.format.read 14114281232179134464 = .number true 4503599627370496 11:=by decide
theorem cmp_lt {x y:Int} (h:(some (compare x y)==some Ordering.gt || some (compare x y)==some Ordering.eq)=false):x < y:=by
 simp only [compare,compareOfLessAndEq] at h
 split at h
 ·assumption
 ·split at h <;> cases h
theorem cmp_nlt {x y:Int} (h:(some (compare x y)==some Ordering.lt)=false):y≤x:=by
 simp only [compare,compareOfLessAndEq] at h
 split at h
 ·cases h
 ·omega
theorem trunc_in {f:Nat} (hf:fin64 f=true) (hg:abin .geq (.flt .f64 f) (.flt .f64 4890909195324358656)=some (.bool false)) (hl:abin .lss (.flt .f64 f) (.flt .f64 14114281232179134464)=some (.bool false)) :
  ∃ t w,aext 3 [.flt .f64 f]=some (.flt .f64 t)∧fltInt .f64 .f64 .i64 t=some w:=by
 obtain ⟨m,j,hr,hm,hj⟩:=read_num (fin_lt hf)
 generalize (f / 9223372036854775808 % 2==1)=s at hr
 obtain ⟨i,hi⟩:∃ i,i=FloatKind.f64.format.leastPlace+(j:Nat):=⟨_,rfl⟩
 rw [← hi] at hr
 have hg:(some (compare (Ieee.signed s m (i - min i 11).toNat) (Ieee.signed false 4503599627370496 (11 - min i 11).toNat))==some Ordering.gt || some (compare (Ieee.signed s m (i - min i 11).toNat) (Ieee.signed false 4503599627370496 (11 - min i 11).toNat))==some Ordering.eq)=false:=by
  have:abin .geq (.flt .f64 f) (.flt .f64 4890909195324358656)=some (.bool (FloatKind.f64.format.order f 4890909195324358656==some .gt || FloatKind.f64.format.order f 4890909195324358656==some .eq)):=rfl
  rw [this] at hg
  have ho:FloatKind.f64.format.order f 4890909195324358656=some (compare (Ieee.signed s m (i - min i 11).toNat) (Ieee.signed false 4503599627370496 (11 - min i 11).toNat)):=by
   unfold Ieee.Format.order
   rw [hr,read_hi]; rfl
  rw [ho] at hg
  simpa using hg
 have hl:(some (compare (Ieee.signed s m (i - min i 11).toNat) (Ieee.signed true 4503599627370496 (11 - min i 11).toNat))==some Ordering.lt)=false:=by
  have:abin .lss (.flt .f64 f) (.flt .f64 14114281232179134464)=some (.bool (FloatKind.f64.format.order f 14114281232179134464==some .lt)):=rfl
  rw [this] at hl
  have ho:FloatKind.f64.format.order f 14114281232179134464=some (compare (Ieee.signed s m (i - min i 11).toNat) (Ieee.signed true 4503599627370496 (11 - min i 11).toNat)):=by
   unfold Ieee.Format.order
   rw [hr,read_lo]; rfl
  rw [ho] at hl
  simpa using hl
 have hg:=cmp_lt hg
 have hl:=cmp_nlt hl
 have key:m * 2 ^ (i - min i 11).toNat≤4503599627370496 * 2 ^ (11 - min i 11).toNat∧(s=false→m * 2 ^ (i - min i 11).toNat < 4503599627370496 * 2 ^ (11 - min i 11).toNat):=by
  cases s with
  | false=>
   simp only [Ieee.signed,Bool.false_eq_true,if_false,Nat.shiftLeft_eq] at hg
   have:m * 2 ^ (i - min i 11).toNat < 4503599627370496 * 2 ^ (11 - min i 11).toNat:=by omega
   exact ⟨by omega,fun _=>this⟩
  | true=>
   simp only [Ieee.signed,if_true,Nat.shiftLeft_eq] at hl
   exact ⟨by omega,fun h=>nomatch h⟩
 obtain ⟨c1,c2,c3⟩:=cut_bounds (s:=s) hm key.1
 obtain ⟨q,hq⟩:∃ q,q=Ieee.Toward.zero.cut s (m <<< i.toNat) (-i).toNat:=⟨_,rfl⟩
 rw [← hq] at c1 c2 c3
 obtain ⟨q',ht,hb⟩:=whole_le s c1 c2
 refine ⟨FloatKind.f64.format.nearest s q 0,Ieee.signed s q' 0,?_,?_⟩
 ·have hd:FloatKind.f64.decode f = .number s m i:=hr
  show aext3 .zero [.flt .f64 f]=_
  simp only [aext3,hd]
  rw [hq]
  rfl
 ·unfold fltInt
  rw [if_pos rfl,ht]
  have hmin:IntKind.i64.min = -9223372036854775808:=by decide
  have hmax:IntKind.i64.max=9223372036854775807:=by decide
  simp only [hmin,hmax]
  rw [if_pos]
  cases s with
  | false=>
   have:=c3 (key.2 rfl)
   simp only [Ieee.signed,Bool.false_eq_true,if_false,Nat.shiftLeft_zero]
   omega
  | true=>
   simp only [Ieee.signed,if_true,Nat.shiftLeft_zero]
   omega
end Go.Am.Rl
namespace Go.Am.Rl
open Go.Proofs
abbrev TM.of (nl:Bool) (l:List TM):TM:=.mk 0 0 0 ⟨#[]⟩ nl l
section
variable {u:TM} {H:AHeap} {k k':List AItem} {Q:Env→AHeap→Prop}
theorem loop8 (ok:u.ok) (hk:aexitTo 0 k=some k') (hend:(∀ x ∈ u.l,TM.kind x)→DR Tryz.prog (kof k5) 25 k' [] H Q) (hret:∀ T,T.get 2=some (.bool false)→Q T H) :
  ∀ (e i:Nat),i+e=u.l.length→(∀ x ∈ u.l.take i,TM.kind x)→DR Tryz.prog (kof k5) 25 (.code l5_0::.inLoop l5_0::k) [(0,u.row),(3,.int .i64 (i:Nat))] H Q:=by
 intro e
 have hl:=TM.lenT ok H
 induction e with
 | zero=>
  intro i hi hall
  have hc:abin .lss (.int .i64 (i:Nat)) (.int .i64 (u.l.length:Nat))=some (.bool false):=by simp [abin]; omega
  refine Dg rfl ?_
  simp -dsimp only [SE,astep,seval,hl,hc]
  refine Dn rfl rfl ?_
  refine Dm rfl ?_
  refine DR.exit hk ?_
  exact DR.only [] (hend (by rw [List.take_of_length_le (by omega)] at hall; exact hall))
 | succ e ih2=>
  intro i hi hall
  have hc:abin .lss (.int .i64 (i:Nat)) (.int .i64 (u.l.length:Nat))=some (.bool true):=by simp [abin]; omega
  have hlt:i < u.l.length:=by omega
  have hx:u.l[i]? = some u.l[i]:=List.getElem?_eq_getElem hlt
  have hxo:=TM.ok_at ok hx
  have ra:=TM.row_at ok hx H
  have la:=TM.load u.l[i] (TM.flat (u.l.drop (i+1))) H
  have hle:=TM.len_le ok
  have hw:IntKind.i64.wrap ((i:Int)+1)=((i+1:Nat):Int):=wrap64 (n:=i+1) (by omega)
  refine Dg rfl ?_
  simp -dsimp only [SE,astep,seval,hl,hc]
  refine Dy rfl rfl ?_
  refine Dg rfl ?_
  simp -dsimp only [SE,astep,seval,ra,la,abin]
  refine (g18 _ hxo H).mono ?_
  rintro r H' ⟨⟨b,rfl,hb⟩,rfl⟩
  simp -dsimp only [SE,astep,seval]
  cases b with
  | false=>
   refine Dy rfl rfl ?_
   refine Dg rfl ?_
   simp -dsimp only [SE,astep,seval]
   refine Dm rfl ?_
   exact DR.ret (hret _ rfl)
  | true=>
   refine Dn rfl rfl ?_
   refine Dg rfl ?_
   simp -dsimp only [SE,astep,seval,hw,abin]
   refine Dm rfl ?_
   refine DR.inLoop ?_
   refine ih2 (i+1) (by omega) fun x hx'=> ?_
   rw [List.take_add_one,hx] at hx'
   rcases List.mem_append.mp hx' with h | h
   ·exact hall x h
   ·simp at h; subst h; exact hb rfl
end
theorem TM.purer {u:TM}:AVal.pures [u.row]=true:=by
 have:=TM.pure u
 rw [TM.cells_eq] at this
 simp only [AVal.pures,AVal.pure,Bool.true_and,Bool.and_true] at this ⊢
 exact this
theorem g8 (nl:Bool) (l:List TM) (ok:(TM.of nl l).ok):DCall Tryz.prog 5 [(TM.of nl l).row] AHeap.empty fun r H'=>∃ b,r = .bool b∧(b=true→∀ x ∈ l,TM.kind x):=by
 have hl:=TM.lenT ok AHeap.empty
 obtain ⟨b,hb⟩:=bcmp .gtr .i64 (((TM.of nl l).l.length:Nat):Int) 5 rfl
 have hcl:(TM.of nl l).row.cells=[(TM.of nl l).row]:=by cases nl <;> rfl
 have hz:AVal.agg [.int .i64 0,.int .i64 0,.flt .f64 0,.str ⟨#[]⟩,(TM.of nl l).row]=(TM.of nl l).agg:=rfl
 refine DCall.of_body (fn:=Tryz.f5) (by kernel_rfl) c5 (by kernel_rfl) (by simp [f5]) ?_
 unfold f5
 simp only []
 refine Dg rfl ?_
 simp -dsimp only [SE,astep,seval]
 cases b with
 | true=>
  refine Dg rfl ?_
  simp -dsimp only [SE,astep,seval,hl,hb]
  refine Dy rfl rfl ?_
  refine Dg rfl ?_
  simp -dsimp only [SE,astep,seval]
  refine Dm rfl ?_
  exact DR.ret ⟨_,by simp [aresult,ares,Env.get] <;> rfl,⟨_,rfl,fun h=>by cases h⟩⟩
 | false=>
  refine Dg rfl ?_
  simp -dsimp only [SE,astep,seval,hl,hb,hcl,Env.parts,afill,LZ,aput,List.length_cons,List.length_nil,List.drop_succ_cons,List.drop_zero,List.drop_nil,List.append_nil,List.cons_append,List.nil_append,List.take_succ_cons,List.take_zero]
  rw [hz]
  refine (g17 _ ok _ _ AHeap.empty).mono ?_
  rintro r H' ⟨⟨n,rfl⟩,rfl⟩
  obtain ⟨b2,hb2⟩:=bcmp .lss .i64 n 0 rfl
  simp -dsimp only [SE,astep,seval,hb2]
  cases b2 with
  | true=>
   refine Dy rfl rfl ?_
   refine Dg rfl ?_
   simp -dsimp only [SE,astep,seval]
   refine Dm rfl ?_
   exact DR.ret ⟨_,by simp [aresult,ares,Env.get] <;> rfl,⟨_,rfl,fun h=>by cases h⟩⟩
  | false=>
   refine Dn rfl rfl ?_
   refine Dg rfl ?_
   simp -dsimp only [SE,astep,seval]
   refine Dm rfl ?_
   refine DR.loop ?_
   refine loop8 ok rfl (fun hall=> ?_) (fun T hT=>⟨_,by simp [aresult,ares,hT] <;> rfl,_,rfl,fun h=>by cases h⟩) (TM.of nl l).l.length 0 (by omega) (by simp)
   refine Dg rfl ?_
   simp -dsimp only [SE,astep,seval]
   refine Dm rfl ?_
   exact DR.ret ⟨_,by simp [aresult,ares,Env.get] <;> rfl,⟨_,rfl,fun _=>hall⟩⟩
end Go.Am.Rl
