/- Parts: Z0, F1, V0, V4, V5, V6, V11, V7, V8, V9, V10, V12, V13, V14, V15, V16, V17. -/
import Derived.Test.YtmoimchdhgoeeaaDoorRows
import Derived.Test.YtmoimchdhgoeeaaDoorAmQ
import Derived.Test.YtmoimchdhgoeeaaDoorProg
import Derived.ProofKit
import Derived.LaidMore
import Derived.OpenShut
import Derived.Stop.Joined
import Derived.Test.YtmoimchdhgoeeaaDoorFn2
set_option linter.unusedVariables false
set_option linter.unusedSimpArgs false
set_option maxRecDepth 20000
namespace Go.Proofs.YtmoimchdhgoeeaaDoor
open Go.Am Go.RowKit Go.ChangeShapes Go.WideShapes Go.ChangeAt Go.WideMaps Go.WideElems
theorem own:ownKnob Tryd.prog.godebug=none:=by kernel_rfl
theorem laidOut:laidOutB Tryd.prog=true:=by kernel_rfl
theorem gSpace : Tryd.prog.globalNamed "strings.asciiSpace" = some 1 := by kernel_rfl
theorem gWhite : Tryd.prog.globalNamed "unicode.White_Space" = some 2 := by kernel_rfl
theorem tSpace:(Tryd.prog.globals[1]?).map (·.type)=some 82:=by kernel_rfl
theorem tWhite:(Tryd.prog.globals[2]?).map (·.type)=some 91:=by kernel_rfl
abbrev laid2 : List (String × DataW Unit) := [("unicode.White_Space", Rows.laid_unicode_White_Space), ("strings.asciiSpace", Rows.laid_strings_asciiSpace)]
theorem door_met (os:Os) (args:Array Value):laidMetH Tryd.prog laid2 ((World.doorLaid Tryd.prog 400 os).forCall (fun _ _=>0) ⟨#[],args,[]⟩).memory:=
 laidMetH_of_parts3 (fuel:=8) (laidMet_of_run' 8 (by kernel_rfl) (by kernel_rfl)) (by kernel_rfl) (by kernel_rfl)
theorem dSpace:dcells Tryd.prog 82 (Rows.laid_strings_asciiSpace:DataW Unit)=laidAt 1:=by kernel_rfl
theorem dWhite:dcells Tryd.prog 91 (Rows.laid_unicode_White_Space:DataW Unit)=laidAt 2:=by kernel_rfl
theorem glob_laid (W:World) (h:laidMetH Tryd.prog laid2 W):Glob Tryd.prog W (fun b=>b < W.heap.size):=by
 rw [MakeChecks.laidMetH_plain _ _ _ (by kernel_rfl)] at h
 obtain ⟨ps,⟨g0,t0,cs0,f0,p0,q0,hg0,ht0,hv0,hd0,⟨g1,t1,cs1,f1,p1,q1,hg1,ht1,hv1,hd1,_,_⟩,_⟩,_,_⟩:=h
 obtain rfl:=Option.some.inj (gWhite.symm.trans hg0)
 obtain rfl:=Option.some.inj (gSpace.symm.trans hg1)
 obtain rfl:=Option.some.inj (tWhite.symm.trans ht0)
 obtain rfl:=Option.some.inj (tSpace.symm.trans ht1)
 intro g cs hl
 have hne:cs≠[]:=by
  intro e; subst e
  unfold laidAt at hl
  split at hl
  ·exact absurd hl (by intro e; cases e)
  ·split at hl
   ·exact absurd hl (by intro e; cases e)
   ·cases hl
 have hg:g=1∨g=2:=by
  unfold laidAt at hl
  split at hl
  ·rename_i h; exact .inl h
  ·split at hl
   ·rename_i h; exact .inr h
   ·cases hl
 rcases hg with rfl | rfl
 ·exact glob_of (World.var?_cell hg1 hv1) hd1 (dSpace.trans hl) hne
 ·exact glob_of (World.var?_cell hg0 hv0) hd0 (dWhite.trans hl) hne
end Go.Proofs.YtmoimchdhgoeeaaDoor
namespace Go.Am.Rl
def isNum:Ieee.Datum→Bool
 | .number .. =>true
 | _=>false
def fin (b:Nat):Bool:=isNum (FloatKind.f64.format.read b)
def nanW (b:Nat):Bool:=(FloatKind.f64.format.read b).isNaN
theorem sub_self {b:Nat}:FloatKind.f64.format.sub b b=if fin b=true then some 0 else none:=by
 unfold Ieee.Format.sub fin
 cases h:FloatKind.f64.format.read b with
 | nan s t=>rfl
 | infinity s=>
  show ((Ieee.Datum.infinity s).sum (Ieee.Datum.infinity !s)).map _=none
  cases s <;> rfl
 | number s m i=>
  have hsum:(Ieee.Datum.number s m i).sum (Ieee.Datum.number s m i).opposite=some (.number false 0 i):=by
   simp only [Ieee.Datum.opposite,Ieee.Datum.sum,Int.min_self,Int.sub_self,Int.toNat_zero]
   have:Ieee.signed s m 0+Ieee.signed (!s) m 0=0:=by
    unfold Ieee.signed
    cases s <;> simp <;> omega
   rw [this]
   cases s <;> rfl
  rw [hsum]
  rfl
theorem order_self (b:Nat):(FloatKind.f64.format.order b b != some Ordering.eq)=nanW b:=by
 unfold Ieee.Format.order nanW
 cases h:FloatKind.f64.format.read b with
 | nan s t=>rfl
 | infinity s=>cases s <;> rfl
 | number s m i=>
  simp only [Ieee.Datum.order,Int.min_self,Int.sub_self,Int.toNat_zero]
  have:compare (Ieee.signed s m 0) (Ieee.signed s m 0)=Ordering.eq:=by
   rw [Int.compare_eq_eq]
  rw [this]; rfl
theorem read_low {b:Nat} (h:b < 9223372036854775808):FloatKind.f64.format.read b =
  if b < 4503599627370496 then .number false b (-1074) else if b < 9218868437227405312 then .number false (4503599627370496+b % 4503599627370496) (-1074+(b / 4503599627370496 - 1:Nat)) else if b=9218868437227405312 then .infinity false else .nan false (b - 9218868437227405312):=by
 have hs:FloatKind.f64.format.signWeight=9223372036854775808:=by decide
 have hb:FloatKind.f64.format.binade=4503599627370496:=by decide
 have hi:FloatKind.f64.format.infRung=9218868437227405312:=by decide
 have hl:FloatKind.f64.format.leastPlace = -1074:=by decide
 unfold Ieee.Format.read
 simp only [hs,hb,hi,hl]
 have h1:b % 9223372036854775808=b:=Nat.mod_eq_of_lt h
 have h2:(b / 9223372036854775808 % 2==1)=false:=by rw [Nat.div_eq_of_lt h]; rfl
 rw [h1,h2]
theorem read_mod (b:Nat):fin (b % 9223372036854775808)=fin b∧nanW (b % 9223372036854775808)=nanW b:=by
 have hs:FloatKind.f64.format.signWeight=9223372036854775808:=by decide
 unfold fin nanW Ieee.Format.read
 simp only [hs,Nat.mod_mod]
 constructor
 ·repeat' split
  all_goals rfl
 ·repeat' split
  all_goals rfl
theorem gt_max {b:Nat} (h:b < 9223372036854775808) (hn:nanW b=false):(FloatKind.f64.format.order b 9218868437227405311==some Ordering.gt) = !fin b:=by
 have hm:FloatKind.f64.format.read 9218868437227405311 = .number false 9007199254740991 971:=by decide
 unfold nanW at hn
 unfold Ieee.Format.order fin
 rw [hm,read_low h]
 rw [read_low h] at hn
 split at hn
 ·rename_i h1
  rw [if_pos h1]
  simp only [Ieee.Datum.order,isNum,Bool.not_true]
  have e1:min (-1074:Int) 971 = -1074:=by decide
  rw [e1]
  have:compare (Ieee.signed false b (-1074 - -1074:Int).toNat) (Ieee.signed false 9007199254740991 (971 - -1074:Int).toNat)≠Ordering.gt:=by
   rw [Int.compare_ne_gt]
   simp only [Ieee.signed,Bool.false_eq_true,if_false,Nat.shiftLeft_eq]
   have hp:(1:Nat)≤2 ^ (971 - -1074:Int).toNat:=Nat.one_le_two_pow
   have:b * 2 ^ (-1074 - -1074:Int).toNat=b:=by
    have:(-1074 - -1074:Int).toNat=0:=by decide
    rw [this]; omega
   rw [this]
   have h2:9007199254740991 * 1≤9007199254740991 * 2 ^ (971 - -1074:Int).toNat:=Nat.mul_le_mul_left _ hp
   generalize 9007199254740991 * 2 ^ (971 - -1074:Int).toNat=z at h2 ⊢
   omega
  rw [beq_eq_false_iff_ne]
  intro e
  exact this (Option.some.inj e)
 ·rename_i h1
  rw [if_neg h1]
  split at hn
  ·rename_i h2
   rw [if_pos h2]
   simp only [Ieee.Datum.order,isNum,Bool.not_true]
   have hq:b / 4503599627370496 - 1≤2045:=by omega
   generalize hqq:b / 4503599627370496 - 1=q at hq ⊢
   have e1:min (-1074+(q:Int)) 971 = -1074+(q:Int):=by omega
   rw [e1]
   have:compare (Ieee.signed false (4503599627370496+b % 4503599627370496) (-1074+(q:Int) - (-1074+(q:Int))).toNat) (Ieee.signed false 9007199254740991 (971 - (-1074+(q:Int))).toNat)≠Ordering.gt:=by
    rw [Int.compare_ne_gt]
    simp only [Ieee.signed,Bool.false_eq_true,if_false,Nat.shiftLeft_eq]
    have hp:(1:Nat)≤2 ^ (971 - (-1074+(q:Int))).toNat:=Nat.one_le_two_pow
    have h0:(-1074+(q:Int) - (-1074+(q:Int))).toNat=0:=by omega
    rw [h0]
    have h2:9007199254740991 * 1≤9007199254740991 * 2 ^ (971 - (-1074+(q:Int))).toNat:=Nat.mul_le_mul_left _ hp
    have h3:b % 4503599627370496 < 4503599627370496:=Nat.mod_lt _ (by decide)
    generalize 9007199254740991 * 2 ^ (971 - (-1074+(q:Int))).toNat=z at h2 ⊢
    omega
   rw [beq_eq_false_iff_ne]
   intro e
   exact this (Option.some.inj e)
  ·rename_i h2
   rw [if_neg h2]
   split at hn
   ·rename_i h3
    rw [if_pos h3]; rfl
   ·cases hn
theorem and_not {b:Nat} (h:b < 18446744073709551616):IntKind.u64.wrap ((BitVec.ofInt IntKind.u64.bits (b:Int) &&& ~~~ BitVec.ofInt IntKind.u64.bits 9223372036854775808).toNat:Int)=((b % 9223372036854775808:Nat):Int):=by
 have e:(BitVec.ofInt IntKind.u64.bits (b:Int) &&& ~~~ BitVec.ofInt IntKind.u64.bits 9223372036854775808).toNat=b % 9223372036854775808:=by
  have h1:(~~~ BitVec.ofInt IntKind.u64.bits 9223372036854775808).toNat=2 ^ 63 - 1:=by decide
  rw [BitVec.toNat_and,h1,Nat.and_two_pow_sub_one_eq_mod]
  have h2:(BitVec.ofInt IntKind.u64.bits (b:Int)).toNat=b:=by
   show (BitVec.ofInt 64 (b:Int)).toNat=b
   rw [BitVec.toNat_ofInt]
   omega
  rw [h2]
 rw [e,IntKind.wrap_u64]
 omega
theorem wrap_u64_lt (n:Int):0≤IntKind.u64.wrap n∧IntKind.u64.wrap n < 18446744073709551616:=by
 rw [IntKind.wrap_u64]; omega
end Go.Am.Rl
namespace Go.Am.Rl
open Go.Proofs
def tab:Tab:=[(3,f3),(4,f4),(5,f5),(6,f6),(7,f7),(8,f8),(9,f9),(10,f10),(11,f11),(12,f12),(13,f13),(14,f14),(17,f17),(18,f18),(19,f19),(20,f20),(21,f21),(22,f22),(23,f23),(24,f24),(25,f25),(26,f26),(27,f27),(28,f28),(29,f29),(30,f30),(31,f31),(32,f32),(33,f33),(34,f34),(35,f35),(36,f36),(37,f37),(38,f38),(39,f39),(40,f40),(41,f41),(42,f42),(43,f43),(44,f44),(45,f45),(46,f46),(47,f47),(48,f48),(49,f49),(50,f50),(52,f52),(53,f53),(54,f54),(55,f55),(56,f56),(57,f57),(58,f58),(59,f59),(60,f60),(61,f61),(62,f62),(63,f63),(64,f64),(65,f65),(66,f66),(67,f67),(68,f68),(69,f69),(70,f70),(71,f71),(72,f72),(73,f73),(75,f75),(76,f76),(77,f77)]
theorem tab_ok:tab.Ok Tryd.prog:=⟨⟨Tryd.f3,kof k3,by kernel_rfl,c3,by kernel_rfl⟩,⟨Tryd.f4,kof k4,by kernel_rfl,c4,by kernel_rfl⟩,⟨Tryd.f5,kof k5,by kernel_rfl,c5,by kernel_rfl⟩,⟨Tryd.f6,kof k6,by kernel_rfl,c6,by kernel_rfl⟩,⟨Tryd.f7,kof k7,by kernel_rfl,c7,by kernel_rfl⟩,⟨Tryd.f8,kof k8,by kernel_rfl,c8,by kernel_rfl⟩,⟨Tryd.f9,kof k9,by kernel_rfl,c9,by kernel_rfl⟩,⟨Tryd.f10,kof k10,by kernel_rfl,c10,by kernel_rfl⟩,⟨Tryd.f11,kof k11,by kernel_rfl,c11,by kernel_rfl⟩,⟨Tryd.f12,kof k12,by kernel_rfl,c12,by kernel_rfl⟩,⟨Tryd.f13,kof k13,by kernel_rfl,c13,by kernel_rfl⟩,⟨Tryd.f14,kof k14,by kernel_rfl,c14,by kernel_rfl⟩,⟨Tryd.f17,kof k17,by kernel_rfl,c17,by kernel_rfl⟩,⟨Tryd.f18,kof k18,by kernel_rfl,c18,by kernel_rfl⟩,⟨Tryd.f19,kof k19,by kernel_rfl,c19,by kernel_rfl⟩,⟨Tryd.f20,kof k20,by kernel_rfl,c20,by kernel_rfl⟩,⟨Tryd.f21,kof k21,by kernel_rfl,c21,by kernel_rfl⟩,⟨Tryd.f22,kof k22,by kernel_rfl,c22,by kernel_rfl⟩,⟨Tryd.f23,kof k23,by kernel_rfl,c23,by kernel_rfl⟩,⟨Tryd.f24,kof k24,by kernel_rfl,c24,by kernel_rfl⟩,⟨Tryd.f25,kof k25,by kernel_rfl,c25,by kernel_rfl⟩,⟨Tryd.f26,kof k26,by kernel_rfl,c26,by kernel_rfl⟩,⟨Tryd.f27,kof k27,by kernel_rfl,c27,by kernel_rfl⟩,⟨Tryd.f28,kof k28,by kernel_rfl,c28,by kernel_rfl⟩,⟨Tryd.f29,kof k29,by kernel_rfl,c29,by kernel_rfl⟩,⟨Tryd.f30,kof k30,by kernel_rfl,c30,by kernel_rfl⟩,⟨Tryd.f31,kof k31,by kernel_rfl,c31,by kernel_rfl⟩,⟨Tryd.f32,kof k32,by kernel_rfl,c32,by kernel_rfl⟩,⟨Tryd.f33,kof k33,by kernel_rfl,c33,by kernel_rfl⟩,⟨Tryd.f34,kof k34,by kernel_rfl,c34,by kernel_rfl⟩,⟨Tryd.f35,kof k35,by kernel_rfl,c35,by kernel_rfl⟩,⟨Tryd.f36,kof k36,by kernel_rfl,c36,by kernel_rfl⟩,⟨Tryd.f37,kof k37,by kernel_rfl,c37,by kernel_rfl⟩,⟨Tryd.f38,kof k38,by kernel_rfl,c38,by kernel_rfl⟩,⟨Tryd.f39,kof k39,by kernel_rfl,c39,by kernel_rfl⟩,⟨Tryd.f40,kof k40,by kernel_rfl,c40,by kernel_rfl⟩,⟨Tryd.f41,kof k41,by kernel_rfl,c41,by kernel_rfl⟩,⟨Tryd.f42,kof k42,by kernel_rfl,c42,by kernel_rfl⟩,⟨Tryd.f43,kof k43,by kernel_rfl,c43,by kernel_rfl⟩,⟨Tryd.f44,kof k44,by kernel_rfl,c44,by kernel_rfl⟩,⟨Tryd.f45,kof k45,by kernel_rfl,c45,by kernel_rfl⟩,⟨Tryd.f46,kof k46,by kernel_rfl,c46,by kernel_rfl⟩,⟨Tryd.f47,kof k47,by kernel_rfl,c47,by kernel_rfl⟩,⟨Tryd.f48,kof k48,by kernel_rfl,c48,by kernel_rfl⟩,⟨Tryd.f49,kof k49,by kernel_rfl,c49,by kernel_rfl⟩,⟨Tryd.f50,kof k50,by kernel_rfl,c50,by kernel_rfl⟩,⟨Tryd.f52,kof k52,by kernel_rfl,c52,by kernel_rfl⟩,⟨Tryd.f53,kof k53,by kernel_rfl,c53,by kernel_rfl⟩,⟨Tryd.f54,kof k54,by kernel_rfl,c54,by kernel_rfl⟩,⟨Tryd.f55,kof k55,by kernel_rfl,c55,by kernel_rfl⟩,⟨Tryd.f56,kof k56,by kernel_rfl,c56,by kernel_rfl⟩,⟨Tryd.f57,kof k57,by kernel_rfl,c57,by kernel_rfl⟩,⟨Tryd.f58,kof k58,by kernel_rfl,c58,by kernel_rfl⟩,⟨Tryd.f59,kof k59,by kernel_rfl,c59,by kernel_rfl⟩,⟨Tryd.f60,kof k60,by kernel_rfl,c60,by kernel_rfl⟩,⟨Tryd.f61,kof k61,by kernel_rfl,c61,by kernel_rfl⟩,⟨Tryd.f62,kof k62,by kernel_rfl,c62,by kernel_rfl⟩,⟨Tryd.f63,kof k63,by kernel_rfl,c63,by kernel_rfl⟩,⟨Tryd.f64,kof k64,by kernel_rfl,c64,by kernel_rfl⟩,⟨Tryd.f65,kof k65,by kernel_rfl,c65,by kernel_rfl⟩,⟨Tryd.f66,kof k66,by kernel_rfl,c66,by kernel_rfl⟩,⟨Tryd.f67,kof k67,by kernel_rfl,c67,by kernel_rfl⟩,⟨Tryd.f68,kof k68,by kernel_rfl,c68,by kernel_rfl⟩,⟨Tryd.f69,kof k69,by kernel_rfl,c69,by kernel_rfl⟩,⟨Tryd.f70,kof k70,by kernel_rfl,c70,by kernel_rfl⟩,⟨Tryd.f71,kof k71,by kernel_rfl,c71,by kernel_rfl⟩,⟨Tryd.f72,kof k72,by kernel_rfl,c72,by kernel_rfl⟩,⟨Tryd.f73,kof k73,by kernel_rfl,c73,by kernel_rfl⟩,⟨Tryd.f75,kof k75,by kernel_rfl,c75,by kernel_rfl⟩,⟨Tryd.f76,kof k76,by kernel_rfl,c76,by kernel_rfl⟩,⟨Tryd.f77,kof k77,by kernel_rfl,c77,by kernel_rfl⟩,trivial⟩
theorem mixed:Tryd.prog.follows .mixedOrders=true:=by kernel_rfl
def sz1:TypeId→Nat:=fun _=>1
end Go.Am.Rl
namespace Go.Am.Rl
open Go.Proofs
def isLow (c:Nat):Bool:=decide (97≤c)&&decide (c≤122)
def isUp (c:Nat):Bool:=decide (65≤c)&&decide (c≤90)
def isDig (c:Nat):Bool:=decide (48≤c)&&decide (c≤57)
def isNam (c:Nat):Bool:=isLow c || isUp c || isDig c || decide (c=95) || decide (c=64)
def hexv (c:Nat):Int:=if isDig c=true then (c:Int) - 48 else if (decide (97≤c)&&decide (c≤102))=true then (c:Int) - 87 else -1
def chk (f:Nat) (g:Nat→AVal):Bool:=(List.range 256).all fun c=>match aclosed tab Orc.none 10000 20 sz1 f [.int .u8 (c:Int)] with
 | some v=>AVal.eqb v (g c)
 | none=>false
theorem of_chk {f:Nat} {g:Nat→AVal} (h:chk f g=true) (b:UInt8) (H:AHeap):DCall Tryd.prog f [.int .u8 b.toNat] H fun a H'=>a=g b.toNat∧H'=H:=by
 unfold chk at h
 have:=List.all_eq_true.mp h b.toNat (by rw [List.mem_range]; exact b.toNat_lt)
 split at this
 ·rename_i v hv
  have e:=AVal.eqb_eq _ _ this
  subst e
  exact (aclosed_sound mixed tab_ok (Orc.none_ok _) hv H).dcall
 ·cases this
theorem t32:chk 32 (fun c=>.bool (isLow c))=true:=by kernel_rfl
theorem t33:chk 33 (fun c=>.bool (isUp c))=true:=by kernel_rfl
theorem t34:chk 34 (fun c=>.bool (isDig c))=true:=by kernel_rfl
theorem t39:chk 39 (fun c=>.bool (isNam c))=true:=by kernel_rfl
theorem t57:chk 57 (fun c=>.bool (isNam c))=true:=by kernel_rfl
theorem t52:chk 52 (fun c=>.int .i64 (hexv c))=true:=by kernel_rfl
theorem t22:chk 22 (fun c=>.bool (decide (c≠10)))=true:=by kernel_rfl
end Go.Am.Rl
namespace Go.Am.Rl
open Go.Proofs
theorem idx_at {s:ByteArray} {n:Nat} {b:UInt8} (h:s[n]? = some b):aidxS (.str s) (.int .i64 (n:Int))=some (.int .u8 b.toNat):=by
 simp only [aidxS]
 rw [if_pos (by omega),Int.toNat_natCast,h]; rfl
theorem byte_at {s:ByteArray} {n:Nat} (h:n < s.size):∃ b,s[n]? = some b:=⟨s[n],by simp [h]⟩
theorem byte_none {s:ByteArray} {n:Nat} (h:¬ n < s.size):s[n]? = none:=by simp; omega
def skipW (p:Nat→Bool) (s:ByteArray):Nat→Nat→Nat
 | 0,i=>i
 | n+1,i=>match s[i]? with
  | some b=>if p b.toNat=true then skipW p s n (i+1) else i
  | none=>i
def skip (p:Nat→Bool) (s:ByteArray) (i:Nat):Nat:=skipW p s (s.size - i) i
theorem skipW_le (p:Nat→Bool) (s:ByteArray):∀ n i,i+n≤s.size→i≤skipW p s n i∧skipW p s n i≤s.size
 | 0,i,h=>⟨Nat.le_refl _,by simpa [skipW] using h⟩
 | n+1,i,h=>by
  simp only [skipW]
  split
  ·split
   ·have:=skipW_le p s n (i+1) (by omega); omega
   ·omega
  ·omega
theorem skip_le {p:Nat→Bool} {s:ByteArray} {i:Nat} (h:i≤s.size):i≤skip p s i∧skip p s i≤s.size:=skipW_le p s _ _ (by omega)
def scanCells (s:ByteArray) (i:Int) (e:Int):List AVal:=[.str s,.int .i64 i,.int .i64 e]
section
variable {H:AHeap} {r:Nat} {s:ByteArray} {a0 e0:Int} {p:Nat→Bool} {f:Nat} {k k':List AItem} {Q:Env→AHeap→Prop}
theorem loop21 (hb:H.get r=some (.cells 50 (scanCells s a0 e0))) (hf:∀ (b:UInt8) (H:AHeap),DCall Tryd.prog f [.int .u8 b.toNat] H fun a H'=>a = .bool (p b.toNat)∧H'=H) (hsz:s.size < 4611686018427387904) (hk:aexitTo 0 k=some k') :
  ∀ (d i:Nat),s.size - i=d→DR Tryd.prog (kof k21) 27 k' [(0,.ptr r 0),(1,.int .i64 (skipW p s d i:Nat)),(2,.fn (.func f) [] [])] H Q→
   DR Tryd.prog (kof k21) 27 (.code l21_0::.inLoop l21_0::k) [(0,.ptr r 0),(1,.int .i64 (i:Nat)),(2,.fn (.func f) [] [])] H Q:=by
 have l0:=load_cell hb (o:=0) (v:=.str s) rfl
 have hl:alenT H 0 (.str s)=some s.size:=rfl
 intro d
 induction d with
 | zero=>
  intro i hi hend
  have hc:decide ((i:Int) < (s.size:Int))=false:=by simp; omega
  refine Dg rfl ?_
  simp -dsimp only [SE,astep,seval,rowq,l0,hl,hc,abin]
  refine Dn rfl rfl ?_
  refine DR.exit (k':=k') (by simpa [aexitTo] using hk) ?_
  exact DR.only [0,1,2] hend
 | succ d ih=>
  intro i hi hend
  have hlt:i < s.size:=by omega
  have hc:decide ((i:Int) < (s.size:Int))=true:=by simp; omega
  obtain ⟨b,hbt⟩:=byte_at hlt
  have hx:=idx_at hbt
  refine Dg rfl ?_
  simp -dsimp only [SE,astep,seval,rowq,l0,hl,hc,abin,hx,List.nil_append,List.append_nil]
  refine (hf b H).mono ?_
  rintro a H1 ⟨rfl,rfl⟩
  simp -dsimp only [SE,astep,seval,rowq]
  simp only [skipW,hbt] at hend
  cases hp:p b.toNat with
  | true=>
   rw [hp,if_pos rfl] at hend
   refine Dy rfl rfl ?_
   have hw:IntKind.i64.wrap ((i:Int)+1)=((i+1:Nat):Int):=wrap64 (n:=i+1) (by omega)
   refine Dg rfl ?_
   simp -dsimp only [SE,astep,seval,rowq,abin,hw]
   refine Dm rfl ?_
   refine DR.inLoop ?_
   exact ih (i+1) (by omega) hend
  | false=>
   rw [hp] at hend
   refine Dn rfl rfl ?_
   refine DR.exit (k':=k') (by simpa [aexitTo] using hk) ?_
   exact DR.only [0,1,2] hend
end
theorem g21 {H:AHeap} {r:Nat} {s:ByteArray} {a0 e0:Int} {p:Nat→Bool} {f:Nat} (hb:H.get r=some (.cells 50 (scanCells s a0 e0))) (hf:∀ (b:UInt8) (H:AHeap),DCall Tryd.prog f [.int .u8 b.toNat] H fun a H'=>a = .bool (p b.toNat)∧H'=H) (hsz:s.size < 4611686018427387904) (i:Nat) :
  DCall Tryd.prog 21 [.ptr r 0,.int .i64 (i:Nat),.fn (.func f) [] []] H fun a H'=>H'=H∧a = .int .i64 (skip p s i:Nat):=by
 refine DCall.of_body (fn:=Tryd.f21) (by kernel_rfl) c21 (by kernel_rfl) (by simp [f21]) ?_
 unfold f21
 simp only []
 refine Dg rfl ?_
 simp -dsimp only [SE,astep,seval,rowq]
 refine Dm rfl ?_
 refine DR.loop ?_
 refine loop21 hb hf hsz rfl (s.size - i) i rfl ?_
 refine Dg rfl ?_
 simp -dsimp only [SE,astep,seval,rowq]
 refine Dm rfl ?_
 exact DR.ret ⟨_,by simp [aresult,ares,Env.get] <;> rfl,rfl,rfl⟩
section
variable {H:AHeap} {s:ByteArray} {k k':List AItem} {Q:Env→AHeap→Prop}
end
end Go.Am.Rl
namespace Go.Am.Rl
open Go.Proofs
def blank (c:Nat):Bool:=((c:Int)==9) || ((c:Int)==10) || ((c:Int)==13) || ((c:Int)==32)
def noLine (c:Nat):Bool:=decide (c≠10)
def passW (s:ByteArray):Nat→Nat→Nat
 | 0,i=>i
 | n+1,i=>match s[i]? with
  | some b=>if ((b.toNat:Int)==37)=true then passW s n (skip noLine s i) else if blank b.toNat=true then passW s n (i+1) else i
  | none=>i
def pass (s:ByteArray) (i:Nat):Nat:=passW s (s.size - i) i
theorem skip_next {p:Nat→Bool} {s:ByteArray} {i:Nat} {b:UInt8} (h:s[i]? = some b) (hp:p b.toNat=true):i+1≤skip p s i:=by
 have hlt:i < s.size:=by
  rcases Nat.lt_or_ge i s.size with h1 | h1
  ·exact h1
  ·rw [byte_none (by omega)] at h; cases h
 unfold skip
 obtain ⟨n,hn⟩:∃ n,s.size - i=n+1:=⟨s.size - i - 1,by omega⟩
 rw [hn]
 simp only [skipW,h,hp,if_true]
 exact (skipW_le p s n (i+1) (by omega)).1
theorem passW_le (s:ByteArray):∀ n i,i≤s.size→i≤passW s n i∧passW s n i≤s.size
 | 0,i,h=>⟨Nat.le_refl _,h⟩
 | n+1,i,h=>by
  simp only [passW]
  split
  ·rename_i b hb
   have hlt:i < s.size:=by
    rcases Nat.lt_or_ge i s.size with h1 | h1
    ·exact h1
    ·rw [byte_none (by omega)] at hb; cases hb
   split
   ·have h1:=skip_le (p:=noLine) h
    have:=passW_le s n (skip noLine s i) h1.2; omega
   ·split
    ·have:=passW_le s n (i+1) (by omega); omega
    ·omega
  ·omega
theorem pass_le {s:ByteArray} {i:Nat} (h:i≤s.size):i≤pass s i∧pass s i≤s.size:=passW_le s _ _ h
theorem passW_more (s:ByteArray):∀ n m i,s.size - i≤n→s.size - i≤m→passW s n i=passW s m i
 | 0,0,i,_,_=>rfl
 | 0,m+1,i,h,_=>by simp only [passW,byte_none (show ¬ i < s.size by omega)]
 | n+1,0,i,_,h=>by simp only [passW,byte_none (show ¬ i < s.size by omega)]
 | n+1,m+1,i,h1,h2=>by
  simp only [passW]
  split
  ·rename_i b hb
   split
   ·rename_i hc
    have:noLine b.toNat=true:=by
     unfold noLine
     have:=eq_of_beq hc
     simp; omega
    have hs:=skip_next hb this
    exact passW_more s n m _ (by omega) (by omega)
   ·split
    ·exact passW_more s n m _ (by omega) (by omega)
    ·rfl
  ·rfl
section
variable {H:AHeap} {s:ByteArray} {k k':List AItem} {Q:Env→AHeap→Prop}
end
end Go.Am.Rl
namespace Go.Am.Rl
open Go.Proofs
theorem g71 {H:AHeap} (b:Nat):DCall Tryd.prog 71 [.flt .f64 b] H fun a H'=>H'=H∧a = .bool (nanW b):=by
 refine DCall.of_body (fn:=Tryd.f71) (by kernel_rfl) c71 (by kernel_rfl) (by simp [f71]) ?_
 unfold f71
 simp only []
 refine Dg rfl ?_
 simp -dsimp only [SE,astep,seval,rowq]
 refine Dg rfl ?_
 simp -dsimp only [SE,astep,seval,rowq,abin,order_self]
 refine Dm rfl ?_
 exact DR.ret ⟨_,by simp [aresult,ares,Env.get] <;> rfl,rfl,rfl⟩
theorem g75 {H:AHeap} {b:Nat} (hb:b < 18446744073709551616):DCall Tryd.prog 75 [.flt .f64 b] H fun a H'=>H'=H∧a = .flt .f64 (b % 9223372036854775808):=by
 refine DCall.of_body (fn:=Tryd.f75) (by kernel_rfl) c75 (by kernel_rfl) (by simp [f75]) ?_
 unfold f75
 simp only []
 refine Dg rfl ?_
 simp -dsimp only [SE,astep,seval,rowq]
 refine Dg rfl ?_
 simp -dsimp only [SE,astep,seval,rowq,Env.vals,aext,aext0,aext1,abin,and_not hb,Int.toNat_natCast]
 refine Dm rfl ?_
 exact DR.ret ⟨_,by simp [aresult,ares,Env.get] <;> rfl,rfl,rfl⟩
theorem g72 {H:AHeap} {b:Nat} (hb:b < 18446744073709551616) (hn:nanW b=false):DCall Tryd.prog 72 [.flt .f64 b,.int .i64 0] H fun a H'=>H'=H∧a = .bool (!fin b):=by
 refine DCall.of_body (fn:=Tryd.f72) (by kernel_rfl) c72 (by kernel_rfl) (by simp [f72]) ?_
 unfold f72
 simp only []
 have hlt:b % 9223372036854775808 < 9223372036854775808:=Nat.mod_lt _ (by decide)
 have hg:=gt_max hlt (by rw [(read_mod b).2]; exact hn)
 rw [(read_mod b).1] at hg
 refine Dg rfl ?_
 simp -dsimp only [SE,astep,seval,rowq]
 refine Dg rfl ?_
 simp -dsimp only [SE,astep,seval,rowq,abin]
 refine Dy rfl rfl ?_
 refine Dg rfl ?_
 simp -dsimp only [SE,astep,seval,rowq]
 refine (g75 (H:=H) hb).mono ?_
 rintro a H1 ⟨rfl,rfl⟩
 simp -dsimp only [SE,astep,seval,rowq]
 refine Dg rfl ?_
 simp -dsimp only [SE,astep,seval,rowq,abin,hg]
 refine Dm rfl ?_
 exact DR.ret ⟨_,by simp [aresult,ares,Env.get] <;> rfl,rfl,rfl⟩
def floatTerm (b:Nat):AVal:=.agg [.int .i64 2,.int .i64 0,.flt .f64 b,.str ⟨#[]⟩,.nils]
def noTerm:AVal:=.agg [.int .i64 0,.int .i64 0,.flt .f64 0,.str ⟨#[]⟩,.nils]
theorem g64' {H:AHeap} {b:Nat} (hb:b < 18446744073709551616):DCall Tryd.prog 64 [.flt .f64 b] H fun a H'=>a=if fin b=true then .tup [floatTerm b,.int .i64 0] else .tup [noTerm,.int .i64 11]:=by
 refine DCall.of_body (fn:=Tryd.f64) (by kernel_rfl) c64 (by kernel_rfl) (by simp [f64]) ?_
 unfold f64
 simp only []
 obtain ⟨H1,hH1⟩:∃ H1,H1=H.push (.cells 44 [.int .i64 0,.int .i64 0,.flt .f64 0,.str ⟨#[]⟩,.nils]):=⟨_,rfl⟩
 have g1:H1.get H.next=some (.cells 44 [.int .i64 0,.int .i64 0,.flt .f64 0,.str ⟨#[]⟩,.nils]):=by rw [hH1,AHeap.get_push,if_pos rfl]
 have no:=store_all (n:=5) g1 (new:=[.int .i64 0,.int .i64 0,.flt .f64 0,.str ⟨#[]⟩,.nils]) rfl rfl rfl
 have yes:=store_all (n:=5) g1 (new:=[.int .i64 2,.int .i64 0,.flt .f64 b,.str ⟨#[]⟩,.nils]) rfl rfl rfl
 have get:∀ cs:List AVal,(H1.set H.next (.cells 44 cs)).get H.next=some (.cells 44 cs):=fun cs=>by rw [AHeap.get_set,if_pos rfl,if_pos (AHeap.get_lt g1)]
 refine Dg rfl ?_
 simp -dsimp only [SE,astep,seval,rowq,← hH1]
 have hfn:nanW b=true→fin b=false:=by
  unfold nanW fin
  cases FloatKind.f64.format.read b <;> simp [Ieee.Datum.isNaN,isNum]
 refine Dg rfl ?_
 simp -dsimp only [SE,astep,seval,rowq]
 refine (g71 (H:=H1) b).mono ?_
 rintro a H2 ⟨rfl,rfl⟩
 simp -dsimp only [SE,astep,seval,rowq]
 cases hn:nanW b with
 | true=>
  rw [hfn hn,if_neg (by simp)]
  simp -dsimp only [SE,astep,seval,rowq,hn]
  refine Dy rfl rfl ?_
  refine Dg rfl ?_
  simp -dsimp only [SE,astep,seval,rowq,Env.parts,afill,no]
  have hld:=load_all (n:=5) (get [.int .i64 0,.int .i64 0,.flt .f64 0,.str ⟨#[]⟩,.nils]) rfl
  refine Dm rfl ?_
  refine DR.ret ?_
  exact ⟨_,by simp [aresult,ares,Env.get,hld] <;> rfl,rfl⟩
 | false=>
  simp -dsimp only [SE,astep,seval,rowq,hn]
  refine (g72 (H:=H2) hb hn).mono ?_
  rintro a H3 ⟨rfl,rfl⟩
  simp -dsimp only [SE,astep,seval,rowq]
  cases hf:fin b with
  | false=>
   rw [if_neg (by simp)]
   simp -dsimp only [SE,astep,seval,rowq,hf]
   refine Dy rfl rfl ?_
   refine Dg rfl ?_
   simp -dsimp only [SE,astep,seval,rowq,Env.parts,afill,no]
   have hld:=load_all (n:=5) (get [.int .i64 0,.int .i64 0,.flt .f64 0,.str ⟨#[]⟩,.nils]) rfl
   refine Dm rfl ?_
   refine DR.ret ?_
   exact ⟨_,by simp [aresult,ares,Env.get,hld] <;> rfl,rfl⟩
  | true=>
   rw [if_pos rfl]
   simp -dsimp only [SE,astep,seval,rowq,hf]
   refine Dn rfl rfl ?_
   refine Dg rfl ?_
   simp -dsimp only [SE,astep,seval,rowq,Env.parts,afill,AVal.cells,LZ,yes]
   have hld:=load_all (n:=5) (get [.int .i64 2,.int .i64 0,.flt .f64 b,.str ⟨#[]⟩,.nils]) rfl
   refine Dm rfl ?_
   refine DR.ret ?_
   exact ⟨_,by simp [aresult,ares,Env.get,hld] <;> rfl,rfl⟩
def bitsVal (b:Nat):AVal:=if fin b=true then .tup [floatTerm b,.int .i64 0] else .tup [noTerm,.int .i64 11]
theorem g64 (H:AHeap) {b:Nat} (hb:b < 18446744073709551616):DCall Tryd.prog 64 [.flt .f64 b] H fun a H'=>a=bitsVal b∧H'=H:=
 DCall.closed (sz:=sz1) rfl (g64' (H:=AHeap.empty) hb) (fun r H1 hr=>⟨3,r,by subst hr; cases fin b <;> rfl,hr⟩) H
theorem g53' {H:AHeap} {u:Int} (h0:0≤u) (h1:u < 18446744073709551616):DCall Tryd.prog 53 [.int .u64 u] H fun a H'=>a=bitsVal u.toNat:=by
 refine DCall.of_body (fn:=Tryd.f53) (by kernel_rfl) c53 (by kernel_rfl) (by simp [f53]) ?_
 unfold f53
 simp only []
 obtain ⟨H1,hH1⟩:∃ H1,H1=H.push (.cells 44 [.int .i64 0,.int .i64 0,.flt .f64 0,.str ⟨#[]⟩,.nils]):=⟨_,rfl⟩
 have g1:H1.get H.next=some (.cells 44 [.int .i64 0,.int .i64 0,.flt .f64 0,.str ⟨#[]⟩,.nils]):=by rw [hH1,AHeap.get_push,if_pos rfl]
 have get:∀ cs:List AVal,(H1.set H.next (.cells 44 cs)).get H.next=some (.cells 44 cs):=fun cs=>by rw [AHeap.get_set,if_pos rfl,if_pos (AHeap.get_lt g1)]
 have hub:u.toNat < 18446744073709551616:=by omega
 refine Dg rfl ?_
 simp -dsimp only [SE,astep,seval,rowq,← hH1]
 refine Dg rfl ?_
 simp -dsimp only [SE,astep,seval,rowq,Env.vals,aext,aext1]
 refine (g64 H1 hub).mono ?_
 rintro a H2 ⟨rfl,rfl⟩
 simp -dsimp only [SE,astep,seval,rowq]
 unfold bitsVal
 cases hf:fin u.toNat with
 | true=>
  rw [if_pos rfl]
  have st:=store_all (n:=5) g1 (new:=[.int .i64 2,.int .i64 0,.flt .f64 u.toNat,.str ⟨#[]⟩,.nils]) rfl rfl rfl
  simp -dsimp only [SE,astep,seval,rowq,floatTerm,st]
  have hld:=load_all (n:=5) (get [.int .i64 2,.int .i64 0,.flt .f64 u.toNat,.str ⟨#[]⟩,.nils]) rfl
  refine Dm rfl ?_
  refine DR.ret ?_
  exact ⟨_,by simp [aresult,ares,Env.get,hld] <;> rfl,rfl⟩
 | false=>
  rw [if_neg (by simp)]
  have st:=store_all (n:=5) g1 (new:=[.int .i64 0,.int .i64 0,.flt .f64 0,.str ⟨#[]⟩,.nils]) rfl rfl rfl
  simp -dsimp only [SE,astep,seval,rowq,noTerm,st]
  have hld:=load_all (n:=5) (get [.int .i64 0,.int .i64 0,.flt .f64 0,.str ⟨#[]⟩,.nils]) rfl
  refine Dm rfl ?_
  refine DR.ret ?_
  exact ⟨_,by simp [aresult,ares,Env.get,hld] <;> rfl,rfl⟩
theorem g53 (H:AHeap) {u:Int} (h0:0≤u) (h1:u < 18446744073709551616):DCall Tryd.prog 53 [.int .u64 u] H fun a H'=>a=bitsVal u.toNat∧H'=H:=
 DCall.closed (sz:=sz1) rfl (g53' (H:=AHeap.empty) h0 h1) (fun r H1 hr=>⟨3,r,by subst hr; unfold bitsVal; cases fin u.toNat <;> rfl,hr⟩) H
end Go.Am.Rl
namespace Go.Am.Rl
open Go.Proofs
def signs:List ByteArray:=[⟨#[61,58,61]⟩,⟨#[61,47,61]⟩,⟨#[45,62]⟩,⟨#[61,61]⟩,⟨#[47,61]⟩,⟨#[61,60]⟩,⟨#[62,61]⟩,⟨#[43,43]⟩,⟨#[40]⟩,⟨#[41]⟩,⟨#[123]⟩,⟨#[125]⟩,⟨#[91]⟩,⟨#[93]⟩,⟨#[44]⟩,⟨#[59]⟩,⟨#[46]⟩,⟨#[124]⟩,⟨#[61]⟩,⟨#[60]⟩,⟨#[62]⟩,⟨#[43]⟩,⟨#[45]⟩,⟨#[42]⟩,⟨#[47]⟩,⟨#[33]⟩,⟨#[58]⟩]
def stands (s:ByteArray) (i:Nat) (g:ByteArray):Bool:=decide (i+g.size≤s.size)&&((s.extract i (i+g.size)).toList==g.toList)
def signIn (s:ByteArray) (i:Nat):List ByteArray→ByteArray
 | []=>⟨#[]⟩
 | g::r=>if stands s i g=true then g else signIn s i r
def signAt (s:ByteArray) (i:Nat):ByteArray:=signIn s i signs
theorem fields0:aclosed tab Orc.none 1000000 100 sz1 55 [.str ⟨#[61,58,61,32,61,47,61,32,45,62,32,61,61,32,47,61,32,61,60,32,62,61,32,43,43,32,40,32,41,32,123,32,125,32,91,32,93,32,44,32,59,32,46,32,124,32,61,32,60,32,62,32,43,32,45,32,42,32,47,32,33,32,58]⟩]=some (.ros (signs.map .str) 27):=by kernel_rfl
theorem g55 (H:AHeap):DCall Tryd.prog 55 [.str ⟨#[61,58,61,32,61,47,61,32,45,62,32,61,61,32,47,61,32,61,60,32,62,61,32,43,43,32,40,32,41,32,123,32,125,32,91,32,93,32,44,32,59,32,46,32,124,32,61,32,60,32,62,32,43,32,45,32,42,32,47,32,33,32,58]⟩] H fun a H'=>a = .ros (signs.map .str) 27∧H'=H:=(aclosed_sound mixed tab_ok (Orc.none_ok _) fields0 H).dcall
theorem bound_some {T:Env} {o:AOpnd} {n top d:Nat} (h:T.val o=some (.int .i64 (n:Nat))) (hn:n≤top):abound T d top (some o)=some n:=by
 simp only [abound,h]
 rw [if_pos (by omega)]; simp
theorem slc_lo {T:Env} {o:AOpnd} {x:ByteArray} {n:Nat} (h:T.val o=some (.int .i64 (n:Nat))) (hn:n≤x.size):aslcS T (.str x) (some o) none=some (.str (x.extract n x.size)):=by
 simp only [aslcS,abound,bound_some h hn,Option.bind_eq_bind,Option.bind_some]
 have:=bound_some (d:=0) h hn
 simp only [abound] at this
 rw [this]; rfl
theorem slc_hi {T:Env} {o:AOpnd} {x:ByteArray} {n:Nat} (h:T.val o=some (.int .i64 (n:Nat))) (hn:n≤x.size):aslcS T (.str x) none (some o)=some (.str (x.extract 0 n)):=by
 have:=bound_some (d:=x.size) h hn
 simp only [aslcS,this,Option.bind_eq_bind,Option.bind_some]; rfl
theorem slc_both {T:Env} {o1 o2:AOpnd} {x:ByteArray} {n m:Nat} (h1:T.val o1=some (.int .i64 (n:Nat))) (h2:T.val o2=some (.int .i64 (m:Nat))) (hn:n≤m) (hm:m≤x.size):aslcS T (.str x) (some o1) (some o2)=some (.str (x.extract n m)):=by
 have e2:=bound_some (d:=x.size) h2 hm
 have e1:=bound_some (d:=0) h1 hn
 simp only [aslcS,e2,Option.bind_eq_bind,Option.bind_some,e1]
def pre (x g:ByteArray):Bool:=decide (g.size≤x.size)&&((x.extract 0 g.size).toList==g.toList)
theorem pre_rest {s g:ByteArray} {i:Nat} (hi:i≤s.size):pre (s.extract i s.size) g=stands s i g:=by
 unfold pre stands
 rw [ByteArray.size_extract,ByteArray.extract_extract,Nat.min_self]
 by_cases h:i+g.size≤s.size
 ·rw [decide_eq_true h,decide_eq_true (show g.size≤s.size - i by omega),Nat.add_zero,Nat.min_eq_left h]
 ·rw [decide_eq_false h,decide_eq_false (show ¬ g.size≤s.size - i by omega)]; rfl
theorem g67 {H:AHeap} (x g:ByteArray):DCall Tryd.prog 67 [.str x,.str g] H fun a H'=>H'=H∧a = .bool (pre x g):=by
 refine DCall.of_body (fn:=Tryd.f67) (by kernel_rfl) c67 (by kernel_rfl) (by simp [f67]) ?_
 unfold f67
 simp only []
 have hx:alenT H 0 (.str x)=some x.size:=rfl
 have hg:alenT H 0 (.str g)=some g.size:=rfl
 refine Dg rfl ?_
 simp -dsimp only [SE,astep,seval,rowq]
 unfold pre
 by_cases h:g.size≤x.size
 ·have hd:decide ((x.size:Int) ≥ (g.size:Int))=true:=by simp; omega
  have hsl:∀ T:Env,T.get 13=some (.int .i64 (g.size:Nat))→aslcS T (.str x) none (some (.t 13))=some (.str (x.extract 0 g.size)):=fun T hT=>slc_hi hT h
  rw [decide_eq_true h,Bool.true_and]
  refine Dm rfl ?_
  refine DR.ops ?_
  simp -dsimp only [SE,astep,seval,rowq,Bool.true_beq,Bool.false_beq,hx,hg,abin,hd]
  rw [hsl _ rfl]
  simp -dsimp only [SE,astep,seval,rowq,abin]
  refine Dm rfl ?_
  exact DR.ret ⟨_,by simp [aresult,ares,Env.get] <;> rfl,rfl,rfl⟩
 ·have hd:decide ((x.size:Int) ≥ (g.size:Int))=false:=by simp; omega
  rw [decide_eq_false h,Bool.false_and]
  refine Dg rfl ?_
  simp -dsimp only [SE,astep,seval,rowq,hx,hg,abin,hd]
  refine Dm rfl ?_
  exact DR.ret ⟨_,by simp [aresult,ares,Env.get] <;> rfl,rfl,rfl⟩
theorem g56 {H:AHeap} (x g:ByteArray):DCall Tryd.prog 56 [.str x,.str g] H fun a H'=>H'=H∧a = .bool (pre x g):=by
 refine DCall.of_body (fn:=Tryd.f56) (by kernel_rfl) c56 (by kernel_rfl) (by simp [f56]) ?_
 unfold f56
 simp only []
 refine Dg rfl ?_
 simp -dsimp only [SE,astep,seval,rowq]
 refine Dg rfl ?_
 simp -dsimp only [SE,astep,seval,rowq]
 refine (g67 x g).mono ?_
 rintro a H1 ⟨rfl,rfl⟩
 simp -dsimp only [SE,astep,seval,rowq]
 refine Dm rfl ?_
 exact DR.ret ⟨_,by simp [aresult,ares,Env.get] <;> rfl,rfl,rfl⟩
theorem sign_cell {j:Nat} {g:ByteArray} (h:signs[j]? = some g) (H:AHeap):aiaddr H 1 (.ros (signs.map .str) 27) (.int .i64 (j:Nat))=some (.rop ((signs.map AVal.str).drop j))∧aload H none (.rop ((signs.map AVal.str).drop j))=some (.str g):=by
 have hj:j < 27:=(List.getElem?_eq_some_iff.mp h).1
 refine ⟨?_,?_⟩
 ·simp only [aiaddr]
  rw [if_pos ⟨by omega,by omega,by decide⟩]; simp
 ·have hl:j < (signs.map AVal.str).length:=by simpa [signs] using hj
  rw [List.drop_eq_getElem_cons hl]
  have:(signs.map AVal.str)[j] = .str g:=by
   have h2:(signs.map AVal.str)[j]? = some (.str g):=by simp [h]
   rw [List.getElem?_eq_getElem hl] at h2
   exact Option.some.inj h2
  rw [this]; rfl
section
variable {H:AHeap} {s:ByteArray} {i:Nat} {k k':List AItem} {Q:Env→AHeap→Prop}
theorem loop38 (hi:i≤s.size) (hk:aexitTo 0 k=some k')
  (hout:signIn s i []=signAt s i→DR Tryd.prog (kof k38) 26 k' [] H Q) (hq:Q [(2,.str (signAt s i))] H) :
  ∀ (l:List ByteArray) (j:Nat),signs.drop j=l→signIn s i l=signAt s i→
   DR Tryd.prog (kof k38) 26 (.code l38_0::.inLoop l38_0::k) [(3,.str (s.extract i s.size)),(15,.ros (signs.map .str) 27),(16,.int .i64 27),(17,.int .i64 (j:Nat))] H Q:=by
 intro l
 induction l with
 | nil=>
  intro j hj hs
  have hjl:27≤j:=by
   have:=List.drop_eq_nil_iff.mp hj
   simpa [signs] using this
  have hc:decide ((j:Int) < 27)=false:=by simp; omega
  refine Dg rfl ?_
  simp -dsimp only [SE,astep,seval,rowq,abin,hc]
  refine Dn rfl rfl ?_
  refine DR.exit (k':=k') (by simpa [aexitTo] using hk) ?_
  exact DR.only [] (hout hs)
 | cons g r ih=>
  intro j hj hs
  have hg:signs[j]? = some g:=by
   have:=congrArg (fun l=>l[0]?) hj
   simpa using this
  have hjl:j < 27:=(List.getElem?_eq_some_iff.mp hg).1
  have hr:signs.drop (j+1)=r:=by
   have:=congrArg (fun l=>l.drop 1) hj
   simpa [List.drop_drop,Nat.add_comm] using this
  have hc:decide ((j:Int) < 27)=true:=by simp; omega
  obtain ⟨h1,h2⟩:=sign_cell hg H
  refine Dg rfl ?_
  simp -dsimp only [SE,astep,seval,rowq,abin,hc]
  refine Dy rfl rfl ?_
  refine Dg rfl ?_
  simp -dsimp only [SE,astep,seval,rowq,h1,h2]
  refine Dg rfl ?_
  simp -dsimp only [SE,astep,seval,rowq]
  refine (g56 (s.extract i s.size) g).mono ?_
  rintro a H1 ⟨rfl,rfl⟩
  simp -dsimp only [SE,astep,seval,rowq]
  rw [pre_rest hi]
  simp only [signIn] at hs
  cases hst:stands s i g with
  | true=>
   rw [hst,if_pos rfl] at hs
   subst hs
   refine Dy rfl rfl ?_
   refine Dg rfl ?_
   simp -dsimp only [SE,astep,seval,rowq]
   exact DR.ret hq
  | false=>
   rw [hst] at hs
   simp only [Bool.false_eq_true,if_false] at hs
   refine Dn rfl rfl ?_
   have hw:IntKind.i64.wrap ((j:Int)+1)=((j+1:Nat):Int):=wrap64 (n:=j+1) (by omega)
   refine Dg rfl ?_
   simp -dsimp only [SE,astep,seval,rowq,abin,hw]
   refine Dm rfl ?_
   refine DR.inLoop ?_
   exact ih (j+1) hr hs
end
theorem g38 {H:AHeap} {r:Nat} {s:ByteArray} {i:Nat} {e0:Int} (hb:H.get r=some (.cells 50 (scanCells s (i:Nat) e0))) (hi:i≤s.size) :
  DCall Tryd.prog 38 [.ptr r 0] H fun a H'=>H'=H∧a = .str (signAt s i):=by
 refine DCall.of_body (fn:=Tryd.f38) (by kernel_rfl) c38 (by kernel_rfl) (by simp [f38]) ?_
 unfold f38
 simp only []
 have l0:=load_cell hb (o:=0) (v:=.str s) rfl
 have l1:=load_cell hb (o:=1) (v:=.int .i64 (i:Nat)) rfl
 have hsl:∀ T:Env,T.get 13=some (.int .i64 (i:Nat))→aslcS T (.str s) (some (.t 13)) none=some (.str (s.extract i s.size)):=fun T hT=>slc_lo hT hi
 refine Dg rfl ?_
 simp -dsimp only [SE,astep,seval,rowq]
 refine Dm rfl ?_
 refine DR.draw (by kernel_rfl) d38_1 ?_
 simp -dsimp only [m38_1,SE,astep,seval,rowq,DS_nil,DS_cons,seesAll,staysAll,abit,List.getD_cons_zero,List.getD_cons_succ,AOp.quiet,AOp.reads,true_and,and_true,decide_true,decide_false,and_self,l0,l1]
 rw [hsl _ rfl]
 simp -dsimp only [SE,astep,seval,rowq]
 have hros:∀ H,alenT H 1 (.ros (signs.map .str) 27)=some 27:=fun _=>rfl
 refine Dg rfl ?_
 simp -dsimp only [SE,astep,seval,rowq]
 refine (g55 H).mono ?_
 rintro a H1 ⟨rfl,rfl⟩
 simp -dsimp only [SE,astep,seval,rowq]
 simp -dsimp only [SE,astep,seval,rowq,hros]
 refine Dm rfl ?_
 refine DR.loop ?_
 refine loop38 hi rfl ?_ ?_ signs 0 rfl rfl
 ·intro hs
  refine Dg rfl ?_
  simp -dsimp only [SE,astep,seval,rowq]
  refine Dm rfl ?_
  exact DR.ret ⟨_,by simp [aresult,ares,Env.get] <;> rfl,rfl,by rw [← hs]; rfl⟩
 ·exact ⟨_,by simp [aresult,ares,Env.get] <;> rfl,rfl,rfl⟩
section
variable {H:AHeap} {s:ByteArray} {i b:Nat} {k k':List AItem} {Q:Env→AHeap→Prop}
end
end Go.Am.Rl
namespace Go.Am.Rl
open Go.Proofs
def hexByte (a b:Int):Int:=IntKind.u8.wrap (IntKind.i64.wrap (IntKind.i64.wrap (16 * a)+b))
def esc (s:ByteArray) (i:Nat):Option (Int × Nat):=
 match s[i+1]? with
 | none=>none
 | some c=>
  if (((c.toNat:Int)==92) || ((c.toNat:Int)==39) || ((c.toNat:Int)==34))=true then some ((c.toNat:Int),2)
  else if ((c.toNat:Int)==110)=true then some (10,2)
  else if ((c.toNat:Int)==116)=true then some (9,2)
  else if ((c.toNat:Int)==120)=true then
   match s[i+2]?,s[i+3]? with
   | some x,some y=>if (decide (hexv x.toNat ≥ 0)&&decide (hexv y.toNat ≥ 0))=true then some (hexByte (hexv x.toNat) (hexv y.toNat),4) else none
   | _,_=>none
  else none
theorem rest_at {s:ByteArray} {i:Nat} (hi:i≤s.size) (j:Nat):(s.extract i s.size)[j]? = s[i+j]? :=by
 have hsz:(s.extract i s.size).size=s.size - i:=by rw [ByteArray.size_extract,Nat.min_self]
 by_cases h:i+j < s.size
 ·rw [getElem?_pos (s.extract i s.size) j (by omega),getElem?_pos s (i+j) h,ByteArray.getElem_extract]
 ·rw [byte_none (by omega),byte_none h]
theorem esc_rest {s:ByteArray} {i:Nat} (hi:i≤s.size):esc (s.extract i s.size) 0=esc s i:=by
 unfold esc
 simp only [rest_at hi,Nat.zero_add,Nat.add_zero]
theorem esc_size {s:ByteArray} {i:Nat} {p:Int × Nat} (h:esc s i=some p):2≤p.2∧i+p.2≤s.size:=by
 unfold esc at h
 split at h
 ·cases h
 ·rename_i c hc
  have h1:i+1 < s.size:=by
   rcases Nat.lt_or_ge (i+1) s.size with h1 | h1
   ·exact h1
   ·rw [byte_none (by omega)] at hc; cases hc
  split at h
  ·injection h with h; subst h; exact ⟨Nat.le_refl _,by simp; omega⟩
  ·split at h
   ·injection h with h; subst h; exact ⟨Nat.le_refl _,by simp; omega⟩
   ·split at h
    ·injection h with h; subst h; exact ⟨Nat.le_refl _,by simp; omega⟩
    ·split at h
     ·split at h
      ·rename_i x y hx hy
       have h3:i+3 < s.size:=by
        rcases Nat.lt_or_ge (i+3) s.size with h1 | h1
        ·exact h1
        ·rw [byte_none (by omega)] at hy; cases hy
       split at h
       ·injection h with h; subst h; exact ⟨by simp,by simp; omega⟩
       ·cases h
      ·cases h
     ·cases h
def escVal:Option (Int × Nat)→AVal
 | some p=>.tup [.int .u8 p.1,.int .i64 (p.2:Nat)]
 | none=>.tup [.int .u8 0,.int .i64 0]
theorem size_of_none {t:ByteArray} {n:Nat} (h:t[n]? = none):t.size≤n:=by
 rcases Nat.lt_or_ge n t.size with h1 | h1
 ·obtain ⟨b,hb⟩:=byte_at h1; rw [h] at hb; cases hb
 ·exact h1
theorem size_of_some {t:ByteArray} {n:Nat} {b:UInt8} (h:t[n]? = some b):n < t.size:=by
 rcases Nat.lt_or_ge n t.size with h1 | h1
 ·exact h1
 ·rw [byte_none (by omega)] at h; cases h
theorem g54 {H:AHeap} (t:ByteArray):DCall Tryd.prog 54 [.str t] H fun a H'=>H'=H∧a=escVal (esc t 0):=by
 refine DCall.of_body (fn:=Tryd.f54) (by kernel_rfl) c54 (by kernel_rfl) (by simp [f54]) ?_
 unfold f54
 simp only []
 have hl:∀ H,alenT H 0 (.str t)=some t.size:=fun _=>rfl
 refine Dg rfl ?_
 simp -dsimp only [SE,astep,seval,rowq]
 cases hc:t[1]? with
 | none=>
  have hs:=size_of_none hc
  have hd:decide ((t.size:Int) < 2)=true:=by simp; omega
  refine Dg rfl ?_
  simp -dsimp only [SE,astep,seval,rowq,hl,abin,hd]
  refine Dy rfl rfl ?_
  refine Dg rfl ?_
  simp -dsimp only [SE,astep,seval,rowq]
  refine Dm rfl ?_
  exact DR.ret ⟨_,by simp [aresult,ares,Env.get] <;> rfl,rfl,by simp [esc,hc,escVal]⟩
 | some c=>
  have hs:=size_of_some hc
  have hd:decide ((t.size:Int) < 2)=false:=by simp; omega
  have hx1:aidxS (.str t) (.int .i64 1)=some (.int .u8 c.toNat):=idx_at hc
  refine Dg rfl ?_
  simp -dsimp only [SE,astep,seval,rowq,hl,abin,hd]
  refine Dn rfl rfl ?_
  refine Dg rfl ?_
  simp -dsimp only [SE,astep,seval,rowq,hx1]
  refine Dg rfl ?_
  simp -dsimp only [SE,astep,seval,rowq]
  cases e1:((c.toNat:Int)==92) with
  | true=>
   refine Dg rfl ?_
   simp -dsimp only [SE,astep,seval,rowq,abin,e1]
   refine Dy rfl rfl ?_
   refine Dy rfl rfl ?_
   refine Dg rfl ?_
   simp -dsimp only [SE,astep,seval,rowq]
   refine Dm rfl ?_
   exact DR.ret ⟨_,by simp [aresult,ares,Env.get] <;> rfl,rfl,by simp [esc,hc,e1,escVal]⟩
  | false=>
   refine Dg rfl ?_
   simp -dsimp only [SE,astep,seval,rowq,abin,e1]
   refine Dn rfl rfl ?_
   cases e2:((c.toNat:Int)==39) with
   | true=>
    refine Dg rfl ?_
    simp -dsimp only [SE,astep,seval,rowq,abin,e2]
    refine Dy rfl rfl ?_
    refine Dy rfl rfl ?_
    refine Dg rfl ?_
    simp -dsimp only [SE,astep,seval,rowq]
    refine Dm rfl ?_
    exact DR.ret ⟨_,by simp [aresult,ares,Env.get] <;> rfl,rfl,by simp [esc,hc,e1,e2,escVal]⟩
   | false=>
    refine Dg rfl ?_
    simp -dsimp only [SE,astep,seval,rowq,abin,e2]
    refine Dn rfl rfl ?_
    cases e3:((c.toNat:Int)==34) with
    | true=>
     refine Dg rfl ?_
     simp -dsimp only [SE,astep,seval,rowq,abin,e3]
     refine Dy rfl rfl ?_
     refine Dg rfl ?_
     simp -dsimp only [SE,astep,seval,rowq]
     refine Dm rfl ?_
     exact DR.ret ⟨_,by simp [aresult,ares,Env.get] <;> rfl,rfl,by simp [esc,hc,e1,e2,e3,escVal]⟩
    | false=>
     refine Dg rfl ?_
     simp -dsimp only [SE,astep,seval,rowq,abin,e3]
     refine Dn rfl rfl ?_
     cases e4:((c.toNat:Int)==110) with
     | true=>
      refine Dg rfl ?_
      simp -dsimp only [SE,astep,seval,rowq,abin,e4]
      refine Dy rfl rfl ?_
      refine Dg rfl ?_
      simp -dsimp only [SE,astep,seval,rowq]
      refine Dm rfl ?_
      exact DR.ret ⟨_,by simp [aresult,ares,Env.get] <;> rfl,rfl,by simp [esc,hc,e1,e2,e3,e4,escVal]⟩
     | false=>
      refine Dg rfl ?_
      simp -dsimp only [SE,astep,seval,rowq,abin,e4]
      refine Dn rfl rfl ?_
      cases e5:((c.toNat:Int)==116) with
      | true=>
       refine Dg rfl ?_
       simp -dsimp only [SE,astep,seval,rowq,abin,e5]
       refine Dy rfl rfl ?_
       refine Dg rfl ?_
       simp -dsimp only [SE,astep,seval,rowq]
       refine Dm rfl ?_
       exact DR.ret ⟨_,by simp [aresult,ares,Env.get] <;> rfl,rfl,by simp [esc,hc,e1,e2,e3,e4,e5,escVal]⟩
      | false=>
       refine Dg rfl ?_
       simp -dsimp only [SE,astep,seval,rowq,abin,e5]
       refine Dn rfl rfl ?_
       cases e6:((c.toNat:Int)==120) with
       | false=>
        refine Dg rfl ?_
        simp -dsimp only [SE,astep,seval,rowq,abin,e6]
        refine Dn rfl rfl ?_
        refine Dg rfl ?_
        simp -dsimp only [SE,astep,seval,rowq]
        refine Dm rfl ?_
        exact DR.ret ⟨_,by simp [aresult,ares,Env.get] <;> rfl,rfl,by simp [esc,hc,e1,e2,e3,e4,e5,e6,escVal]⟩
       | true=>
        refine Dg rfl ?_
        simp -dsimp only [SE,astep,seval,rowq,abin,e6]
        refine Dy rfl rfl ?_
        cases hy:t[3]? with
        | none=>
         have hs3:=size_of_none hy
         have hd3:decide ((t.size:Int) > 3)=false:=by simp; omega
         refine Dg rfl ?_
         simp -dsimp only [SE,astep,seval,rowq,hl,abin,hd3]
         refine Dn rfl rfl ?_
         refine Dg rfl ?_
         simp -dsimp only [SE,astep,seval,rowq]
         refine Dm rfl ?_
         exact DR.ret ⟨_,by simp [aresult,ares,Env.get] <;> rfl,rfl,by cases h2:t[2]? <;> simp [esc,hc,e1,e2,e3,e4,e5,e6,escVal,hy,h2]⟩
        | some y=>
         have hs3:=size_of_some hy
         have hd3:decide ((t.size:Int) > 3)=true:=by simp; omega
         obtain ⟨x,hx⟩:=byte_at (s:=t) (n:=2) (by omega)
         have hx2:aidxS (.str t) (.int .i64 2)=some (.int .u8 x.toNat):=idx_at hx
         have hx3:aidxS (.str t) (.int .i64 3)=some (.int .u8 y.toNat):=idx_at hy
         refine Dg rfl ?_
         simp -dsimp only [SE,astep,seval,rowq,hl,abin,hd3,hx2]
         refine (of_chk t52 x H).mono ?_
         rintro a H1 ⟨rfl,rfl⟩
         simp -dsimp only [SE,astep,seval,rowq]
         cases g2:decide (hexv x.toNat ≥ 0) with
         | false=>
          simp -dsimp only [SE,astep,seval,rowq,abin,g2]
          refine Dn rfl rfl ?_
          refine Dg rfl ?_
          simp -dsimp only [SE,astep,seval,rowq]
          refine Dm rfl ?_
          exact DR.ret ⟨_,by simp [aresult,ares,Env.get] <;> rfl,rfl,by simp [esc,hc,e1,e2,e3,e4,e5,e6,escVal,hy,hx,g2]⟩
         | true=>
          simp -dsimp only [SE,astep,seval,rowq,abin,g2,hx3]
          refine (of_chk t52 y H1).mono ?_
          rintro a H2 ⟨rfl,rfl⟩
          simp -dsimp only [SE,astep,seval,rowq]
          cases g3:decide (hexv y.toNat ≥ 0) with
          | false=>
           simp -dsimp only [SE,astep,seval,rowq,abin,g3]
           refine Dn rfl rfl ?_
           refine Dg rfl ?_
           simp -dsimp only [SE,astep,seval,rowq]
           refine Dm rfl ?_
           exact DR.ret ⟨_,by simp [aresult,ares,Env.get] <;> rfl,rfl,by simp [esc,hc,e1,e2,e3,e4,e5,e6,escVal,hy,hx,g2,g3]⟩
          | true=>
           simp -dsimp only [SE,astep,seval,rowq,abin,g3]
           refine Dy rfl rfl ?_
           refine Dm rfl ?_
           refine DR.draw (by kernel_rfl) d54_15 ?_
           simp -dsimp only [m54_15,SE,astep,seval,rowq,DS_nil,DS_cons,seesAll,staysAll,abit,List.getD_cons_zero,List.getD_cons_succ,AOp.quiet,AOp.reads,true_and,and_true,decide_true,decide_false,and_self,hx2]
           refine (of_chk t52 x H2).mono ?_
           rintro a H3 ⟨rfl,rfl⟩
           simp -dsimp only [SE,astep,seval,rowq]
           simp -dsimp only [SE,astep,seval,rowq,DS_nil,DS_cons,seesAll,staysAll,abit,List.getD_cons_zero,List.getD_cons_succ,AOp.quiet,AOp.reads,true_and,and_true,decide_true,decide_false,and_self,abin,hx3]
           refine (of_chk t52 y H3).mono ?_
           rintro a H4 ⟨rfl,rfl⟩
           simp -dsimp only [SE,astep,seval,rowq]
           simp -dsimp only [SE,astep,seval,rowq,DS_nil,DS_cons,seesAll,staysAll,abit,List.getD_cons_zero,List.getD_cons_succ,AOp.quiet,AOp.reads,true_and,and_true,decide_true,decide_false,and_self,abin]
           refine Dm rfl ?_
           exact DR.ret ⟨_,by simp [aresult,ares,Env.get] <;> rfl,rfl,by simp [esc,hc,e1,e2,e3,e4,e5,e6,escVal,hy,hx,g2,g3,hexByte]⟩
end Go.Am.Rl
namespace Go.Am.Rl
open Go.Proofs
def quoteW (s:ByteArray) (m:Int):Nat→Nat→List Int→Option (ByteArray × Nat)
 | 0,_,_=>none
 | n+1,i,out=>match s[i]? with
  | none=>none
  | some c=>if ((c.toNat:Int)==m)=true then some (strOf out,i+1)
   else if ((c.toNat:Int) != 92)=true then quoteW s m n (i+1) (out++[(c.toNat:Int)])
   else match esc s i with
    | none=>none
    | some p=>quoteW s m n (i+p.2) (out++[p.1])
def quote (s:ByteArray) (m:Int) (i:Nat):Option (ByteArray × Nat):=quoteW s m (s.size - i) (i+1) []
theorem quoteW_le {s:ByteArray} {m:Int}:∀ {n i:Nat} {out:List Int} {p:ByteArray × Nat},quoteW s m n i out=some p→i < p.2∧p.2≤s.size
 | 0,i,out,p,h=>by cases h
 | n+1,i,out,p,h=>by
  simp only [quoteW] at h
  split at h
  ·cases h
  ·rename_i c hc
   have:=size_of_some hc
   split at h
   ·injection h with h; subst h; exact ⟨Nat.lt_succ_self _,this⟩
   ·split at h
    ·have:=quoteW_le h; omega
    ·split at h
     ·cases h
     ·rename_i q hq
      have h1:=esc_size hq
      have:=quoteW_le h; omega
structure Out8 (H0 H:AHeap) (x:AVal) (out:List Int):Prop where
 gr:Grow H 5 1 x out.length (u8s out)
 own:∀ j,rid x=some j→H0.next≤j
 nx:H0.next≤H.next
 fr:∀ j,j < H0.next→H.get j=H0.get j
theorem Out8.new (H:AHeap):Out8 H H .nils []:=⟨Grow.nils _ _ _,fun j h=>(by cases h),Nat.le_refl _,fun _ _=>rfl⟩
theorem grow_app {H:AHeap} {t n:Nat} {x:AVal} {len:Nat} {cs:List AVal} (h:Grow H t n x len cs) {y:AVal} {m:Nat} {new:List AVal} (hy:alen y=some m) (hs:sliceCells H n y=some new) (hnew:new.length=m * n) (ho:ones new=true) (hn:0 < n) (hm:0 < m) {b:Nat} (hb:(len+m) * b≤140737488355328) (hl:len+m < 9223372036854775808) :
  ∃ x' H',aapp t n b H x y=some (x',H')∧Grow H' t n x' (len+m) (cs++new)∧H.next≤H'.next∧(∀ i,i < H.next→rid x≠some i→H'.get i=H.get i)∧(∀ i,rid x'=some i→H.next≤i):=by
 have hno:¬ (ones new=false∨n=0∨new.length≠m * n):=by
  rw [ho,hnew]; simp; omega
 obtain ⟨hcl,⟨rfl,rfl⟩ | ⟨i0,rfl,hx⟩⟩:=h
 ·have:cs=[]:=List.eq_nil_of_length_eq_zero (by simpa using hcl)
  subst this
  refine ⟨.sl H.next 0 m none,H.push (.cells t new),?_,⟨by simp [hnew],.inr ⟨H.next,by rw [Nat.zero_add],by rw [AHeap.get_push,if_pos rfl]; rfl⟩⟩,by simp,fun i hi _=>by rw [AHeap.get_push,if_neg (by omega)],fun i hi=> ?_⟩
  ·simp only [aapp,hy,hs,if_neg hno]
   rw [if_neg (by omega),if_pos ⟨by simpa using hb,by omega⟩]
  ·simp only [rid,Option.some.injEq] at hi; omega
 ·refine ⟨.sl H.next 0 (len+m) none,(H.del i0).push (.cells t (cs++new)),?_,⟨by rw [List.length_append,hcl,hnew,Nat.add_mul],.inr ⟨H.next,by rfl,by
   have h1':(H.del i0).next=H.next:=rfl
   rw [AHeap.get_push,h1',if_pos rfl]⟩⟩,by simp [AHeap.push,AHeap.del],fun i hi hne=> ?_,fun i hi=> ?_⟩
  ·simp only [aapp,hy,hs,if_neg hno,hx]
   have hmul:(len+m) * n=len * n+m * n:=Nat.add_mul _ _ _
   have hpos:0 < m * n:=Nat.mul_pos hm hn
   rw [if_neg (by omega),if_pos ⟨by omega,hb,hl,trivial⟩,if_neg (by omega),if_pos (by omega),List.drop_zero,← hcl,List.take_length]
  ·have h1':(H.del i0).next=H.next:=rfl
   rw [AHeap.get_push,h1',if_neg (by omega),AHeap.get_del,if_neg (fun e=>hne (by simp [rid,e]))]
  ·simp only [rid,Option.some.injEq] at hi; omega
theorem ones8 (l:List Int):ones (u8s l)=true:=by simp [ones,u8s,AVal.one]
theorem Out8.add {H0 H:AHeap} {x:AVal} {out:List Int} (h:Out8 H0 H x out) {y:AVal} {new:List Int} (hy:alen y=some new.length) (hs:sliceCells H 1 y=some (u8s new)) (hp:0 < new.length) (hl:out.length+new.length≤140737488355328) :
  ∃ x' H',aapp 5 1 1 H x y=some (x',H')∧Out8 H0 H' x' (out++new):=by
 obtain ⟨x',H',h1,h2,h3,h4,h5⟩:=grow_app h.gr hy hs (by simp [u8s]) (ones8 new) (by omega) hp (b:=1) (by omega) (by omega)
 refine ⟨x',H',h1,?_,fun j hj=> ?_,?_,fun j hj=> ?_⟩
 ·have e:u8s out++u8s new=u8s (out++new):=by simp [u8s]
  rw [e] at h2
  simpa using h2
 ·have:=h5 j hj; have:=h.nx; omega
 ·have:=h.nx; omega
 ·have hnx:=h.nx
  rw [h4 j (by omega) (fun e=>by have:=h.own j e; omega),h.fr j hj]
theorem Out8.push {H0 H:AHeap} {x:AVal} {out:List Int} (h:Out8 H0 H x out) (c:Int) (hl:out.length < 1000000) :
  ∃ x' H',aapp 5 1 1 H x (.ros [.int .u8 c] 1)=some (x',H')∧Out8 H0 H' x' (out++[c]):=
 h.add (new:=[c]) rfl rfl (by simp) (by simp; omega)
section
variable {H0:AHeap} {r:Nat} {s:ByteArray} {a0 e0 m:Int} {k k':List AItem} {Q:Env→AHeap→Prop}
theorem loop37 (hb:H0.get r=some (.cells 50 (scanCells s a0 e0))) (hsz:s.size < 1000000) (hk:aexitTo 0 k=some k') :
  ∀ (d i:Nat) (out:List Int) (x:AVal) (H:AHeap),s.size - i≤d→out.length≤i→Out8 H0 H x out→
   (quoteW s m d i out=none→∀ (j:Int) (x':AVal) (out':List Int) (H':AHeap),Out8 H0 H' x' out'→DR Tryd.prog (kof k37) 68 k' [(0,.ptr r 0),(7,.int .i64 j)] H' Q)→
   (∀ p (x':AVal) (out':List Int) (H':AHeap),quoteW s m d i out=some p→Out8 H0 H' x' out'→Q [(4,.str p.1),(5,.int .i64 (p.2:Nat))] H')→
   DR Tryd.prog (kof k37) 68 (.code l37_0::.inLoop l37_0::k) [(0,.ptr r 0),(1,.int .u8 m),(6,x),(7,.int .i64 (i:Nat))] H Q:=by
 intro d
 induction d with
 | zero=>
  intro i out x H hi ho hI hend hret
  have hbH:H.get r=some (.cells 50 (scanCells s a0 e0)):=(hI.fr r (AHeap.get_lt hb)).trans hb
  have l0:=load_cell hbH (o:=0) (v:=.str s) rfl
  have hl:∀ H,alenT H 0 (.str s)=some s.size:=fun _=>rfl
  have hc:decide ((i:Int) < (s.size:Int))=false:=by simp; omega
  refine Dg rfl ?_
  simp -dsimp only [SE,astep,seval,rowq,l0,hl,abin,hc]
  refine Dn rfl rfl ?_
  refine DR.exit (k':=k') (by simpa [aexitTo] using hk) ?_
  exact DR.only [0,7] (hend rfl _ _ _ _ hI)
 | succ d ih=>
  intro i out x H hi ho hI hend hret
  have hbH:H.get r=some (.cells 50 (scanCells s a0 e0)):=(hI.fr r (AHeap.get_lt hb)).trans hb
  have l0:=load_cell hbH (o:=0) (v:=.str s) rfl
  have hl:∀ H,alenT H 0 (.str s)=some s.size:=fun _=>rfl
  rcases Nat.lt_or_ge i s.size with hlt | hge
  ·have hc:decide ((i:Int) < (s.size:Int))=true:=by simp; omega
   obtain ⟨c,hct⟩:=byte_at hlt
   have hx:=idx_at hct
   have hw1:IntKind.i64.wrap ((i:Int)+1)=((i+1:Nat):Int):=wrap64 (n:=i+1) (by omega)
   simp only [quoteW,hct] at hend hret
   refine Dg rfl ?_
   simp -dsimp only [SE,astep,seval,rowq,l0,hl,abin,hc]
   refine Dy rfl rfl ?_
   refine Dg rfl ?_
   simp -dsimp only [SE,astep,seval,rowq,l0,hx]
   cases em:((c.toNat:Int)==m) with
   | true=>
    refine Dg rfl ?_
    simp -dsimp only [SE,astep,seval,rowq,abin,em]
    simp only [em,if_true] at hret
    refine Dy rfl rfl ?_
    refine Dg rfl ?_
    simp -dsimp only [SE,astep,seval,rowq,hI.gr.toStr,abin,hw1]
    exact DR.ret (hret _ _ _ _ rfl hI)
   | false=>
    refine Dg rfl ?_
    simp -dsimp only [SE,astep,seval,rowq,abin,em]
    simp only [em,Bool.false_eq_true,if_false] at hend hret
    refine Dn rfl rfl ?_
    cases e92:((c.toNat:Int) != 92) with
    | true=>
     obtain ⟨x',H',ha,hI'⟩:=hI.push (c.toNat:Int) (by omega)
     simp only [e92,if_true] at hend hret
     refine Dg rfl ?_
     simp -dsimp only [SE,astep,seval,rowq,abin,e92]
     refine Dy rfl rfl ?_
     refine Dg rfl ?_
     simp -dsimp only [SE,astep,seval,rowq,Env.parts,afill,AVal.cells,List.take_zero,List.nil_append,List.cons_append,List.append_nil,List.drop_one,List.tail_cons,ha]
     refine Dg rfl ?_
     simp -dsimp only [SE,astep,seval,rowq,abin,hw1]
     refine DR.exit rfl ?_
     refine Dm rfl ?_
     refine DR.inLoop ?_
     exact ih (i+1) _ _ _ (by omega) (by simp; omega) hI' hend hret
    | false=>
     simp only [e92,Bool.false_eq_true,if_false] at hend hret
     refine Dg rfl ?_
     simp -dsimp only [SE,astep,seval,rowq,abin,e92]
     refine Dn rfl rfl ?_
     have hsl:∀ T:Env,T.get 50=some (.int .i64 (i:Nat))→aslcS T (.str s) (some (.t 50)) none=some (.str (s.extract i s.size)):=fun T hT=>slc_lo hT (by omega)
     refine Dg rfl ?_
     simp -dsimp only [SE,astep,seval,rowq,l0]
     rw [hsl _ rfl]
     simp -dsimp only [SE,astep,seval,rowq]
     refine (g54 (s.extract i s.size)).mono ?_
     rintro a H1 ⟨rfl,rfl⟩
     simp -dsimp only [SE,astep,seval,rowq]
     rw [esc_rest (by omega)]
     cases he:esc s i with
     | none=>
      simp only [he] at hend
      simp -dsimp only [SE,astep,seval,rowq,escVal]
      refine Dg rfl ?_
      simp -dsimp only [SE,astep,seval,rowq,abin]
      refine Dy rfl rfl ?_
      refine DR.exit (k':=k') (by simpa [aexitTo] using hk) ?_
      exact DR.only [0,7] (hend trivial _ _ _ _ hI)
     | some p=>
      obtain ⟨b,n⟩:=p
      have hes:=esc_size he
      simp only at hes
      simp only [he] at hend hret
      have hn0:((n:Int)==0)=false:=by
       rw [beq_eq_false_iff_ne]; omega
      have hw2:IntKind.i64.wrap ((i:Int)+(n:Int))=((i+n:Nat):Int):=by
       rw [← Int.natCast_add]; exact wrap64 (by omega)
      obtain ⟨x',H',ha,hI'⟩:=hI.push b (by omega)
      simp -dsimp only [SE,astep,seval,rowq,escVal]
      refine Dg rfl ?_
      simp -dsimp only [SE,astep,seval,rowq,abin,hn0]
      refine Dn rfl rfl ?_
      refine Dg rfl ?_
      simp -dsimp only [SE,astep,seval,rowq,Env.parts,afill,AVal.cells,List.take_zero,List.nil_append,List.cons_append,List.append_nil,List.drop_one,List.tail_cons,ha]
      refine Dg rfl ?_
      simp -dsimp only [SE,astep,seval,rowq,abin,hw2]
      refine Dm rfl ?_
      refine DR.inLoop ?_
      exact ih (i+n) _ _ _ (by omega) (by simp; omega) hI' hend hret
  ·have hc:decide ((i:Int) < (s.size:Int))=false:=by simp; omega
   simp only [quoteW,byte_none (show ¬ i < s.size by omega)] at hend
   refine Dg rfl ?_
   simp -dsimp only [SE,astep,seval,rowq,l0,hl,abin,hc]
   refine Dn rfl rfl ?_
   refine DR.exit (k':=k') (by simpa [aexitTo] using hk) ?_
   exact DR.only [0,7] (hend trivial _ _ _ _ hI)
end
theorem g37 {H:AHeap} {r:Nat} {s:ByteArray} {i:Nat} {e0 m:Int} (hb:H.get r=some (.cells 50 (scanCells s (i:Nat) e0))) (hsz:s.size < 1000000) (hi:i≤s.size) :
  DCall Tryd.prog 37 [.ptr r 0,.int .u8 m] H fun a H'=>(match quote s m i with
   | some p=>a = .tup [.str p.1,.int .i64 (p.2:Nat)]∧H'.get r=some (.cells 50 (scanCells s (i:Nat) e0))
   | none=>(∃ j,a = .tup [.str ⟨#[]⟩,.int .i64 j])∧H'.get r=some (.cells 50 (scanCells s (i:Nat) 23)))∧H.next≤H'.next∧∀ j,j < H.next→j≠r→H'.get j=H.get j:=by
 refine DCall.of_body (fn:=Tryd.f37) (by kernel_rfl) c37 (by kernel_rfl) (by simp [f37]) ?_
 unfold f37
 simp only []
 have l1:=load_cell hb (o:=1) (v:=.int .i64 (i:Nat)) rfl
 have hw1:IntKind.i64.wrap ((i:Int)+1)=((i+1:Nat):Int):=wrap64 (n:=i+1) (by omega)
 have hrl:=AHeap.get_lt hb
 refine Dg rfl ?_
 simp -dsimp only [SE,astep,seval,rowq]
 refine Dg rfl ?_
 simp -dsimp only [SE,astep,seval,rowq]
 refine Dg rfl ?_
 simp -dsimp only [SE,astep,seval,rowq,l1,abin,hw1]
 refine Dm rfl ?_
 refine DR.loop ?_
 refine loop37 (H0:=H) hb hsz rfl (s.size - i) (i+1) [] .nils H (by omega) (by simp) (Out8.new H) ?_ ?_
 ·intro hq j x' out' H' hI
  have hb':H'.get r=some (.cells 50 (scanCells s (i:Nat) e0)):=(hI.fr r hrl).trans hb
  have hst:=astore_one hb' (o:=2) (x:=.int .i64 23) (by simp [scanCells]) rfl
  refine Dg rfl ?_
  simp -dsimp only [SE,astep,seval,rowq,hst]
  refine Dg rfl ?_
  simp -dsimp only [SE,astep,seval,rowq]
  have hnx:=hI.nx
  refine DR.ret ⟨_,by simp [aresult,ares,Env.get] <;> rfl,?_,by simpa using hnx,fun j hj hne=> ?_⟩
  ·have:quote s m i=none:=hq
   rw [this]
   exact ⟨⟨j,rfl⟩,by rw [AHeap.get_set,if_pos rfl,if_pos (AHeap.get_lt hb')]; rfl⟩
  ·rw [AHeap.get_set,if_neg hne,hI.fr j hj]
 ·intro p x' out' H' hq hI
  refine ⟨_,by simp [aresult,ares,Env.get] <;> rfl,?_,hI.nx,fun j hj hne=>hI.fr j hj⟩
  have:quote s m i=some p:=hq
  rw [this]
  exact ⟨rfl,(hI.fr r hrl).trans hb⟩
end Go.Am.Rl
namespace Go.Am.Rl
open Go.Proofs
section
variable {H0:AHeap} {s:ByteArray} {i0:Nat} {m:Int} {k k':List AItem} {Q:Env→AHeap→Prop}
end
end Go.Am.Rl
namespace Go.Am.Rl
open Go.Proofs
def tokC (k:Int) (s:ByteArray) (n:Int) (f:Nat) (i:Int):List AVal:=[.int .i64 k,.str s,.int .i64 n,.flt .f64 f,.int .i64 i]
def tok0:List AVal:=[.int .i64 0,.str ⟨#[]⟩,.int .i64 0,.flt .f64 0,.int .i64 0]
def shU (u:Int):Int:=IntKind.u64.wrap (u * 2 ^ (min (4:Int).toNat IntKind.u64.bits))
def orU (a b:Int):Int:=IntKind.u64.wrap ((BitVec.ofInt IntKind.u64.bits a ||| BitVec.ofInt IntKind.u64.bits b).toNat:Int)
def accU (u d:Int):Int:=orU (shU u) (IntKind.u64.wrap d)
theorem abin_shl (u:Int):abin .shl (.int .u64 u) (.int .u64 4)=some (.int .u64 (shU u)):=by
 simp only [abin]
 rw [if_neg (by decide)]; rfl
theorem abin_or (a b:Int):abin .or (.int .u64 a) (.int .u64 b)=some (.int .u64 (orU a b)):=by
 simp only [abin]
 rw [if_pos trivial]; rfl
theorem abin_addI (a b:Int):abin .add (.int .i64 a) (.int .i64 b)=some (.int .i64 (IntKind.i64.wrap (a+b))):=by
 simp only [abin]
 rw [if_pos trivial]
def bitsW (s:ByteArray):Nat→Nat→Int→Option Int
 | 0,_,u=>some u
 | n+1,i,u=>match s[i]? with
  | none=>none
  | some c=>if decide (hexv c.toNat < 0)=true then none else bitsW s n (i+1) (accU u (hexv c.toNat))
def bits (s:ByteArray) (i:Nat):Option Nat:=match bitsW s 16 (i+1) 0 with
 | some u=>if fin u.toNat=true then some u.toNat else none
 | none=>none
theorem bitsW_size {s:ByteArray}:∀ {n i:Nat} {u v:Int},bitsW s (n+1) i u=some v→i+n < s.size
 | n,i,u,v,h=>by
  simp only [bitsW] at h
  split at h
  ·cases h
  ·rename_i c hc
   have:=size_of_some hc
   split at h
   ·cases h
   ·cases n with
    | zero=>omega
    | succ n=>have:=bitsW_size h; omega
theorem bitsW_range {s:ByteArray}:∀ {n i:Nat} {u v:Int},bitsW s n i u=some v→0≤u→u < 18446744073709551616→0≤v∧v < 18446744073709551616
 | 0,i,u,v,h,h0,h1=>by simp only [bitsW] at h; injection h with h; subst h; exact ⟨h0,h1⟩
 | n+1,i,u,v,h,h0,h1=>by
  simp only [bitsW] at h
  split at h
  ·cases h
  ·split at h
   ·cases h
   ·exact bitsW_range h (wrap_u64_lt _).1 (wrap_u64_lt _).2
theorem bits_small {s:ByteArray} {i:Nat} (h:s.size < i+17):bits s i=none:=by
 unfold bits
 cases hb:bitsW s 16 (i+1) 0 with
 | none=>rfl
 | some u=>have:=bitsW_size hb; omega
section
variable {H:AHeap} {s:ByteArray} {i b:Nat} {k k':List AItem} {Q:Env→AHeap→Prop}
end
end Go.Am.Rl
namespace Go.Am.Rl
open Go.Proofs
section
variable {H:AHeap} {s:ByteArray} {i r b:Nat} {e0:Int} {k k':List AItem} {Q:Env→AHeap→Prop}
theorem loop36 (hr:H.get r=some (.cells 50 (scanCells s (i:Nat) e0))) (hb:H.get b=some (.cells 35 tok0)) (hrb:r≠b) (hsz:s.size < 1000000) (hi:i < s.size) (hk:aexitTo 0 k=some k') :
  ∀ (n j:Nat) (u:Int),j+n=i+17→j≤s.size→
   (∀ v,bitsW s n j u=some v→DR Tryd.prog (kof k36) 69 k' [(0,.ptr r 0),(2,.ptr b 0),(4,.int .i64 ((i+17:Nat):Int)),(5,.int .u64 v)] H Q)→
   (bitsW s n j u=none→∀ (m:Int) (H':AHeap),H'.next=H.next→H'.get b=some (.cells 35 tok0)→H'.get r=some (.cells 50 (scanCells s (i:Nat) 22))→(∀ q,q≠r→q≠b→H'.get q=H.get q)→Q [(2,.ptr b 0),(3,.int .i64 m)] H')→
   DR Tryd.prog (kof k36) 69 (.code l36_0::.inLoop l36_0::k) [(0,.ptr r 0),(2,.ptr b 0),(4,.int .i64 (j:Nat)),(5,.int .u64 u)] H Q:=by
 have hw17:IntKind.i64.wrap ((i:Int)+17)=((i+17:Nat):Int):=wrap64 (n:=i+17) (by omega)
 have l0:=load_cell hr (o:=0) (v:=.str s) rfl
 have l1:=load_cell hr (o:=1) (v:=.int .i64 (i:Nat)) rfl
 have hl:∀ H,alenT H 0 (.str s)=some s.size:=fun _=>rfl
 have st1:=astore_one hr (o:=2) (x:=.int .i64 22) (by simp [scanCells]) rfl
 obtain ⟨H1,hH1⟩:∃ H1,H1=H.set r (.cells 50 ((scanCells s (i:Nat) e0).set 2 (.int .i64 22))):=⟨_,rfl⟩
 rw [← hH1] at st1
 have hr1:H1.get r=some (.cells 50 (scanCells s (i:Nat) 22)):=by rw [hH1,AHeap.get_set,if_pos rfl,if_pos (AHeap.get_lt hr)]; rfl
 have hb1:H1.get b=some (.cells 35 tok0):=by rw [hH1,AHeap.get_set,if_neg (Ne.symm hrb)]; exact hb
 have st2:=store_all (n:=5) hb1 (new:=tok0) rfl rfl rfl
 have hb2:(H1.set b (.cells 35 tok0)).get b=some (.cells 35 tok0):=by rw [AHeap.get_set,if_pos rfl,if_pos (AHeap.get_lt hb1)]
 have hr2:(H1.set b (.cells 35 tok0)).get r=some (.cells 50 (scanCells s (i:Nat) 22)):=by rw [AHeap.get_set,if_neg hrb]; exact hr1
 have hf2:∀ q,q≠r→q≠b→(H1.set b (.cells 35 tok0)).get q=H.get q:=fun q h1 h2=>by rw [AHeap.get_set,if_neg h2,hH1,AHeap.get_set,if_neg h1]
 have hn2:(H1.set b (.cells 35 tok0)).next=H.next:=by rw [hH1]; rfl
 unfold tok0 at st2
 intro n
 induction n with
 | zero=>
  intro j u hj hjs hend hno
  have hc:decide ((j:Int) < ((i+17:Nat):Int))=false:=by simp; omega
  obtain rfl:j=i+17:=by omega
  refine Dg rfl ?_
  simp -dsimp only [SE,astep,seval,rowq,l1,abin,hw17,hc]
  refine Dn rfl rfl ?_
  refine DR.exit (k':=k') (by simpa [aexitTo] using hk) ?_
  exact DR.only [0,2,4,5] (hend u rfl)
 | succ n ih=>
  intro j u hj hjs hend hno
  have hc:decide ((j:Int) < ((i+17:Nat):Int))=true:=by simp; omega
  have hw1:IntKind.i64.wrap ((j:Int)+1)=((j+1:Nat):Int):=wrap64 (n:=j+1) (by omega)
  refine Dg rfl ?_
  simp -dsimp only [SE,astep,seval,rowq,l1,abin,hw17,hc]
  refine Dy rfl rfl ?_
  rcases Nat.lt_or_ge j s.size with hlt | hge
  ·obtain ⟨c,hct⟩:=byte_at hlt
   have hx:=idx_at hct
   have he:((j:Int)==(s.size:Int))=false:=by rw [beq_eq_false_iff_ne]; omega
   simp only [bitsW,hct] at hend hno
   refine Dg rfl ?_
   simp -dsimp only [SE,astep,seval,rowq,l0,hl,abin,he,hx]
   refine (of_chk t52 c H).mono ?_
   rintro a H2 ⟨rfl,rfl⟩
   simp -dsimp only [SE,astep,seval,rowq]
   cases hv:decide (hexv c.toNat < 0) with
   | true=>
    rw [hv] at hno
    simp only [if_true] at hno
    simp -dsimp only [SE,astep,seval,rowq,abin,hv]
    refine Dy rfl rfl ?_
    refine Dg rfl ?_
    simp -dsimp only [SE,astep,seval,rowq,st1]
    refine Dg rfl ?_
    simp -dsimp only [SE,astep,seval,rowq,Env.parts,afill,st2]
    exact DR.ret (hno trivial _ _ hn2 hb2 hr2 hf2)
   | false=>
    rw [hv] at hend hno
    simp only [Bool.false_eq_true,if_false] at hend hno
    simp -dsimp only [SE,astep,seval,rowq,abin,hv]
    refine Dn rfl rfl ?_
    refine Dg rfl ?_
    simp -dsimp only [SE,astep,seval,rowq,abin_shl,l0,hx]
    refine (of_chk t52 c H2).mono ?_
    rintro a H3 ⟨rfl,rfl⟩
    simp -dsimp only [SE,astep,seval,rowq]
    simp -dsimp only [SE,astep,seval,rowq,abin_or]
    refine Dg rfl ?_
    simp -dsimp only [SE,astep,seval,rowq,abin,hw1]
    refine Dm rfl ?_
    refine DR.inLoop ?_
    exact ih (j+1) _ (by omega) (by omega) hend hno
  ·obtain rfl:j=s.size:=by omega
   simp only [bitsW,byte_none (Nat.lt_irrefl s.size)] at hno
   refine Dg rfl ?_
   simp -dsimp only [SE,astep,seval,rowq,l0,hl,abin,beq_self_eq_true]
   refine Dy rfl rfl ?_
   refine Dg rfl ?_
   simp -dsimp only [SE,astep,seval,rowq,st1]
   refine Dg rfl ?_
   simp -dsimp only [SE,astep,seval,rowq,Env.parts,afill,st2]
   exact DR.ret (hno trivial _ _ hn2 hb2 hr2 hf2)
end
def Told (H H':AHeap) (r:Nat) (s:ByteArray) (i:Nat) (e0:Int) (a:AVal) (x:Int ⊕ (List AVal × Nat)):Prop:=
 (match x with
  | .inr p=>a = .tup [.agg p.1,.int .i64 (p.2:Nat)]∧H'.get r=some (.cells 50 (scanCells s (i:Nat) e0))
  | .inl e=>(∃ cs j,a = .tup [.agg cs,.int .i64 j]∧cs.length=5∧ones cs=true)∧H'.get r=some (.cells 50 (scanCells s (i:Nat) e)))∧H.next≤H'.next∧∀ j,j < H.next→j≠r→H'.get j=H.get j
def bitsTok (s:ByteArray) (i:Nat):Int ⊕ (List AVal × Nat):=match bits s i with
 | some f=>.inr (tokC 4 ⟨#[]⟩ 0 f 0,i+17)
 | none=>.inl 22
theorem g36 {H:AHeap} {r:Nat} {s:ByteArray} {i:Nat} {e0:Int} (hr:H.get r=some (.cells 50 (scanCells s (i:Nat) e0))) (hsz:s.size < 1000000) (hi:i < s.size) :
  DCall Tryd.prog 36 [.ptr r 0] H fun a H'=>Told H H' r s i e0 a (bitsTok s i):=by
 refine DCall.of_body (fn:=Tryd.f36) (by kernel_rfl) c36 (by kernel_rfl) (by simp [f36]) ?_
 unfold f36
 simp only []
 obtain ⟨H1,hH1⟩:∃ H1,H1=H.push (.cells 35 [.int .i64 0,.str ⟨#[]⟩,.int .i64 0,.flt .f64 0,.int .i64 0]):=⟨_,rfl⟩
 have hrl:=AHeap.get_lt hr
 have n1:H1.next=H.next+1:=by rw [hH1]; rfl
 have g1:H1.get H.next=some (.cells 35 tok0):=by rw [hH1,AHeap.get_push,if_pos rfl]; rfl
 have f1:∀ j,j < H.next→H1.get j=H.get j:=fun j hj=>by rw [hH1,AHeap.get_push,if_neg (by omega)]
 have r1:H1.get r=some (.cells 50 (scanCells s (i:Nat) e0)):=(f1 r hrl).trans hr
 have l1:=load_cell r1 (o:=1) (v:=.int .i64 (i:Nat)) rfl
 have hw1:IntKind.i64.wrap ((i:Int)+1)=((i+1:Nat):Int):=wrap64 (n:=i+1) (by omega)
 refine Dg rfl ?_
 simp -dsimp only [SE,astep,seval,rowq,← hH1]
 refine Dg rfl ?_
 simp -dsimp only [SE,astep,seval,rowq,l1,abin,hw1]
 refine Dg rfl ?_
 simp -dsimp only [SE,astep,seval,rowq]
 refine Dm rfl ?_
 refine DR.loop ?_
 refine loop36 (b:=H.next) r1 g1 (by omega) hsz hi rfl 16 (i+1) 0 (by omega) (by omega) ?_ ?_
 ·intro u hu
  obtain ⟨hu0,hu1⟩:=bitsW_range hu (by omega) (by omega)
  obtain ⟨H2,hH2⟩:∃ H2,H2=H1.push (.cells 44 [.int .i64 0,.int .i64 0,.flt .f64 0,.str ⟨#[]⟩,.nils]):=⟨_,rfl⟩
  have g2:H2.get H1.next=some (.cells 44 [.int .i64 0,.int .i64 0,.flt .f64 0,.str ⟨#[]⟩,.nils]):=by rw [hH2,AHeap.get_push,if_pos rfl]
  have f2:∀ j,j < H1.next→H2.get j=H1.get j:=fun j hj=>by rw [hH2,AHeap.get_push,if_neg (by omega)]
  have hn2:H2.next=H1.next+1:=by rw [hH2]; rfl
  refine Dg rfl ?_
  simp -dsimp only [SE,astep,seval,rowq]
  refine (g53 H1 hu0 hu1).mono ?_
  rintro a H3 ⟨rfl,rfl⟩
  simp -dsimp only [SE,astep,seval,rowq]
  unfold bitsVal
  cases hf:fin u.toNat with
  | true=>
   have hbs:bitsTok s i = .inr (tokC 4 ⟨#[]⟩ 0 u.toNat 0,i+17):=by unfold bitsTok bits; rw [hu]; simp [hf]
   rw [hbs,if_pos rfl]
   have st:=store_all (n:=5) g2 (new:=[.int .i64 2,.int .i64 0,.flt .f64 u.toNat,.str ⟨#[]⟩,.nils]) rfl rfl rfl
   obtain ⟨H4,hH4⟩:∃ H4,H4=H2.set H3.next (.cells 44 [.int .i64 2,.int .i64 0,.flt .f64 u.toNat,.str ⟨#[]⟩,.nils]):=⟨_,rfl⟩
   rw [← hH4] at st
   have g4:H4.get H3.next=some (.cells 44 [.int .i64 2,.int .i64 0,.flt .f64 u.toNat,.str ⟨#[]⟩,.nils]):=by rw [hH4,AHeap.get_set,if_pos rfl,if_pos (AHeap.get_lt g2)]
   have f4:∀ j,j < H3.next→H4.get j=H3.get j:=fun j hj=>by rw [hH4,AHeap.get_set,if_neg (by omega),f2 j hj]
   have lF:=load_cell g4 (o:=2) (v:=.flt .f64 u.toNat) rfl
   have hn4:H4.next=H2.next:=by rw [hH4]; rfl
   have t4:H4.get H.next=some (.cells 35 tok0):=(f4 H.next (by omega)).trans g1
   have st5:=store_all (n:=5) t4 (new:=tokC 4 ⟨#[]⟩ 0 u.toNat 0) rfl rfl rfl
   have ge:(H4.set H.next (.cells 35 (tokC 4 ⟨#[]⟩ 0 u.toNat 0))).get H.next=some (.cells 35 (tokC 4 ⟨#[]⟩ 0 u.toNat 0)):=by rw [AHeap.get_set,if_pos rfl,if_pos (AHeap.get_lt t4)]
   have hld:=load_all (n:=5) ge rfl
   unfold tokC at st5
   simp -dsimp only [SE,astep,seval,rowq,floatTerm,← hH2,st]
   refine Dg rfl ?_
   simp -dsimp only [SE,astep,seval,rowq,abin,bne_self_eq_false]
   refine Dn rfl rfl ?_
   refine Dg rfl ?_
   simp -dsimp only [SE,astep,seval,rowq,lF,Env.parts,afill,AVal.cells,LZ,st5]
   refine Dm rfl ?_
   refine DR.ret ?_
   refine ⟨.tup [.agg (tokC 4 ⟨#[]⟩ 0 u.toNat 0),.int .i64 ((i+17:Nat):Int)],?_,⟨rfl,?_⟩,?_,fun j hj hne=> ?_⟩
   ·have hld':aload (H4.set H.next (.cells 35 [.int .i64 4,.str ⟨#[]⟩,.int .i64 0,.flt .f64 u.toNat,.int .i64 0])) (some 5) (.ptr H.next 0)=_:=hld
    simp [aresult,ares,Env.get,hld']
   ·rw [AHeap.get_set,if_neg (by omega),f4 r (by omega)]; exact r1
   ·show H.next≤H4.next; omega
   ·rw [AHeap.get_set,if_neg (by omega),f4 j (by omega),f1 j hj]
  | false=>
   have hbs:bitsTok s i = .inl 22:=by unfold bitsTok bits; rw [hu]; simp [hf]
   rw [hbs,if_neg (by simp)]
   have st:=store_all (n:=5) g2 (new:=[.int .i64 0,.int .i64 0,.flt .f64 0,.str ⟨#[]⟩,.nils]) rfl rfl rfl
   obtain ⟨H4,hH4⟩:∃ H4,H4=H2.set H3.next (.cells 44 [.int .i64 0,.int .i64 0,.flt .f64 0,.str ⟨#[]⟩,.nils]):=⟨_,rfl⟩
   rw [← hH4] at st
   have g4:H4.get H3.next=some (.cells 44 [.int .i64 0,.int .i64 0,.flt .f64 0,.str ⟨#[]⟩,.nils]):=by rw [hH4,AHeap.get_set,if_pos rfl,if_pos (AHeap.get_lt g2)]
   have f4:∀ j,j < H3.next→H4.get j=H3.get j:=fun j hj=>by rw [hH4,AHeap.get_set,if_neg (by omega),f2 j hj]
   have hn4:H4.next=H2.next:=by rw [hH4]; rfl
   have r4:H4.get r=some (.cells 50 (scanCells s (i:Nat) e0)):=(f4 r (by omega)).trans r1
   have sr:=astore_one r4 (o:=2) (x:=.int .i64 22) (by simp [scanCells]) rfl
   obtain ⟨H5,hH5⟩:∃ H5,H5=H4.set r (.cells 50 ((scanCells s (i:Nat) e0).set 2 (.int .i64 22))):=⟨_,rfl⟩
   rw [← hH5] at sr
   have r5:H5.get r=some (.cells 50 (scanCells s (i:Nat) 22)):=by rw [hH5,AHeap.get_set,if_pos rfl,if_pos (AHeap.get_lt r4)]; rfl
   have f5:∀ j,j≠r→H5.get j=H4.get j:=fun j hj=>by rw [hH5,AHeap.get_set,if_neg hj]
   have hn5:H5.next=H4.next:=by rw [hH5]; rfl
   have g5:H5.get H3.next=_:=(f5 H3.next (by omega)).trans g4
   have lF:=load_cell g5 (o:=2) (v:=.flt .f64 0) rfl
   have t5:H5.get H.next=some (.cells 35 tok0):=(f5 H.next (by omega)).trans ((f4 H.next (by omega)).trans g1)
   have st5:=store_all (n:=5) t5 (new:=tokC 4 ⟨#[]⟩ 0 0 0) rfl rfl rfl
   have ge:(H5.set H.next (.cells 35 (tokC 4 ⟨#[]⟩ 0 0 0))).get H.next=some (.cells 35 (tokC 4 ⟨#[]⟩ 0 0 0)):=by rw [AHeap.get_set,if_pos rfl,if_pos (AHeap.get_lt t5)]
   have hld:=load_all (n:=5) ge rfl
   unfold tokC at st5
   have h11:((11:Int) != 0)=true:=by decide
   simp -dsimp only [SE,astep,seval,rowq,noTerm,← hH2,st]
   refine Dg rfl ?_
   simp -dsimp only [SE,astep,seval,rowq,abin,h11]
   refine Dy rfl rfl ?_
   refine Dg rfl ?_
   simp -dsimp only [SE,astep,seval,rowq,sr]
   refine Dg rfl ?_
   simp -dsimp only [SE,astep,seval,rowq,lF,Env.parts,afill,AVal.cells,LZ,st5]
   refine Dm rfl ?_
   refine DR.ret ?_
   refine ⟨.tup [.agg (tokC 4 ⟨#[]⟩ 0 0 0),.int .i64 ((i+17:Nat):Int)],?_,⟨⟨_,_,rfl,rfl,rfl⟩,?_⟩,?_,fun j hj hne=> ?_⟩
   ·have hld':aload (H5.set H.next (.cells 35 [.int .i64 4,.str ⟨#[]⟩,.int .i64 0,.flt .f64 0,.int .i64 0])) (some 5) (.ptr H.next 0)=_:=hld
    simp [aresult,ares,Env.get,hld']
   ·rw [AHeap.get_set,if_neg (by omega)]; exact r5
   ·show H.next≤H5.next; omega
   ·rw [AHeap.get_set,if_neg (by omega),f5 j hne,f4 j (by omega),f1 j hj]
 ·intro hu m H' hn hb' hr' hf'
  have hbs:bitsTok s i = .inl 22:=by unfold bitsTok bits; rw [hu]
  rw [hbs]
  have hld:=load_all (n:=5) hb' rfl
  refine ⟨.tup [.agg tok0,.int .i64 m],by simp [aresult,ares,Env.get,hld],⟨⟨_,_,rfl,rfl,rfl⟩,hr'⟩,by omega,fun j hj hne=> ?_⟩
  rw [hf' j hne (by omega),f1 j hj]
end Go.Am.Rl
namespace Go.Am.Rl
open Go.Proofs
def stepD (v:Int) (b:UInt8):Int:=IntKind.i64.wrap (IntKind.i64.wrap (10 * v)+IntKind.i64.wrap (IntKind.u8.wrap ((b.toNat:Int) - 48)))
def wholeW (s:ByteArray):Nat→Nat→Int→Int
 | 0,_,v=>v
 | n+1,i,v=>match s[i]? with
  | some b=>wholeW s n (i+1) (stepD v b)
  | none=>v
def whole (s:ByteArray):Int:=wholeW s s.size 0 0
theorem abin_mul (a b:Int):abin .mul (.int .i64 a) (.int .i64 b)=some (.int .i64 (IntKind.i64.wrap (a * b))):=by
 simp only [abin]
 rw [if_pos trivial]
theorem abin_sub8 (a b:Int):abin .sub (.int .u8 a) (.int .u8 b)=some (.int .u8 (IntKind.u8.wrap (a - b))):=by
 simp only [abin]
 rw [if_pos trivial]
section
variable {H:AHeap} {s:ByteArray} {k k':List AItem} {Q:Env→AHeap→Prop}
end
end Go.Am.Rl
namespace Go.Am.Rl
open Go.Proofs
theorem skipW_all {p:Nat→Bool} {s:ByteArray}:∀ {n i j:Nat},i≤j→j < skipW p s n i→∃ b,s[j]? = some b∧p b.toNat=true
 | 0,i,j,h1,h2=>by simp only [skipW] at h2; omega
 | n+1,i,j,h1,h2=>by
  simp only [skipW] at h2
  split at h2
  ·rename_i b hb
   split at h2
   ·rename_i hp
    by_cases hij:i=j
    ·subst hij; exact ⟨b,hb,hp⟩
    ·exact skipW_all (by omega) h2
   ·omega
  ·omega
def ten10:Nat→Nat
 | 0=>4607182418800017408
 | n+1=>(FloatKind.f64.format.mul (ten10 n) 4621819117588971520).getD 0
theorem ten_step:∀ n,n < 15→FloatKind.f64.format.mul (ten10 n) 4621819117588971520=some (ten10 (n+1)):=by decide
theorem ten_read:∀ n,n < 16→(match FloatKind.f64.format.read (ten10 n) with | .number _ m _=>m != 0 | _=>false)=true:=by decide
theorem nearest_read (neg:Bool) (m:Nat) (i:Int):(FloatKind.f64.format.read (FloatKind.f64.format.nearest neg m i)).isNaN=false:=by
 have hs:FloatKind.f64.format.signWeight=9223372036854775808:=by decide
 have hb:FloatKind.f64.format.binade=4503599627370496:=by decide
 have hi:FloatKind.f64.format.infRung=9218868437227405312:=by decide
 have key:∀ r,r≤9218868437227405312→(FloatKind.f64.format.read (FloatKind.f64.format.word neg r)).isNaN=false:=by
  intro r hr
  have hm:(FloatKind.f64.format.word neg r) % 9223372036854775808=r:=by
   unfold Ieee.Format.word
   rw [hs]
   cases neg <;> simp <;> omega
  unfold Ieee.Format.read
  simp only [hs,hb,hi,hm]
  split
  ·rfl
  ·split
   ·rfl
   ·split
    ·rfl
    ·omega
 unfold Ieee.Format.nearest
 split
 ·exact key 0 (by omega)
 ·exact key _ (by rw [hi]; exact Nat.min_le_right _ _)
def quoW (v:Int) (n:Nat):Nat:=(FloatKind.f64.format.div (FloatKind.f64.nearest v) (ten10 n)).getD 0
theorem quo_some (v:Int) {n:Nat} (hn:n < 16):FloatKind.f64.format.div (FloatKind.f64.nearest v) (ten10 n)=some (quoW v n):=by
 have h1:(FloatKind.f64.format.read (FloatKind.f64.nearest v)).isNaN=false:=nearest_read _ _ _
 have h2:=ten_read n hn
 unfold quoW Ieee.Format.div
 revert h1 h2
 cases FloatKind.f64.format.read (FloatKind.f64.nearest v) with
 | nan s t=>intro h1; cases h1
 | infinity s=>
  cases FloatKind.f64.format.read (ten10 n) with
  | nan s t=>intro _ h; cases h
  | infinity s=>intro _ h; cases h
  | number t m j=>intros; rfl
 | number s m' j'=>
  cases FloatKind.f64.format.read (ten10 n) with
  | nan s t=>intro _ h; cases h
  | infinity s=>intro _ h; cases h
  | number t m j=>
   intro _ h
   have hm:m≠0:=by simpa using h
   simp only [Ieee.Datum.quotient,if_neg hm,Option.map_some,Option.getD_some]
theorem abin_quo (v:Int) {n:Nat} (hn:n < 16):abin .quo (.flt .f64 (FloatKind.f64.nearest v)) (.flt .f64 (ten10 n))=some (.flt .f64 (quoW v n)):=by
 simp only [abin]
 rw [if_pos trivial]
 show some (flOr .f64 (FloatKind.f64.format.div _ _))=_
 rw [quo_some v hn]; rfl
theorem abin_ten {n:Nat} (hn:n < 15):abin .mul (.flt .f64 (ten10 n)) (.flt .f64 4621819117588971520)=some (.flt .f64 (ten10 (n+1))):=by
 simp only [abin]
 rw [if_pos trivial]
 show some (flOr .f64 (FloatKind.f64.format.mul _ _))=_
 rw [ten_step n hn]; rfl
def lead0 (s:ByteArray) (i:Nat):Bool:=match s[i]? with
 | some b=>(b.toNat:Int)==48
 | none=>false
def dotted (s:ByteArray) (j:Nat):Bool:=match s[j]?,s[j+1]? with
 | some c,some d=>((c.toNat:Int)==46)&&isDig d.toNat
 | _,_=>false
def numI (hd:ByteArray) (j:Nat) (pl:Int):Int ⊕ (List AVal × Nat):=
 if (decide ((hd.size:Int) > 18) || decide (whole hd > 576460752303423487))=true then .inl 22 else .inr (tokC 3 ⟨#[]⟩ (whole hd) 0 pl,j)
def numF (hd pt:ByteArray) (e:Nat) (pl:Int):Int ⊕ (List AVal × Nat):=
 if decide ((hd.size:Int)+(pt.size:Int) > 15)=true then .inl 22 else .inr (tokC 4 ⟨#[]⟩ 0 (quoW (whole (hd++pt)) pt.size) pl,e)
def numAt (s hd:ByteArray) (j:Nat) (pl:Int):Int ⊕ (List AVal × Nat):=
 if (decide ((hd.size:Int) > 1)&&lead0 hd 0)=true then .inl 22
 else if dotted s j=true then numF hd (s.extract (j+1) (skip isDig s (j+1))) (skip isDig s (j+1)) pl
 else numI hd j pl
def numTok (s:ByteArray) (i:Nat) (pl:Int):Int ⊕ (List AVal × Nat):=numAt s (s.extract i (skip isDig s i)) (skip isDig s i) pl
section
variable {H:AHeap} {s:ByteArray} {k k':List AItem} {Q:Env→AHeap→Prop}
end
end Go.Am.Rl
namespace Go.Am.Rl
open Go.Proofs
theorem size_ext {s:ByteArray} {i j:Nat} (hj:j≤s.size):(s.extract i j).size=j - i:=by
 rw [ByteArray.size_extract]; omega
theorem dotted_none {s:ByteArray} {j:Nat} (h:s[j+1]? = none):dotted s j=false:=by
 unfold dotted; rw [h]; cases s[j]? <;> rfl
theorem dotted_at {s:ByteArray} {j:Nat} {c d:UInt8} (h:s[j]? = some c) (h1:s[j+1]? = some d):dotted s j=(((c.toNat:Int)==46)&&isDig d.toNat):=by
 unfold dotted; rw [h,h1]
section
variable {H:AHeap} {s hd:ByteArray} {i j b:Nat} {k:List AItem} {Q:Env→AHeap→Prop}
end
end Go.Am.Rl
namespace Go.Am.Rl
open Go.Proofs
theorem emp (p:ByteArray):(p.toList==(⟨#[]⟩:ByteArray).toList)=decide (p.size=0):=by
 rw [Go.ByteArray.toList_eq,Go.ByteArray.toList_eq]
 have:p.size=p.data.toList.length:=by rw [Array.length_toList]; rfl
 rw [this]
 cases p.data.toList with
 | nil=>rfl
 | cons a l=>rfl
def byteCells (w:ByteArray):List AVal:=w.data.toList.map fun b=>.int .u8 b.toNat
theorem byteCells_at {w:ByteArray} {i:Nat} {b:UInt8} (h:w[i]? = some b):(byteCells w)[i]? = some (.int .u8 b.toNat):=by
 have hlt:=size_of_some h
 have h1:w.data.toList[i]? = some b:=by
  rw [getElem?_pos w i hlt] at h
  rw [Array.getElem?_toList,← h]
  show w.data[i]? = some (w.data[i]'hlt)
  rw [getElem?_pos w.data i hlt]
 unfold byteCells
 rw [List.getElem?_map,h1]; rfl
theorem byteCells_row {H:AHeap} {id:Nat} {w:ByteArray} (h:H.get id=some (.cells 5 (byteCells w))):Row H 5 (.sl id 0 w.size none) (byteCells w):=by
 have hl:(byteCells w).length=w.size:=by unfold byteCells; rw [List.length_map,Array.length_toList]; rfl
 refine ⟨?_,by rw [hl]; rfl,?_,rfl,rfl⟩
 ·simp only [sliceCells,h]
  rw [if_pos (by omega)]
  simp only [Nat.mul_one,Nat.zero_mul,List.drop_zero]
  rw [List.take_of_length_le (by omega)]
 ·simp [rowOf,h]
section
variable {H:AHeap} {s hd pt:ByteArray} {r b:Nat} {e0:Int} {a0:Int} {k k':List AItem} {Q:Env→AHeap→Prop}
theorem reg35_4 {j:Nat} (hr:H.get r=some (.cells 50 (scanCells s a0 e0))) (hsz:s.size < 1000000) (hj:j≤s.size) (h:∀ H1,H1=H→DR Tryd.prog (kof k35) 135 k [(0,.ptr r 0),(2,.ptr b 0),(4,.int .i64 (j:Nat)),(5,.str hd),(6,.str ⟨#[]⟩),(54,.bool (dotted s j))] H1 Q) :
  DR Tryd.prog (kof k35) 135 (.code (.region false r35_4 [0,2,4,5,6,54])::k) [(0,.ptr r 0),(2,.ptr b 0),(4,.int .i64 (j:Nat)),(5,.str hd),(6,.str ⟨#[]⟩)] H Q:=by
 have hl:∀ H,alenT H 0 (.str s)=some s.size:=fun _=>rfl
 have l0:=load_cell hr (o:=0) (v:=.str s) rfl
 have hw:IntKind.i64.wrap ((j:Int)+1)=((j+1:Nat):Int):=wrap64 (n:=j+1) (by omega)
 cases hc:decide (((j+1:Nat):Int) < (s.size:Int)) with
 | false=>
  have h:=h H rfl
  rw [dotted_none (byte_none (by have:=of_decide_eq_false hc; omega))] at h
  refine Dg rfl ?_
  simp -dsimp only [SE,astep,seval,rowq,l0,hl,abin,hw,hc]
  exact h
 | true=>
  have hlt:j+1 < s.size:=by have:=of_decide_eq_true hc; omega
  obtain ⟨c,hct⟩:=byte_at (s:=s) (n:=j) (by omega)
  obtain ⟨d,hdt⟩:=byte_at (s:=s) (n:=j+1) hlt
  have hx:=idx_at hct
  have hx1:=idx_at hdt
  rw [dotted_at hct hdt] at h
  cases h46:((c.toNat:Int)==46) with
  | false=>
   rw [h46] at h
   refine Dg rfl ?_
   simp -dsimp only [SE,astep,seval,rowq,l0,hl,abin,hw,hc,hx,h46]
   exact h H rfl
  | true=>
   rw [h46,Bool.true_and] at h
   refine Dg rfl ?_
   simp -dsimp only [SE,astep,seval,rowq,l0,hl,abin,hw,hc,hx,h46,hx1]
   refine (of_chk t34 d H).mono ?_
   rintro a H1 ⟨rfl,rfl⟩
   simp -dsimp only [SE,astep,seval,rowq]
   exact h _ rfl
theorem reg35_8 {vj:AVal} (hsz:hd.size < 1000000) (hpz:pt.size < 1000000) (h:DR Tryd.prog (kof k35) 135 k [(0,.ptr r 0),(2,.ptr b 0),(4,vj),(5,.str hd),(6,.str pt),(91,.bool ((decide ((hd.size:Int) > 1)&&lead0 hd 0) || (!decide (pt.size=0)&&decide ((hd.size:Int)+(pt.size:Int) > 15)) || decide ((hd.size:Int) > 18)))] H Q) :
  DR Tryd.prog (kof k35) 135 (.code (.region false r35_8 [0,2,4,5,6,91])::k) [(0,.ptr r 0),(2,.ptr b 0),(4,vj),(5,.str hd),(6,.str pt)] H Q:=by
 have hl:∀ H,alenT H 0 (.str hd)=some hd.size:=fun _=>rfl
 have hlp:∀ H,alenT H 0 (.str pt)=some pt.size:=fun _=>rfl
 have hw2:IntKind.i64.wrap ((hd.size:Int)+(pt.size:Int))=(hd.size:Int)+(pt.size:Int):=by
  have:=wrap64 (n:=hd.size+pt.size) (by omega)
  rw [Int.natCast_add] at this; exact this
 have tail:∀ (B:Bool),(decide ((hd.size:Int) > 1)&&lead0 hd 0)=B→(∀ (c:UInt8),decide ((hd.size:Int) > 1)=true→hd[0]? = some c→((c.toNat:Int)==48)=B)→
   DR Tryd.prog (kof k35) 135 (.code (.region false r35_8 [0,2,4,5,6,91])::k) [(0,.ptr r 0),(2,.ptr b 0),(4,vj),(5,.str hd),(6,.str pt)] H Q:=by
  intro B hB hB2
  rw [hB] at h
  cases hc:decide ((hd.size:Int) > 1) with
  | false=>
   rw [hc,Bool.false_and] at hB
   subst hB
   rw [Bool.false_or] at h
   cases hp:decide (pt.size=0) with
   | true=>
    rw [hp] at h
    refine Dg rfl ?_
    simp -dsimp only [SE,astep,seval,rowq,hl,abin,hc,emp,hp]
    exact h
   | false=>
    rw [hp] at h
    cases h15:decide ((hd.size:Int)+(pt.size:Int) > 15) with
    | true=>
     rw [h15] at h
     refine Dg rfl ?_
     simp -dsimp only [SE,astep,seval,rowq,hl,hlp,abin,hc,emp,hp,hw2,h15]
     exact h
    | false=>
     rw [h15] at h
     refine Dg rfl ?_
     simp -dsimp only [SE,astep,seval,rowq,hl,hlp,abin,hc,emp,hp,hw2,h15]
     exact h
  | true=>
   obtain ⟨c,hct⟩:=byte_at (s:=hd) (n:=0) (by have:=of_decide_eq_true hc; omega)
   have hx:aidxS (.str hd) (.int .i64 0)=some (.int .u8 c.toNat):=idx_at (n:=0) hct
   have h48:=hB2 c hc hct
   cases B with
   | true=>
    rw [Bool.true_or,Bool.true_or] at h
    refine Dg rfl ?_
    simp -dsimp only [SE,astep,seval,rowq,hl,abin,hc,hx,h48]
    exact h
   | false=>
    rw [Bool.false_or] at h
    cases hp:decide (pt.size=0) with
    | true=>
     rw [hp] at h
     refine Dg rfl ?_
     simp -dsimp only [SE,astep,seval,rowq,hl,abin,hc,hx,h48,emp,hp]
     exact h
    | false=>
     rw [hp] at h
     cases h15:decide ((hd.size:Int)+(pt.size:Int) > 15) with
     | true=>
      rw [h15] at h
      refine Dg rfl ?_
      simp -dsimp only [SE,astep,seval,rowq,hl,hlp,abin,hc,hx,h48,emp,hp,hw2,h15]
      exact h
     | false=>
      rw [h15] at h
      refine Dg rfl ?_
      simp -dsimp only [SE,astep,seval,rowq,hl,hlp,abin,hc,hx,h48,emp,hp,hw2,h15]
      exact h
 refine tail _ rfl ?_
 intro c hc hct
 rw [hc,Bool.true_and]
 unfold lead0
 rw [hct]
theorem loop35a {x v0 v2 v4 v6:AVal} {w:ByteArray} (hrow:Row H 5 x (byteCells w)) (hsz:w.size < 1000000) (hk:aexitTo 0 k=some k') :
  ∀ (d i:Nat) (v:Int),i+d=w.size→(∀ y,y=wholeW w d i v→DR Tryd.prog (kof k35) 135 k' [(0,v0),(2,v2),(4,v4),(6,v6),(8,.int .i64 y)] H Q)→
   DR Tryd.prog (kof k35) 135 (.code l35_0::.inLoop l35_0::k) [(0,v0),(2,v2),(4,v4),(6,v6),(8,.int .i64 v),(100,x),(101,.int .i64 (w.size:Nat)),(102,.int .i64 (i:Nat))] H Q:=by
 intro d
 induction d with
 | zero=>
  intro i v hi hend
  have hc:decide ((i:Int) < (w.size:Int))=false:=by simp; omega
  refine Dg rfl ?_
  simp -dsimp only [SE,astep,seval,rowq,hc,abin]
  refine Dn rfl rfl ?_
  refine DR.exit (k':=k') (by simpa [aexitTo] using hk) ?_
  exact DR.only [0,2,4,6,8] (hend _ rfl)
 | succ d ih=>
  intro i v hi hend
  have hlt:i < w.size:=by omega
  have hc:decide ((i:Int) < (w.size:Int))=true:=by simp; omega
  obtain ⟨b,hbt⟩:=byte_at hlt
  have hcell:=byteCells_at hbt
  have ha:=hrow.addr H (k:=.i64) (i:=i) (List.getElem?_eq_some_iff.mp hcell).1
  have hld:=hrow.load hcell
  have hw:IntKind.i64.wrap ((i:Int)+1)=((i+1:Nat):Int):=wrap64 (n:=i+1) (by omega)
  simp only [wholeW,hbt] at hend
  refine Dg rfl ?_
  simp -dsimp only [SE,astep,seval,rowq,hc,abin]
  refine Dy rfl rfl ?_
  refine Dg rfl ?_
  simp -dsimp only [SE,astep,seval,rowq,ha,hld]
  refine Dg rfl ?_
  simp -dsimp only [SE,astep,seval,rowq,abin_mul,abin_sub8,abin_addI]
  refine Dg rfl ?_
  simp -dsimp only [SE,astep,seval,rowq,abin_addI,hw]
  refine Dm rfl ?_
  refine DR.inLoop ?_
  exact ih (i+1) _ (by omega) hend
end
section
variable {H0:AHeap} {pt:ByteArray} {it:Nat} {k k':List AItem} {Q:Env→AHeap→Prop}
theorem loop35b {v2 v4 v8:AVal} (hdig:∀ j,j < pt.size→∃ c,pt[j]? = some c∧isDig c.toNat=true) (hsz:pt.size < 16) (hk:aexitTo 2 k=some k') :
  ∀ (d i:Nat) (H:AHeap),i+d=pt.size→H.get it=some (.siter pt i)→H.next=H0.next→(∀ q,q≠it→H.get q=H0.get q)→
   (∀ H',H'.next=H0.next→(∀ q,q≠it→H'.get q=H0.get q)→DR Tryd.prog (kof k35) 135 k' [(2,v2),(4,v4),(8,v8),(11,.flt .f64 (ten10 pt.size))] H' Q)→
   DR Tryd.prog (kof k35) 135 (.code l35_1::.inLoop l35_1::k) [(2,v2),(4,v4),(8,v8),(11,.flt .f64 (ten10 i)),(124,.ptr it 0)] H Q:=by
 intro d
 induction d with
 | zero=>
  intro i H hi hit hn hf hend
  obtain rfl:i=pt.size:=by omega
  have hc:¬ pt.size < pt.size:=Nat.lt_irrefl _
  refine Dg rfl ?_
  simp -dsimp only [SE,astep,seval,rowq,hit,if_neg hc]
  refine Dn rfl rfl ?_
  refine DR.exit (k':=k') (by simpa [aexitTo] using hk) ?_
  exact DR.only [2,4,8,11] (hend _ hn hf)
 | succ d ih=>
  intro i H hi hit hn hf hend
  have hlt:i < pt.size:=by omega
  obtain ⟨c,hc,hcd⟩:=hdig i hlt
  have hdec:Utf8.decode pt i=(c.toNat,1):=by
   have h1:pt[i]=c:=by rw [getElem?_pos pt i hlt] at hc; injection hc
   have h2:c.toNat < 128:=by unfold isDig at hcd; simp at hcd; omega
   rw [Go.decode_ascii pt i hlt (by rw [h1]; exact h2),h1]
  have hm:=abin_ten (n:=i) (by omega)
  refine Dg rfl ?_
  simp -dsimp only [SE,astep,seval,rowq,hit,if_pos hlt,hdec]
  refine Dy rfl rfl ?_
  refine Dg rfl ?_
  simp -dsimp only [SE,astep,seval,rowq,hm]
  refine Dm rfl ?_
  refine DR.inLoop ?_
  refine ih (i+1) _ (by omega) ?_ ?_ ?_ hend
  ·rw [AHeap.get_set,if_pos rfl,if_pos (AHeap.get_lt hit)]
  ·exact hn
  ·intro q hq; rw [AHeap.get_set,if_neg hq,hf q hq]
end
end Go.Am.Rl
