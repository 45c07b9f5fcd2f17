/- Parts: F1, V11, V12, V13, V14, V15, V16. -/
import Derived.Test.YtcphfgcfmphlfaaDoorAmQ
import Derived.Test.YtcphfgcfmphlfaaDoorVA
set_option linter.unusedVariables false
set_option linter.unusedSimpArgs false
namespace Go.Am.Rl
def isNum:Ieee.Datum→Bool
 | .number .. =>true
 | _=>false
def fin (b:Nat):Bool:=isNum (FloatKind.f64.format.read b)
def nanW (b:Nat):Bool:=(FloatKind.f64.format.read b).isNaN
theorem sub_self {b:Nat}:FloatKind.f64.format.sub b b=if fin b=true then some 0 else none:=by
 unfold Ieee.Format.sub fin
 cases h:FloatKind.f64.format.read b with
 | nan s t=>rfl
 | infinity s=>
  show ((Ieee.Datum.infinity s).sum (Ieee.Datum.infinity !s)).map _=none
  cases s <;> rfl
 | number s m i=>
  have hsum:(Ieee.Datum.number s m i).sum (Ieee.Datum.number s m i).opposite=some (.number false 0 i):=by
   simp only [Ieee.Datum.opposite,Ieee.Datum.sum,Int.min_self,Int.sub_self,Int.toNat_zero]
   have:Ieee.signed s m 0+Ieee.signed (!s) m 0=0:=by
    unfold Ieee.signed
    cases s <;> simp <;> omega
   rw [this]
   cases s <;> rfl
  rw [hsum]
  rfl
theorem order_self (b:Nat):(FloatKind.f64.format.order b b != some Ordering.eq)=nanW b:=by
 unfold Ieee.Format.order nanW
 cases h:FloatKind.f64.format.read b with
 | nan s t=>rfl
 | infinity s=>cases s <;> rfl
 | number s m i=>
  simp only [Ieee.Datum.order,Int.min_self,Int.sub_self,Int.toNat_zero]
  have:compare (Ieee.signed s m 0) (Ieee.signed s m 0)=Ordering.eq:=by
   rw [Int.compare_eq_eq]
  rw [this]; rfl
theorem read_low {b:Nat} (h:b < 9223372036854775808):FloatKind.f64.format.read b =
  if b < 4503599627370496 then .number false b (-1074) else if b < 9218868437227405312 then .number false (4503599627370496+b % 4503599627370496) (-1074+(b / 4503599627370496 - 1:Nat)) else if b=9218868437227405312 then .infinity false else .nan false (b - 9218868437227405312):=by
 have hs:FloatKind.f64.format.signWeight=9223372036854775808:=by decide
 have hb:FloatKind.f64.format.binade=4503599627370496:=by decide
 have hi:FloatKind.f64.format.infRung=9218868437227405312:=by decide
 have hl:FloatKind.f64.format.leastPlace = -1074:=by decide
 unfold Ieee.Format.read
 simp only [hs,hb,hi,hl]
 have h1:b % 9223372036854775808=b:=Nat.mod_eq_of_lt h
 have h2:(b / 9223372036854775808 % 2==1)=false:=by rw [Nat.div_eq_of_lt h]; rfl
 rw [h1,h2]
theorem read_mod (b:Nat):fin (b % 9223372036854775808)=fin b∧nanW (b % 9223372036854775808)=nanW b:=by
 have hs:FloatKind.f64.format.signWeight=9223372036854775808:=by decide
 unfold fin nanW Ieee.Format.read
 simp only [hs,Nat.mod_mod]
 constructor
 ·repeat' split
  all_goals rfl
 ·repeat' split
  all_goals rfl
theorem gt_max {b:Nat} (h:b < 9223372036854775808) (hn:nanW b=false):(FloatKind.f64.format.order b 9218868437227405311==some Ordering.gt) = !fin b:=by
 have hm:FloatKind.f64.format.read 9218868437227405311 = .number false 9007199254740991 971:=by decide
 unfold nanW at hn
 unfold Ieee.Format.order fin
 rw [hm,read_low h]
 rw [read_low h] at hn
 split at hn
 ·rename_i h1
  rw [if_pos h1]
  simp only [Ieee.Datum.order,isNum,Bool.not_true]
  have e1:min (-1074:Int) 971 = -1074:=by decide
  rw [e1]
  have:compare (Ieee.signed false b (-1074 - -1074:Int).toNat) (Ieee.signed false 9007199254740991 (971 - -1074:Int).toNat)≠Ordering.gt:=by
   rw [Int.compare_ne_gt]
   simp only [Ieee.signed,Bool.false_eq_true,if_false,Nat.shiftLeft_eq]
   have hp:(1:Nat)≤2 ^ (971 - -1074:Int).toNat:=Nat.one_le_two_pow
   have:b * 2 ^ (-1074 - -1074:Int).toNat=b:=by
    have:(-1074 - -1074:Int).toNat=0:=by decide
    rw [this]; omega
   rw [this]
   have h2:9007199254740991 * 1≤9007199254740991 * 2 ^ (971 - -1074:Int).toNat:=Nat.mul_le_mul_left _ hp
   generalize 9007199254740991 * 2 ^ (971 - -1074:Int).toNat=z at h2 ⊢
   omega
  rw [beq_eq_false_iff_ne]
  intro e
  exact this (Option.some.inj e)
 ·rename_i h1
  rw [if_neg h1]
  split at hn
  ·rename_i h2
   rw [if_pos h2]
   simp only [Ieee.Datum.order,isNum,Bool.not_true]
   have hq:b / 4503599627370496 - 1≤2045:=by omega
   generalize hqq:b / 4503599627370496 - 1=q at hq ⊢
   have e1:min (-1074+(q:Int)) 971 = -1074+(q:Int):=by omega
   rw [e1]
   have:compare (Ieee.signed false (4503599627370496+b % 4503599627370496) (-1074+(q:Int) - (-1074+(q:Int))).toNat) (Ieee.signed false 9007199254740991 (971 - (-1074+(q:Int))).toNat)≠Ordering.gt:=by
    rw [Int.compare_ne_gt]
    simp only [Ieee.signed,Bool.false_eq_true,if_false,Nat.shiftLeft_eq]
    have hp:(1:Nat)≤2 ^ (971 - (-1074+(q:Int))).toNat:=Nat.one_le_two_pow
    have h0:(-1074+(q:Int) - (-1074+(q:Int))).toNat=0:=by omega
    rw [h0]
    have h2:9007199254740991 * 1≤9007199254740991 * 2 ^ (971 - (-1074+(q:Int))).toNat:=Nat.mul_le_mul_left _ hp
    have h3:b % 4503599627370496 < 4503599627370496:=Nat.mod_lt _ (by decide)
    generalize 9007199254740991 * 2 ^ (971 - (-1074+(q:Int))).toNat=z at h2 ⊢
    omega
   rw [beq_eq_false_iff_ne]
   intro e
   exact this (Option.some.inj e)
  ·rename_i h2
   rw [if_neg h2]
   split at hn
   ·rename_i h3
    rw [if_pos h3]; rfl
   ·cases hn
theorem and_not {b:Nat} (h:b < 18446744073709551616):IntKind.u64.wrap ((BitVec.ofInt IntKind.u64.bits (b:Int) &&& ~~~ BitVec.ofInt IntKind.u64.bits 9223372036854775808).toNat:Int)=((b % 9223372036854775808:Nat):Int):=by
 have e:(BitVec.ofInt IntKind.u64.bits (b:Int) &&& ~~~ BitVec.ofInt IntKind.u64.bits 9223372036854775808).toNat=b % 9223372036854775808:=by
  have h1:(~~~ BitVec.ofInt IntKind.u64.bits 9223372036854775808).toNat=2 ^ 63 - 1:=by decide
  rw [BitVec.toNat_and,h1,Nat.and_two_pow_sub_one_eq_mod]
  have h2:(BitVec.ofInt IntKind.u64.bits (b:Int)).toNat=b:=by
   show (BitVec.ofInt 64 (b:Int)).toNat=b
   rw [BitVec.toNat_ofInt]
   omega
  rw [h2]
 rw [e,IntKind.wrap_u64]
 omega
theorem wrap_u64_lt (n:Int):0≤IntKind.u64.wrap n∧IntKind.u64.wrap n < 18446744073709551616:=by
 rw [IntKind.wrap_u64]; omega
end Go.Am.Rl
namespace Go.Am.Rl
open Go.Proofs
theorem g57 {H:AHeap} (b:Nat):DCall Tryd.prog 57 [.flt .f64 b] H fun a H'=>H'=H∧a = .bool (nanW b):=by
 refine DCall.of_body (fn:=Tryd.f57) (by kernel_rfl) c57 (by kernel_rfl) (by simp [f57]) ?_
 unfold f57
 simp only []
 refine DR.go rfl ?_
 simp -dsimp only [SZ,EZ,astep,aun,AVal.cells,seval]
 refine DR.go rfl ?_
 simp -dsimp only [SZ,EZ,astep,aun,AVal.cells,seval,abin,order_self]
 refine DR.nm rfl ?_
 exact DR.ret ⟨_,by simp [aresult,ares,Env.get] <;> rfl,rfl,rfl⟩
theorem g64 {H:AHeap} {b:Nat} (hb:b < 18446744073709551616):DCall Tryd.prog 64 [.flt .f64 b] H fun a H'=>H'=H∧a = .flt .f64 (b % 9223372036854775808):=by
 refine DCall.of_body (fn:=Tryd.f64) (by kernel_rfl) c64 (by kernel_rfl) (by simp [f64]) ?_
 unfold f64
 simp only []
 refine DR.go rfl ?_
 simp -dsimp only [SZ,EZ,astep,aun,AVal.cells,seval]
 refine DR.go rfl ?_
 simp -dsimp only [SZ,EZ,astep,aun,AVal.cells,seval,Env.vals,aext,aext0,aext1,abin,and_not hb,Int.toNat_natCast]
 refine DR.nm rfl ?_
 exact DR.ret ⟨_,by simp [aresult,ares,Env.get] <;> rfl,rfl,rfl⟩
theorem g58 {H:AHeap} {b:Nat} (hb:b < 18446744073709551616) (hn:nanW b=false):DCall Tryd.prog 58 [.flt .f64 b,.int .i64 0] H fun a H'=>H'=H∧a = .bool (!fin b):=by
 refine DCall.of_body (fn:=Tryd.f58) (by kernel_rfl) c58 (by kernel_rfl) (by simp [f58]) ?_
 unfold f58
 simp only []
 have hlt:b % 9223372036854775808 < 9223372036854775808:=Nat.mod_lt _ (by decide)
 have hg:=gt_max hlt (by rw [(read_mod b).2]; exact hn)
 rw [(read_mod b).1] at hg
 refine DR.go rfl ?_
 simp -dsimp only [SZ,EZ,astep,aun,AVal.cells,seval]
 refine DR.go rfl ?_
 simp -dsimp only [SZ,EZ,astep,aun,AVal.cells,seval,abin]
 refine DR.ye rfl rfl ?_
 refine DR.go rfl ?_
 simp -dsimp only [SZ,EZ,astep,aun,AVal.cells,seval]
 refine (g64 (H:=H) hb).mono ?_
 rintro a H1 ⟨rfl,rfl⟩
 simp -dsimp only [SZ,EZ,astep,aun,AVal.cells,seval]
 refine DR.go rfl ?_
 simp -dsimp only [SZ,EZ,astep,aun,AVal.cells,seval,abin,hg]
 refine DR.nm rfl ?_
 exact DR.ret ⟨_,by simp [aresult,ares,Env.get] <;> rfl,rfl,rfl⟩
def floatTerm (b:Nat):AVal:=.agg [.int .i64 2,.int .i64 0,.flt .f64 b,.str ⟨#[]⟩,.nils]
def noTerm:AVal:=.agg [.int .i64 0,.int .i64 0,.flt .f64 0,.str ⟨#[]⟩,.nils]
theorem g64' {H:AHeap} {b:Nat} (hb:b < 18446744073709551616):DCall Tryd.prog 48 [.flt .f64 b] H fun a H'=>a=if fin b=true then .tup [floatTerm b,.int .i64 0] else .tup [noTerm,.int .i64 11]:=by
 refine DCall.of_body (fn:=Tryd.f48) (by kernel_rfl) c48 (by kernel_rfl) (by simp [f48]) ?_
 unfold f48
 simp only []
 obtain ⟨H1,hH1⟩:∃ H1,H1=H.push (.cells 78 [.int .i64 0,.int .i64 0,.flt .f64 0,.str ⟨#[]⟩,.nils]):=⟨_,rfl⟩
 have g1:H1.get H.next=some (.cells 78 [.int .i64 0,.int .i64 0,.flt .f64 0,.str ⟨#[]⟩,.nils]):=by rw [hH1,AHeap.get_push,if_pos rfl]
 have no:=store_all (n:=5) g1 (new:=[.int .i64 0,.int .i64 0,.flt .f64 0,.str ⟨#[]⟩,.nils]) rfl rfl rfl
 have yes:=store_all (n:=5) g1 (new:=[.int .i64 2,.int .i64 0,.flt .f64 b,.str ⟨#[]⟩,.nils]) rfl rfl rfl
 have get:∀ cs:List AVal,(H1.set H.next (.cells 78 cs)).get H.next=some (.cells 78 cs):=fun cs=>by rw [AHeap.get_set,if_pos rfl,if_pos (AHeap.get_lt g1)]
 refine DR.go rfl ?_
 simp -dsimp only [SZ,EZ,astep,aun,AVal.cells,seval,← hH1]
 have hfn:nanW b=true→fin b=false:=by
  unfold nanW fin
  cases FloatKind.f64.format.read b <;> simp [Ieee.Datum.isNaN,isNum]
 refine DR.go rfl ?_
 simp -dsimp only [SZ,EZ,astep,aun,AVal.cells,seval]
 refine (g57 (H:=H1) b).mono ?_
 rintro a H2 ⟨rfl,rfl⟩
 simp -dsimp only [SZ,EZ,astep,aun,AVal.cells,seval]
 cases hn:nanW b with
 | true=>
  rw [hfn hn,if_neg (by simp)]
  simp -dsimp only [SZ,EZ,astep,aun,AVal.cells,seval,hn]
  refine DR.ye rfl rfl ?_
  refine DR.go rfl ?_
  simp -dsimp only [SZ,EZ,astep,aun,AVal.cells,seval,Env.parts,afill,no]
  have hld:=load_all (n:=5) (get [.int .i64 0,.int .i64 0,.flt .f64 0,.str ⟨#[]⟩,.nils]) rfl
  refine DR.nm rfl ?_
  refine DR.ret ?_
  exact ⟨_,by simp [aresult,ares,Env.get,hld] <;> rfl,rfl⟩
 | false=>
  simp -dsimp only [SZ,EZ,astep,aun,AVal.cells,seval,hn]
  refine (g58 (H:=H2) hb hn).mono ?_
  rintro a H3 ⟨rfl,rfl⟩
  simp -dsimp only [SZ,EZ,astep,aun,AVal.cells,seval]
  cases hf:fin b with
  | false=>
   rw [if_neg (by simp)]
   simp -dsimp only [SZ,EZ,astep,aun,AVal.cells,seval,hf]
   refine DR.ye rfl rfl ?_
   refine DR.go rfl ?_
   simp -dsimp only [SZ,EZ,astep,aun,AVal.cells,seval,Env.parts,afill,no]
   have hld:=load_all (n:=5) (get [.int .i64 0,.int .i64 0,.flt .f64 0,.str ⟨#[]⟩,.nils]) rfl
   refine DR.nm rfl ?_
   refine DR.ret ?_
   exact ⟨_,by simp [aresult,ares,Env.get,hld] <;> rfl,rfl⟩
  | true=>
   rw [if_pos rfl]
   simp -dsimp only [SZ,EZ,astep,aun,AVal.cells,seval,hf]
   refine DR.ne rfl rfl ?_
   refine DR.go rfl ?_
   simp -dsimp only [SZ,EZ,astep,aun,AVal.cells,seval,Env.parts,afill,AVal.cells,LZ,yes]
   have hld:=load_all (n:=5) (get [.int .i64 2,.int .i64 0,.flt .f64 b,.str ⟨#[]⟩,.nils]) rfl
   refine DR.nm rfl ?_
   refine DR.ret ?_
   exact ⟨_,by simp [aresult,ares,Env.get,hld] <;> rfl,rfl⟩
def bitsVal (b:Nat):AVal:=if fin b=true then .tup [floatTerm b,.int .i64 0] else .tup [noTerm,.int .i64 11]
theorem g48 (H:AHeap) {b:Nat} (hb:b < 18446744073709551616):DCall Tryd.prog 48 [.flt .f64 b] H fun a H'=>a=bitsVal b∧H'=H:=
 DCall.closed (sz:=sz1) rfl (g64' (H:=AHeap.empty) hb) (fun r H1 hr=>⟨3,r,by subst hr; cases fin b <;> rfl,hr⟩) H
theorem g53' {H:AHeap} {u:Int} (h0:0≤u) (h1:u < 18446744073709551616):DCall Tryd.prog 41 [.int .u64 u] H fun a H'=>a=bitsVal u.toNat:=by
 refine DCall.of_body (fn:=Tryd.f41) (by kernel_rfl) c41 (by kernel_rfl) (by simp [f41]) ?_
 unfold f41
 simp only []
 obtain ⟨H1,hH1⟩:∃ H1,H1=H.push (.cells 78 [.int .i64 0,.int .i64 0,.flt .f64 0,.str ⟨#[]⟩,.nils]):=⟨_,rfl⟩
 have g1:H1.get H.next=some (.cells 78 [.int .i64 0,.int .i64 0,.flt .f64 0,.str ⟨#[]⟩,.nils]):=by rw [hH1,AHeap.get_push,if_pos rfl]
 have get:∀ cs:List AVal,(H1.set H.next (.cells 78 cs)).get H.next=some (.cells 78 cs):=fun cs=>by rw [AHeap.get_set,if_pos rfl,if_pos (AHeap.get_lt g1)]
 have hub:u.toNat < 18446744073709551616:=by omega
 refine DR.go rfl ?_
 simp -dsimp only [SZ,EZ,astep,aun,AVal.cells,seval,← hH1]
 refine DR.go rfl ?_
 simp -dsimp only [SZ,EZ,astep,aun,AVal.cells,seval,Env.vals,aext,aext1]
 refine (g48 H1 hub).mono ?_
 rintro a H2 ⟨rfl,rfl⟩
 simp -dsimp only [SZ,EZ,astep,aun,AVal.cells,seval]
 unfold bitsVal
 cases hf:fin u.toNat with
 | true=>
  rw [if_pos rfl]
  have st:=store_all (n:=5) g1 (new:=[.int .i64 2,.int .i64 0,.flt .f64 u.toNat,.str ⟨#[]⟩,.nils]) rfl rfl rfl
  simp -dsimp only [SZ,EZ,astep,aun,AVal.cells,seval,floatTerm,st]
  have hld:=load_all (n:=5) (get [.int .i64 2,.int .i64 0,.flt .f64 u.toNat,.str ⟨#[]⟩,.nils]) rfl
  refine DR.nm rfl ?_
  refine DR.ret ?_
  exact ⟨_,by simp [aresult,ares,Env.get,hld] <;> rfl,rfl⟩
 | false=>
  rw [if_neg (by simp)]
  have st:=store_all (n:=5) g1 (new:=[.int .i64 0,.int .i64 0,.flt .f64 0,.str ⟨#[]⟩,.nils]) rfl rfl rfl
  simp -dsimp only [SZ,EZ,astep,aun,AVal.cells,seval,noTerm,st]
  have hld:=load_all (n:=5) (get [.int .i64 0,.int .i64 0,.flt .f64 0,.str ⟨#[]⟩,.nils]) rfl
  refine DR.nm rfl ?_
  refine DR.ret ?_
  exact ⟨_,by simp [aresult,ares,Env.get,hld] <;> rfl,rfl⟩
theorem g41 (H:AHeap) {u:Int} (h0:0≤u) (h1:u < 18446744073709551616):DCall Tryd.prog 41 [.int .u64 u] H fun a H'=>a=bitsVal u.toNat∧H'=H:=
 DCall.closed (sz:=sz1) rfl (g53' (H:=AHeap.empty) h0 h1) (fun r H1 hr=>⟨3,r,by subst hr; unfold bitsVal; cases fin u.toNat <;> rfl,hr⟩) H
end Go.Am.Rl
namespace Go.Am.Rl
open Go.Proofs
def tokC (k:Int) (s:ByteArray) (n:Int) (f:Nat) (i:Int):List AVal:=[.int .i64 k,.str s,.int .i64 n,.flt .f64 f,.int .i64 i]
def tok0:List AVal:=[.int .i64 0,.str ⟨#[]⟩,.int .i64 0,.flt .f64 0,.int .i64 0]
def shU (u:Int):Int:=IntKind.u64.wrap (u * 2 ^ (min (4:Int).toNat IntKind.u64.bits))
def orU (a b:Int):Int:=IntKind.u64.wrap ((BitVec.ofInt IntKind.u64.bits a ||| BitVec.ofInt IntKind.u64.bits b).toNat:Int)
def accU (u d:Int):Int:=orU (shU u) (IntKind.u64.wrap d)
theorem abin_shl (u:Int):abin .shl (.int .u64 u) (.int .u64 4)=some (.int .u64 (shU u)):=by
 simp only [abin]
 rw [if_neg (by decide)]; rfl
theorem abin_or (a b:Int):abin .or (.int .u64 a) (.int .u64 b)=some (.int .u64 (orU a b)):=by
 simp only [abin]
 rw [if_pos trivial]; rfl
theorem abin_addI (a b:Int):abin .add (.int .i64 a) (.int .i64 b)=some (.int .i64 (IntKind.i64.wrap (a+b))):=by
 simp only [abin]
 rw [if_pos trivial]
def bitsW (s:ByteArray):Nat→Nat→Int→Option Int
 | 0,_,u=>some u
 | n+1,i,u=>match s[i]? with
  | none=>none
  | some c=>if decide (hexv c.toNat < 0)=true then none else bitsW s n (i+1) (accU u (hexv c.toNat))
def bits (s:ByteArray) (i:Nat):Option Nat:=match bitsW s 16 (i+1) 0 with
 | some u=>if fin u.toNat=true then some u.toNat else none
 | none=>none
theorem bitsW_size {s:ByteArray}:∀ {n i:Nat} {u v:Int},bitsW s (n+1) i u=some v→i+n < s.size
 | n,i,u,v,h=>by
  simp only [bitsW] at h
  split at h
  ·cases h
  ·rename_i c hc
   have:=size_of_some hc
   split at h
   ·cases h
   ·cases n with
    | zero=>omega
    | succ n=>have:=bitsW_size h; omega
theorem bitsW_range {s:ByteArray}:∀ {n i:Nat} {u v:Int},bitsW s n i u=some v→0≤u→u < 18446744073709551616→0≤v∧v < 18446744073709551616
 | 0,i,u,v,h,h0,h1=>by simp only [bitsW] at h; injection h with h; subst h; exact ⟨h0,h1⟩
 | n+1,i,u,v,h,h0,h1=>by
  simp only [bitsW] at h
  split at h
  ·cases h
  ·split at h
   ·cases h
   ·exact bitsW_range h (wrap_u64_lt _).1 (wrap_u64_lt _).2
theorem bits_small {s:ByteArray} {i:Nat} (h:s.size < i+17):bits s i=none:=by
 unfold bits
 cases hb:bitsW s 16 (i+1) 0 with
 | none=>rfl
 | some u=>have:=bitsW_size hb; omega
section
variable {H:AHeap} {s:ByteArray} {i b:Nat} {k k':List AItem} {Q:Env→AHeap→Prop}
end
end Go.Am.Rl
namespace Go.Am.Rl
open Go.Proofs
section
variable {H:AHeap} {s:ByteArray} {i r b:Nat} {e0:Int} {k k':List AItem} {Q:Env→AHeap→Prop}
theorem loop36 (hr:H.get r=some (.cells 54 (scanCells s (i:Nat) e0))) (hb:H.get b=some (.cells 31 tok0)) (hrb:r≠b) (hsz:s.size < 1000000) (hi:i < s.size) (hk:aexitTo 0 k=some k') :
  ∀ (n j:Nat) (u:Int),j+n=i+17→j≤s.size→
   (∀ v,bitsW s n j u=some v→DR Tryd.prog (kof k28) 69 k' [(0,.ptr r 0),(2,.ptr b 0),(4,.int .i64 ((i+17:Nat):Int)),(5,.int .u64 v)] H Q)→
   (bitsW s n j u=none→∀ (m:Int) (H':AHeap),H'.next=H.next→H'.get b=some (.cells 31 tok0)→H'.get r=some (.cells 54 (scanCells s (i:Nat) 22))→(∀ q,q≠r→q≠b→H'.get q=H.get q)→Q [(2,.ptr b 0),(3,.int .i64 m)] H')→
   DR Tryd.prog (kof k28) 69 (.code l28_0::.inLoop l28_0::k) [(0,.ptr r 0),(2,.ptr b 0),(4,.int .i64 (j:Nat)),(5,.int .u64 u)] H Q:=by
 have hw17:IntKind.i64.wrap ((i:Int)+17)=((i+17:Nat):Int):=wrap64 (n:=i+17) (by omega)
 have l0:=load_cell hr (o:=0) (v:=.str s) rfl
 have l1:=load_cell hr (o:=1) (v:=.int .i64 (i:Nat)) rfl
 have hl:∀ H,alenT H 0 (.str s)=some s.size:=fun _=>rfl
 have st1:=astore_one hr (o:=2) (x:=.int .i64 22) (by simp [scanCells]) rfl
 obtain ⟨H1,hH1⟩:∃ H1,H1=H.set r (.cells 54 ((scanCells s (i:Nat) e0).set 2 (.int .i64 22))):=⟨_,rfl⟩
 rw [← hH1] at st1
 have hr1:H1.get r=some (.cells 54 (scanCells s (i:Nat) 22)):=by rw [hH1,AHeap.get_set,if_pos rfl,if_pos (AHeap.get_lt hr)]; rfl
 have hb1:H1.get b=some (.cells 31 tok0):=by rw [hH1,AHeap.get_set,if_neg (Ne.symm hrb)]; exact hb
 have st2:=store_all (n:=5) hb1 (new:=tok0) rfl rfl rfl
 have hb2:(H1.set b (.cells 31 tok0)).get b=some (.cells 31 tok0):=by rw [AHeap.get_set,if_pos rfl,if_pos (AHeap.get_lt hb1)]
 have hr2:(H1.set b (.cells 31 tok0)).get r=some (.cells 54 (scanCells s (i:Nat) 22)):=by rw [AHeap.get_set,if_neg hrb]; exact hr1
 have hf2:∀ q,q≠r→q≠b→(H1.set b (.cells 31 tok0)).get q=H.get q:=fun q h1 h2=>by rw [AHeap.get_set,if_neg h2,hH1,AHeap.get_set,if_neg h1]
 have hn2:(H1.set b (.cells 31 tok0)).next=H.next:=by rw [hH1]; rfl
 unfold tok0 at st2
 intro n
 induction n with
 | zero=>
  intro j u hj hjs hend hno
  have hc:decide ((j:Int) < ((i+17:Nat):Int))=false:=by simp; omega
  obtain rfl:j=i+17:=by omega
  refine DR.go rfl ?_
  simp -dsimp only [SZ,EZ,astep,aun,AVal.cells,seval,l1,abin,hw17,hc]
  refine DR.ne rfl rfl ?_
  refine DR.exit (k':=k') (by simpa [aexitTo] using hk) ?_
  exact DR.only [0,2,4,5] (hend u rfl)
 | succ n ih=>
  intro j u hj hjs hend hno
  have hc:decide ((j:Int) < ((i+17:Nat):Int))=true:=by simp; omega
  have hw1:IntKind.i64.wrap ((j:Int)+1)=((j+1:Nat):Int):=wrap64 (n:=j+1) (by omega)
  refine DR.go rfl ?_
  simp -dsimp only [SZ,EZ,astep,aun,AVal.cells,seval,l1,abin,hw17,hc]
  refine DR.ye rfl rfl ?_
  rcases Nat.lt_or_ge j s.size with hlt | hge
  ·obtain ⟨c,hct⟩:=byte_at hlt
   have hx:=idx_at hct
   have he:((j:Int)==(s.size:Int))=false:=by rw [beq_eq_false_iff_ne]; omega
   simp only [bitsW,hct] at hend hno
   refine DR.go rfl ?_
   simp -dsimp only [SZ,EZ,astep,aun,AVal.cells,seval,l0,hl,abin,he,hx]
   refine (of_chk t52 c H).mono ?_
   rintro a H2 ⟨rfl,rfl⟩
   simp -dsimp only [SZ,EZ,astep,aun,AVal.cells,seval]
   cases hv:decide (hexv c.toNat < 0) with
   | true=>
    rw [hv] at hno
    simp only [if_true] at hno
    simp -dsimp only [SZ,EZ,astep,aun,AVal.cells,seval,abin,hv]
    refine DR.ye rfl rfl ?_
    refine DR.go rfl ?_
    simp -dsimp only [SZ,EZ,astep,aun,AVal.cells,seval,st1]
    refine DR.go rfl ?_
    simp -dsimp only [SZ,EZ,astep,aun,AVal.cells,seval,Env.parts,afill,st2]
    exact DR.ret (hno trivial _ _ hn2 hb2 hr2 hf2)
   | false=>
    rw [hv] at hend hno
    simp only [Bool.false_eq_true,if_false] at hend hno
    simp -dsimp only [SZ,EZ,astep,aun,AVal.cells,seval,abin,hv]
    refine DR.ne rfl rfl ?_
    refine DR.go rfl ?_
    simp -dsimp only [SZ,EZ,astep,aun,AVal.cells,seval,abin_shl,l0,hx]
    refine (of_chk t52 c H2).mono ?_
    rintro a H3 ⟨rfl,rfl⟩
    simp -dsimp only [SZ,EZ,astep,aun,AVal.cells,seval]
    simp -dsimp only [SZ,EZ,astep,aun,AVal.cells,seval,abin_or]
    refine DR.go rfl ?_
    simp -dsimp only [SZ,EZ,astep,aun,AVal.cells,seval,abin,hw1]
    refine DR.nm rfl ?_
    refine DR.inLoop ?_
    exact ih (j+1) _ (by omega) (by omega) hend hno
  ·obtain rfl:j=s.size:=by omega
   simp only [bitsW,byte_none (Nat.lt_irrefl s.size)] at hno
   refine DR.go rfl ?_
   simp -dsimp only [SZ,EZ,astep,aun,AVal.cells,seval,l0,hl,abin,beq_self_eq_true]
   refine DR.ye rfl rfl ?_
   refine DR.go rfl ?_
   simp -dsimp only [SZ,EZ,astep,aun,AVal.cells,seval,st1]
   refine DR.go rfl ?_
   simp -dsimp only [SZ,EZ,astep,aun,AVal.cells,seval,Env.parts,afill,st2]
   exact DR.ret (hno trivial _ _ hn2 hb2 hr2 hf2)
end
def Told (H H':AHeap) (r:Nat) (s:ByteArray) (i:Nat) (e0:Int) (a:AVal) (x:Int ⊕ (List AVal × Nat)):Prop:=
 (match x with
  | .inr p=>a = .tup [.agg p.1,.int .i64 (p.2:Nat)]∧H'.get r=some (.cells 54 (scanCells s (i:Nat) e0))
  | .inl e=>(∃ cs j,a = .tup [.agg cs,.int .i64 j]∧cs.length=5∧ones cs=true)∧H'.get r=some (.cells 54 (scanCells s (i:Nat) e)))∧H.next≤H'.next∧∀ j,j < H.next→j≠r→H'.get j=H.get j
def bitsTok (s:ByteArray) (i:Nat):Int ⊕ (List AVal × Nat):=match bits s i with
 | some f=>.inr (tokC 4 ⟨#[]⟩ 0 f 0,i+17)
 | none=>.inl 22
theorem g28 {H:AHeap} {r:Nat} {s:ByteArray} {i:Nat} {e0:Int} (hr:H.get r=some (.cells 54 (scanCells s (i:Nat) e0))) (hsz:s.size < 1000000) (hi:i < s.size) :
  DCall Tryd.prog 28 [.ptr r 0] H fun a H'=>Told H H' r s i e0 a (bitsTok s i):=by
 refine DCall.of_body (fn:=Tryd.f28) (by kernel_rfl) c28 (by kernel_rfl) (by simp [f28]) ?_
 unfold f28
 simp only []
 obtain ⟨H1,hH1⟩:∃ H1,H1=H.push (.cells 31 [.int .i64 0,.str ⟨#[]⟩,.int .i64 0,.flt .f64 0,.int .i64 0]):=⟨_,rfl⟩
 have hrl:=AHeap.get_lt hr
 have n1:H1.next=H.next+1:=by rw [hH1]; rfl
 have g1:H1.get H.next=some (.cells 31 tok0):=by rw [hH1,AHeap.get_push,if_pos rfl]; rfl
 have f1:∀ j,j < H.next→H1.get j=H.get j:=fun j hj=>by rw [hH1,AHeap.get_push,if_neg (by omega)]
 have r1:H1.get r=some (.cells 54 (scanCells s (i:Nat) e0)):=(f1 r hrl).trans hr
 have l1:=load_cell r1 (o:=1) (v:=.int .i64 (i:Nat)) rfl
 have hw1:IntKind.i64.wrap ((i:Int)+1)=((i+1:Nat):Int):=wrap64 (n:=i+1) (by omega)
 refine DR.go rfl ?_
 simp -dsimp only [SZ,EZ,astep,aun,AVal.cells,seval,← hH1]
 refine DR.go rfl ?_
 simp -dsimp only [SZ,EZ,astep,aun,AVal.cells,seval,l1,abin,hw1]
 refine DR.go rfl ?_
 simp -dsimp only [SZ,EZ,astep,aun,AVal.cells,seval]
 refine DR.nm rfl ?_
 refine DR.loop ?_
 refine loop36 (b:=H.next) r1 g1 (by omega) hsz hi rfl 16 (i+1) 0 (by omega) (by omega) ?_ ?_
 ·intro u hu
  obtain ⟨hu0,hu1⟩:=bitsW_range hu (by omega) (by omega)
  obtain ⟨H2,hH2⟩:∃ H2,H2=H1.push (.cells 78 [.int .i64 0,.int .i64 0,.flt .f64 0,.str ⟨#[]⟩,.nils]):=⟨_,rfl⟩
  have g2:H2.get H1.next=some (.cells 78 [.int .i64 0,.int .i64 0,.flt .f64 0,.str ⟨#[]⟩,.nils]):=by rw [hH2,AHeap.get_push,if_pos rfl]
  have f2:∀ j,j < H1.next→H2.get j=H1.get j:=fun j hj=>by rw [hH2,AHeap.get_push,if_neg (by omega)]
  have hn2:H2.next=H1.next+1:=by rw [hH2]; rfl
  refine DR.go rfl ?_
  simp -dsimp only [SZ,EZ,astep,aun,AVal.cells,seval]
  refine (g41 H1 hu0 hu1).mono ?_
  rintro a H3 ⟨rfl,rfl⟩
  simp -dsimp only [SZ,EZ,astep,aun,AVal.cells,seval]
  unfold bitsVal
  cases hf:fin u.toNat with
  | true=>
   have hbs:bitsTok s i = .inr (tokC 4 ⟨#[]⟩ 0 u.toNat 0,i+17):=by unfold bitsTok bits; rw [hu]; simp [hf]
   rw [hbs,if_pos rfl]
   have st:=store_all (n:=5) g2 (new:=[.int .i64 2,.int .i64 0,.flt .f64 u.toNat,.str ⟨#[]⟩,.nils]) rfl rfl rfl
   obtain ⟨H4,hH4⟩:∃ H4,H4=H2.set H3.next (.cells 78 [.int .i64 2,.int .i64 0,.flt .f64 u.toNat,.str ⟨#[]⟩,.nils]):=⟨_,rfl⟩
   rw [← hH4] at st
   have g4:H4.get H3.next=some (.cells 78 [.int .i64 2,.int .i64 0,.flt .f64 u.toNat,.str ⟨#[]⟩,.nils]):=by rw [hH4,AHeap.get_set,if_pos rfl,if_pos (AHeap.get_lt g2)]
   have f4:∀ j,j < H3.next→H4.get j=H3.get j:=fun j hj=>by rw [hH4,AHeap.get_set,if_neg (by omega),f2 j hj]
   have lF:=load_cell g4 (o:=2) (v:=.flt .f64 u.toNat) rfl
   have hn4:H4.next=H2.next:=by rw [hH4]; rfl
   have t4:H4.get H.next=some (.cells 31 tok0):=(f4 H.next (by omega)).trans g1
   have st5:=store_all (n:=5) t4 (new:=tokC 4 ⟨#[]⟩ 0 u.toNat 0) rfl rfl rfl
   have ge:(H4.set H.next (.cells 31 (tokC 4 ⟨#[]⟩ 0 u.toNat 0))).get H.next=some (.cells 31 (tokC 4 ⟨#[]⟩ 0 u.toNat 0)):=by rw [AHeap.get_set,if_pos rfl,if_pos (AHeap.get_lt t4)]
   have hld:=load_all (n:=5) ge rfl
   unfold tokC at st5
   simp -dsimp only [SZ,EZ,astep,aun,AVal.cells,seval,floatTerm,← hH2,st]
   refine DR.go rfl ?_
   simp -dsimp only [SZ,EZ,astep,aun,AVal.cells,seval,abin,bne_self_eq_false]
   refine DR.ne rfl rfl ?_
   refine DR.go rfl ?_
   simp -dsimp only [SZ,EZ,astep,aun,AVal.cells,seval,lF,Env.parts,afill,AVal.cells,LZ,st5]
   refine DR.nm rfl ?_
   refine DR.ret ?_
   refine ⟨.tup [.agg (tokC 4 ⟨#[]⟩ 0 u.toNat 0),.int .i64 ((i+17:Nat):Int)],?_,⟨rfl,?_⟩,?_,fun j hj hne=> ?_⟩
   ·have hld':aload (H4.set H.next (.cells 31 [.int .i64 4,.str ⟨#[]⟩,.int .i64 0,.flt .f64 u.toNat,.int .i64 0])) (some 5) (.ptr H.next 0)=_:=hld
    simp [aresult,ares,Env.get,hld']
   ·rw [AHeap.get_set,if_neg (by omega),f4 r (by omega)]; exact r1
   ·show H.next≤H4.next; omega
   ·rw [AHeap.get_set,if_neg (by omega),f4 j (by omega),f1 j hj]
  | false=>
   have hbs:bitsTok s i = .inl 22:=by unfold bitsTok bits; rw [hu]; simp [hf]
   rw [hbs,if_neg (by simp)]
   have st:=store_all (n:=5) g2 (new:=[.int .i64 0,.int .i64 0,.flt .f64 0,.str ⟨#[]⟩,.nils]) rfl rfl rfl
   obtain ⟨H4,hH4⟩:∃ H4,H4=H2.set H3.next (.cells 78 [.int .i64 0,.int .i64 0,.flt .f64 0,.str ⟨#[]⟩,.nils]):=⟨_,rfl⟩
   rw [← hH4] at st
   have g4:H4.get H3.next=some (.cells 78 [.int .i64 0,.int .i64 0,.flt .f64 0,.str ⟨#[]⟩,.nils]):=by rw [hH4,AHeap.get_set,if_pos rfl,if_pos (AHeap.get_lt g2)]
   have f4:∀ j,j < H3.next→H4.get j=H3.get j:=fun j hj=>by rw [hH4,AHeap.get_set,if_neg (by omega),f2 j hj]
   have hn4:H4.next=H2.next:=by rw [hH4]; rfl
   have r4:H4.get r=some (.cells 54 (scanCells s (i:Nat) e0)):=(f4 r (by omega)).trans r1
   have sr:=astore_one r4 (o:=2) (x:=.int .i64 22) (by simp [scanCells]) rfl
   obtain ⟨H5,hH5⟩:∃ H5,H5=H4.set r (.cells 54 ((scanCells s (i:Nat) e0).set 2 (.int .i64 22))):=⟨_,rfl⟩
   rw [← hH5] at sr
   have r5:H5.get r=some (.cells 54 (scanCells s (i:Nat) 22)):=by rw [hH5,AHeap.get_set,if_pos rfl,if_pos (AHeap.get_lt r4)]; rfl
   have f5:∀ j,j≠r→H5.get j=H4.get j:=fun j hj=>by rw [hH5,AHeap.get_set,if_neg hj]
   have hn5:H5.next=H4.next:=by rw [hH5]; rfl
   have g5:H5.get H3.next=_:=(f5 H3.next (by omega)).trans g4
   have lF:=load_cell g5 (o:=2) (v:=.flt .f64 0) rfl
   have t5:H5.get H.next=some (.cells 31 tok0):=(f5 H.next (by omega)).trans ((f4 H.next (by omega)).trans g1)
   have st5:=store_all (n:=5) t5 (new:=tokC 4 ⟨#[]⟩ 0 0 0) rfl rfl rfl
   have ge:(H5.set H.next (.cells 31 (tokC 4 ⟨#[]⟩ 0 0 0))).get H.next=some (.cells 31 (tokC 4 ⟨#[]⟩ 0 0 0)):=by rw [AHeap.get_set,if_pos rfl,if_pos (AHeap.get_lt t5)]
   have hld:=load_all (n:=5) ge rfl
   unfold tokC at st5
   have h11:((11:Int) != 0)=true:=by decide
   simp -dsimp only [SZ,EZ,astep,aun,AVal.cells,seval,noTerm,← hH2,st]
   refine DR.go rfl ?_
   simp -dsimp only [SZ,EZ,astep,aun,AVal.cells,seval,abin,h11]
   refine DR.ye rfl rfl ?_
   refine DR.go rfl ?_
   simp -dsimp only [SZ,EZ,astep,aun,AVal.cells,seval,sr]
   refine DR.go rfl ?_
   simp -dsimp only [SZ,EZ,astep,aun,AVal.cells,seval,lF,Env.parts,afill,AVal.cells,LZ,st5]
   refine DR.nm rfl ?_
   refine DR.ret ?_
   refine ⟨.tup [.agg (tokC 4 ⟨#[]⟩ 0 0 0),.int .i64 ((i+17:Nat):Int)],?_,⟨⟨_,_,rfl,rfl,rfl⟩,?_⟩,?_,fun j hj hne=> ?_⟩
   ·have hld':aload (H5.set H.next (.cells 31 [.int .i64 4,.str ⟨#[]⟩,.int .i64 0,.flt .f64 0,.int .i64 0])) (some 5) (.ptr H.next 0)=_:=hld
    simp [aresult,ares,Env.get,hld']
   ·rw [AHeap.get_set,if_neg (by omega)]; exact r5
   ·show H.next≤H5.next; omega
   ·rw [AHeap.get_set,if_neg (by omega),f5 j hne,f4 j (by omega),f1 j hj]
 ·intro hu m H' hn hb' hr' hf'
  have hbs:bitsTok s i = .inl 22:=by unfold bitsTok bits; rw [hu]
  rw [hbs]
  have hld:=load_all (n:=5) hb' rfl
  refine ⟨.tup [.agg tok0,.int .i64 m],by simp [aresult,ares,Env.get,hld],⟨⟨_,_,rfl,rfl,rfl⟩,hr'⟩,by omega,fun j hj hne=> ?_⟩
  rw [hf' j hne (by omega),f1 j hj]
end Go.Am.Rl
namespace Go.Am.Rl
open Go.Proofs
def stepD (v:Int) (b:UInt8):Int:=IntKind.i64.wrap (IntKind.i64.wrap (10 * v)+IntKind.i64.wrap (IntKind.u8.wrap ((b.toNat:Int) - 48)))
def wholeW (s:ByteArray):Nat→Nat→Int→Int
 | 0,_,v=>v
 | n+1,i,v=>match s[i]? with
  | some b=>wholeW s n (i+1) (stepD v b)
  | none=>v
def whole (s:ByteArray):Int:=wholeW s s.size 0 0
theorem abin_mul (a b:Int):abin .mul (.int .i64 a) (.int .i64 b)=some (.int .i64 (IntKind.i64.wrap (a * b))):=by
 simp only [abin]
 rw [if_pos trivial]
theorem abin_sub8 (a b:Int):abin .sub (.int .u8 a) (.int .u8 b)=some (.int .u8 (IntKind.u8.wrap (a - b))):=by
 simp only [abin]
 rw [if_pos trivial]
section
variable {H:AHeap} {s:ByteArray} {k k':List AItem} {Q:Env→AHeap→Prop}
end
end Go.Am.Rl
namespace Go.Am.Rl
open Go.Proofs
theorem skipW_all {p:Nat→Bool} {s:ByteArray}:∀ {n i j:Nat},i≤j→j < skipW p s n i→∃ b,s[j]? = some b∧p b.toNat=true
 | 0,i,j,h1,h2=>by simp only [skipW] at h2; omega
 | n+1,i,j,h1,h2=>by
  simp only [skipW] at h2
  split at h2
  ·rename_i b hb
   split at h2
   ·rename_i hp
    by_cases hij:i=j
    ·subst hij; exact ⟨b,hb,hp⟩
    ·exact skipW_all (by omega) h2
   ·omega
  ·omega
def ten10:Nat→Nat
 | 0=>4607182418800017408
 | n+1=>(FloatKind.f64.format.mul (ten10 n) 4621819117588971520).getD 0
theorem ten_step:∀ n,n < 15→FloatKind.f64.format.mul (ten10 n) 4621819117588971520=some (ten10 (n+1)):=by decide
theorem ten_read:∀ n,n < 16→(match FloatKind.f64.format.read (ten10 n) with | .number _ m _=>m != 0 | _=>false)=true:=by decide
theorem nearest_read (neg:Bool) (m:Nat) (i:Int):(FloatKind.f64.format.read (FloatKind.f64.format.nearest neg m i)).isNaN=false:=by
 have hs:FloatKind.f64.format.signWeight=9223372036854775808:=by decide
 have hb:FloatKind.f64.format.binade=4503599627370496:=by decide
 have hi:FloatKind.f64.format.infRung=9218868437227405312:=by decide
 have key:∀ r,r≤9218868437227405312→(FloatKind.f64.format.read (FloatKind.f64.format.word neg r)).isNaN=false:=by
  intro r hr
  have hm:(FloatKind.f64.format.word neg r) % 9223372036854775808=r:=by
   unfold Ieee.Format.word
   rw [hs]
   cases neg <;> simp <;> omega
  unfold Ieee.Format.read
  simp only [hs,hb,hi,hm]
  split
  ·rfl
  ·split
   ·rfl
   ·split
    ·rfl
    ·omega
 unfold Ieee.Format.nearest
 split
 ·exact key 0 (by omega)
 ·exact key _ (by rw [hi]; exact Nat.min_le_right _ _)
def quoW (v:Int) (n:Nat):Nat:=(FloatKind.f64.format.div (FloatKind.f64.nearest v) (ten10 n)).getD 0
theorem quo_some (v:Int) {n:Nat} (hn:n < 16):FloatKind.f64.format.div (FloatKind.f64.nearest v) (ten10 n)=some (quoW v n):=by
 have h1:(FloatKind.f64.format.read (FloatKind.f64.nearest v)).isNaN=false:=nearest_read _ _ _
 have h2:=ten_read n hn
 unfold quoW Ieee.Format.div
 revert h1 h2
 cases FloatKind.f64.format.read (FloatKind.f64.nearest v) with
 | nan s t=>intro h1; cases h1
 | infinity s=>
  cases FloatKind.f64.format.read (ten10 n) with
  | nan s t=>intro _ h; cases h
  | infinity s=>intro _ h; cases h
  | number t m j=>intros; rfl
 | number s m' j'=>
  cases FloatKind.f64.format.read (ten10 n) with
  | nan s t=>intro _ h; cases h
  | infinity s=>intro _ h; cases h
  | number t m j=>
   intro _ h
   have hm:m≠0:=by simpa using h
   simp only [Ieee.Datum.quotient,if_neg hm,Option.map_some,Option.getD_some]
theorem abin_quo (v:Int) {n:Nat} (hn:n < 16):abin .quo (.flt .f64 (FloatKind.f64.nearest v)) (.flt .f64 (ten10 n))=some (.flt .f64 (quoW v n)):=by
 simp only [abin]
 rw [if_pos trivial]
 show some (flOr .f64 (FloatKind.f64.format.div _ _))=_
 rw [quo_some v hn]; rfl
theorem abin_ten {n:Nat} (hn:n < 15):abin .mul (.flt .f64 (ten10 n)) (.flt .f64 4621819117588971520)=some (.flt .f64 (ten10 (n+1))):=by
 simp only [abin]
 rw [if_pos trivial]
 show some (flOr .f64 (FloatKind.f64.format.mul _ _))=_
 rw [ten_step n hn]; rfl
def lead0 (s:ByteArray) (i:Nat):Bool:=match s[i]? with
 | some b=>(b.toNat:Int)==48
 | none=>false
def dotted (s:ByteArray) (j:Nat):Bool:=match s[j]?,s[j+1]? with
 | some c,some d=>((c.toNat:Int)==46)&&isDig d.toNat
 | _,_=>false
def numI (hd:ByteArray) (j:Nat) (pl:Int):Int ⊕ (List AVal × Nat):=
 if (decide ((hd.size:Int) > 18) || decide (whole hd > 576460752303423487))=true then .inl 22 else .inr (tokC 3 ⟨#[]⟩ (whole hd) 0 pl,j)
def numF (hd pt:ByteArray) (e:Nat) (pl:Int):Int ⊕ (List AVal × Nat):=
 if decide ((hd.size:Int)+(pt.size:Int) > 15)=true then .inl 22 else .inr (tokC 4 ⟨#[]⟩ 0 (quoW (whole (hd++pt)) pt.size) pl,e)
def numAt (s hd:ByteArray) (j:Nat) (pl:Int):Int ⊕ (List AVal × Nat):=
 if (decide ((hd.size:Int) > 1)&&lead0 hd 0)=true then .inl 22
 else if dotted s j=true then numF hd (s.extract (j+1) (skip isDig s (j+1))) (skip isDig s (j+1)) pl
 else numI hd j pl
def numTok (s:ByteArray) (i:Nat) (pl:Int):Int ⊕ (List AVal × Nat):=numAt s (s.extract i (skip isDig s i)) (skip isDig s i) pl
section
variable {H:AHeap} {s:ByteArray} {k k':List AItem} {Q:Env→AHeap→Prop}
end
end Go.Am.Rl
namespace Go.Am.Rl
open Go.Proofs
theorem size_ext {s:ByteArray} {i j:Nat} (hj:j≤s.size):(s.extract i j).size=j - i:=by
 rw [ByteArray.size_extract]; omega
theorem dotted_none {s:ByteArray} {j:Nat} (h:s[j+1]? = none):dotted s j=false:=by
 unfold dotted; rw [h]; cases s[j]? <;> rfl
theorem dotted_at {s:ByteArray} {j:Nat} {c d:UInt8} (h:s[j]? = some c) (h1:s[j+1]? = some d):dotted s j=(((c.toNat:Int)==46)&&isDig d.toNat):=by
 unfold dotted; rw [h,h1]
section
variable {H:AHeap} {s hd:ByteArray} {i j b:Nat} {k:List AItem} {Q:Env→AHeap→Prop}
end
end Go.Am.Rl
