/- Parts: V4. -/
import Derived.Test.YtcphfgcfmphlfaaDoorVX
set_option maxRecDepth 20000
namespace Go.Am.Rl
open Go.Proofs
def isLow (c:Nat):Bool:=decide (97≤c)&&decide (c≤122)
def isUp (c:Nat):Bool:=decide (65≤c)&&decide (c≤90)
def isDig (c:Nat):Bool:=decide (48≤c)&&decide (c≤57)
def isNam (c:Nat):Bool:=isLow c || isUp c || isDig c || decide (c=95) || decide (c=64)
def hexv (c:Nat):Int:=if isDig c=true then (c:Int) - 48 else if (decide (97≤c)&&decide (c≤102))=true then (c:Int) - 87 else -1
def chk (f:Nat) (g:Nat→AVal):Bool:=(List.range 256).all fun c=>match aclosed tab Orc.none 10000 20 sz1 f [.int .u8 (c:Int)] with
 | some v=>AVal.eqb v (g c)
 | none=>false
theorem of_chk {f:Nat} {g:Nat→AVal} (h:chk f g=true) (b:UInt8) (H:AHeap):DCall Tryd.prog f [.int .u8 b.toNat] H fun a H'=>a=g b.toNat∧H'=H:=by
 unfold chk at h
 have:=List.all_eq_true.mp h b.toNat (by rw [List.mem_range]; exact b.toNat_lt)
 split at this
 ·rename_i v hv
  have e:=AVal.eqb_eq _ _ this
  subst e
  exact (aclosed_sound mixed tab_ok (Orc.none_ok _) hv H).dcall
 ·cases this
theorem t32:chk 24 (fun c=>.bool (isLow c))=true:=by kernel_rfl
theorem t33:chk 25 (fun c=>.bool (isUp c))=true:=by kernel_rfl
theorem t34:chk 26 (fun c=>.bool (isDig c))=true:=by kernel_rfl
theorem t39:chk 31 (fun c=>.bool (isNam c))=true:=by kernel_rfl
theorem t52:chk 40 (fun c=>.int .i64 (hexv c))=true:=by kernel_rfl
theorem t22:chk 18 (fun c=>.bool (decide (c≠10)))=true:=by kernel_rfl
end Go.Am.Rl
