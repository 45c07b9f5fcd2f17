/- The functions, in the abstract machine's form (written by gen.py). -/
import Derived.Test.YtmoimchdhgoeeaaDoorFn2
import Derived.Test.YtmoimchdhgoeeaaDoorProg
set_option linter.unusedVariables false
namespace Go.Am.Rl
open Go.Proofs
set_option maxRecDepth 20000
abbrev r51_0:LA:=[oo 2 (.mv (.c (.str ⟨#[]⟩))) []]
abbrev r51_1:LA:=[zm 3 0 [],oo 4 (.bin .lss (.t 3) (.c (.int .u64 10))) [0]]
abbrev r51_2:LA:=[zm 5 0 [],oo 6 (.bin .add (.c (.int .u64 48)) (.t 5)) [0],oo 7 (.conv (.toInt .u8) (.t 6)) [1],oo 8 (.bslice 5 1 [.int .u8 0] [(0,1,(.t 7))]) [2],oo 9 (.conv .bytesStr (.t 8)) [3],zm 2 9 [4,0,1,2,3,4]]
abbrev r51_3:LA:=[zm 10 0 [],oo 11 (.bin .quo (.t 10) (.c (.int .u64 10))) [0],zk 12 51 11 [1],zm 13 0 [],oo 14 (.bin .rem (.t 13) (.c (.int .u64 10))) [3],oo 15 (.bin .add (.c (.int .u64 48)) (.t 14)) [4],oo 16 (.conv (.toInt .u8) (.t 15)) [5],oo 17 (.bslice 5 1 [.int .u8 0] [(0,1,(.t 16))]) [6],oo 18 (.conv .bytesStr (.t 17)) [7],oo 19 (.bin .add (.t 12) (.t 18)) [2,8],zm 2 19 [9,2,0,1,2,3,4,5,6,7,8,9]]
def m51_3:List Nat:=[0,1,3,0,8,24,56,120,248,511,1023]
theorem d51_3:okDraw r51_3 m51_3=true:=by kernel_rfl
def k51:List (List Nat):=[[0],[0,4],[2],[2]]
def f51:AFunc:=⟨20,[.tmp 2],(.seq (.g r51_0 [0]) (.seq (.seq (.g r51_1 [0,4]) (.cond (.t 4) (.seq (.g r51_2 [2]) (.ret)) (.skip))) (.seq (.region true r51_3 [2]) (.ret))))⟩
theorem c51:cfunc Tryd.prog (kof k51) Tryd.f51=some f51:=by kernel_rfl
end Go.Am.Rl
