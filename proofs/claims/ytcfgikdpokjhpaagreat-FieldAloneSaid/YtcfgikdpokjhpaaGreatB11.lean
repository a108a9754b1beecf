/- A part of the proof: texts K19aa. -/
import Derived.Test.YtcfgikdpokjhpaaGreatB5
import Derived.Test.YtcfgikdpokjhpaaGreatB10
namespace Go.Sh
set_option linter.unusedSectionVars false
set_option linter.unnecessarySimpa false
set_option linter.unusedSimpArgs false
set_option linter.unusedVariables false
set_option maxRecDepth 100000
set_option maxHeartbeats 4000000
def FG(n:Int):List SV:=[.ao 2 [[af6,af6],[af5 10,af6]] true,.ao 1 [[af5 100000],[af5 100000]] true,.ao 0 [] true,af5 2,af5 1,af5 2000,.ao 0 [] true,.ao 0 [] true,.ao 2 [[af6,af6],[af5 n,af6]] true,af6,af6,af5 9,.ao 1 [[af5 5],[af5 6]] true]
def Ft:SV:=.ao 14 [[af5 1,af5 1,af5 4,af6,af5 1,af6,af6,af6,af6,af6,af6,af6,af6,.str ⟨#[97,98,99]⟩],[af5 2,af5 1,af6,af6,af6,af6,af6,af6,af6,af6,af6,af6,af6,.str ⟨#[]⟩]] true
def Jj:SV:=.bc [.ao 15 [[.bool true,.bool false,af6,af6,af6,af6,af6,af6,af6,af6,af6,af6,af6,.str ⟨#[]⟩,af5 300],[.bool false,.bool true,af5 4,af6,af5 1,af6,af6,af6,af6,af6,af6,af6,af6,.str ⟨#[97,98,99]⟩,af5 300]] true,.ao 4 [[af6,af5 5,af5 32120,af5 32632],[af5 1,af5 5,af5 33632,af5 34464]] false,af6]
def IB:SV:=.bc [.ao 15 [[.bool false,.bool false,af6,af6,af6,af6,af6,af6,af6,af6,af6,af6,af6,.str ⟨#[]⟩,af6],[.bool false,.bool false,af6,af6,af6,af6,af6,af6,af6,af6,af6,af6,af6,.str ⟨#[]⟩,af6]] true,.ao 4 [[af6,af5 5,af5 32120,af5 32632]] false,af6]
def Zu:List SV:=[.agg [af5 4,af6,af5 1,af6,af6,af6,af6,af6,af6,af6,af6,.str ⟨#[97,98,99]⟩]]
def MS:SV:=.bc [.str ⟨#[128,132,0,0,27,11,19,24,167,238]⟩,af6]
theorem Ig(n:Nat)(H:ab):aa T (n+8) (.fn 133) Zu H=some (MS,H):=fG P4 (by kernel_rfl) (im (T:=T) 300 (n+8) (.fn 133) Zu ah (MS,ah) (by kernel_rfl))
theorem Oe(H:ab):aa T 59 (.fn 11) [.agg (FG 300),af5 3,Ft] H=some (Jj,H):=fG xG (by kernel_rfl) (xp (T:=T) 300 (Ad Ig) 59 (.fn 11) [.agg (FG 300),af5 3,Ft] ah (Jj,ah) (by kernel_rfl))
end Go.Sh
