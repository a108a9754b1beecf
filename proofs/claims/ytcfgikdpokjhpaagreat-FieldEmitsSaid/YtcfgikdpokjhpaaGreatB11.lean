/- A part of the proof: texts K19aa. -/
import Derived.Test.YtcfgikdpokjhpaaGreatB5
import Derived.Test.YtcfgikdpokjhpaaGreatB10
namespace Go.Sh
set_option linter.unusedSectionVars false
set_option linter.unnecessarySimpa false
set_option linter.unusedSimpArgs false
set_option linter.unusedVariables false
set_option maxRecDepth 100000
set_option maxHeartbeats 4000000
def EI(n:Int):List SV:=[.aA 2 [[acI,acI],[acH 10,acI]] true,.aA 1 [[acH 100000],[acH 100000]] true,.aA 0 [] true,acH 2,acH 1,acH 2000,.aA 0 [] true,.aA 0 [] true,.aA 2 [[acI,acI],[acH n,acI]] true,acI,acI,acH 9,.aA 1 [[acH 5],[acH 6]] true]
def C0:SV:=.aA 14 [[acH 1,acH 1,acH 4,acI,acH 1,acI,acI,acI,acI,acI,acI,acI,acI,.str ⟨#[97,98,99]⟩],[acH 2,acH 1,acI,acI,acI,acI,acI,acI,acI,acI,acI,acI,acI,.str ⟨#[]⟩]] true
def GZ:SV:=.ba [.aA 15 [[.bool true,.bool false,acI,acI,acI,acI,acI,acI,acI,acI,acI,acI,acI,.str ⟨#[]⟩,acH 300],[.bool false,.bool true,acH 4,acI,acH 1,acI,acI,acI,acI,acI,acI,acI,acI,.str ⟨#[97,98,99]⟩,acH 300]] true,.aA 4 [[acI,acH 5,acH 32120,acH 32632],[acH 1,acH 5,acH 33632,acH 34464]] false,acI]
def Gz:SV:=.ba [.aA 15 [[.bool false,.bool false,acI,acI,acI,acI,acI,acI,acI,acI,acI,acI,acI,.str ⟨#[]⟩,acI],[.bool false,.bool false,acI,acI,acI,acI,acI,acI,acI,acI,acI,acI,acI,.str ⟨#[]⟩,acI]] true,.aA 4 [[acI,acH 5,acH 32120,acH 32632]] false,acI]
def Wp:List SV:=[.agg [acH 4,acI,acH 1,acI,acI,acI,acI,acI,acI,acI,acI,.str ⟨#[97,98,99]⟩]]
def KU:SV:=.ba [.str ⟨#[128,132,0,0,27,11,19,24,167,238]⟩,acI]
theorem Ga(n:Nat)(H:ab):aa T (n+8) (.fn 133) Wp H=some (KU,H):=fS NF (by kernel_rfl) (iE (T:=T) 300 (n+8) (.fn 133) Wp ah (KU,ah) (by kernel_rfl))
theorem K9(H:ab):aa T 59 (.fn 11) [.agg (EI 300),acH 3,C0] H=some (GZ,H):=fS sS (by kernel_rfl) (vd (T:=T) 300 (xt Ga) 59 (.fn 11) [.agg (EI 300),acH 3,C0] ah (GZ,ah) (by kernel_rfl))
end Go.Sh
