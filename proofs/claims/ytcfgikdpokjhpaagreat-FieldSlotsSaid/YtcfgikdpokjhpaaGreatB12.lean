/- Part of the proof of FieldSlotsSaid: texts K19aa. -/
import Derived.Test.YtcfgikdpokjhpaaGreatB5
import Derived.Test.YtcfgikdpokjhpaaGreatB11
namespace Go.Sh
set_option linter.unusedSectionVars false
set_option linter.unnecessarySimpa false
set_option linter.unusedSimpArgs false
set_option linter.unusedVariables false
set_option maxRecDepth 100000
set_option maxHeartbeats 4000000
def Db(n:Int):List SV:=[.ay 2 [[aex,aex],[aew 10,aex]] true,.ay 1 [[aew 100000],[aew 100000]] true,.ay 0 [] true,aew 2,aew 1,aew 2000,.ay 0 [] true,.ay 0 [] true,.ay 2 [[aex,aex],[aew n,aex]] true,aex,aex,aew 9,.ay 1 [[aew 5],[aew 6]] true]
def C2:SV:=.ay 14 [[aew 1,aew 1,aew 4,aex,aew 1,aex,aex,aex,aex,aex,aex,aex,aex,.str ⟨#[97,98,99]⟩],[aew 2,aew 1,aex,aex,aex,aex,aex,aex,aex,aex,aex,aex,aex,.str ⟨#[]⟩]] true
def Gi:SV:=.bk [.ay 15 [[.bool true,.bool false,aex,aex,aex,aex,aex,aex,aex,aex,aex,aex,aex,.str ⟨#[]⟩,aew 300],[.bool false,.bool true,aew 4,aex,aew 1,aex,aex,aex,aex,aex,aex,aex,aex,.str ⟨#[97,98,99]⟩,aew 300]] true,.ay 4 [[aex,aew 5,aew 32120,aew 32632],[aew 1,aew 5,aew 33632,aew 34464]] false,aex]
def Ig:SV:=.bk [.ay 15 [[.bool false,.bool false,aex,aex,aex,aex,aex,aex,aex,aex,aex,aex,aex,.str ⟨#[]⟩,aex],[.bool false,.bool false,aex,aex,aex,aex,aex,aex,aex,aex,aex,aex,aex,.str ⟨#[]⟩,aex]] true,.ay 4 [[aex,aew 5,aew 32120,aew 32632]] false,aex]
def Xb:List SV:=[.agg [aew 4,aex,aew 1,aex,aex,aex,aex,aex,aex,aex,aex,.str ⟨#[97,98,99]⟩]]
def J6:SV:=.bk [.str ⟨#[128,132,0,0,27,11,19,24,167,238]⟩,aex]
theorem FU(n:Nat)(H:ae):aa T (n+8) (.fn 133) Xb H=some (J6,H):=eB J3 (by kernel_rfl) (fk (T:=T) 300 (n+8) (.fn 133) Xb ah (J6,ah) (by kernel_rfl))
theorem Ob(H:ae):aa T 59 (.fn 11) [.agg (Db 300),aew 3,C2] H=some (Gi,H):=eB Gl (by kernel_rfl) (u5 (T:=T) 300 (yw FU) 59 (.fn 11) [.agg (Db 300),aew 3,C2] ah (Gi,ah) (by kernel_rfl))
end Go.Sh
