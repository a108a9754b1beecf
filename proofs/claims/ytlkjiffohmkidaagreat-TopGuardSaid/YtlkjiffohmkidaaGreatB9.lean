/- A part of the proof: texts Ktga. -/
import Derived.Test.YtlkjiffohmkidaaGreatB8
namespace Go.Sh
set_option linter.unusedSectionVars false
set_option linter.unnecessarySimpa false
set_option linter.unusedSimpArgs false
set_option linter.unusedVariables false
set_option maxRecDepth 100000
set_option maxHeartbeats 4000000
namespace K
theorem s6(H:ab):aI T 60 (.fn 6) [] H=some (.bool true,H):=ey e6 (by rfl) (eg (T:=T) 100 60 (.fn 6) [] aB (.bool true,aB) (by kernel_rfl))
abbrev Sp:=Int×Int×Bool
abbrev Br(x:Sp):List SV:=[FV x.1,FV x.2.1,.bool x.2.2]
def vj(L:List Sp):List (List SV):=L.map Br
@[go_sem] theorem yH {L:List Sp}:(vj L).length=L.length:=by simp[vj]
@[go_sem] theorem yI {L:List Sp}{i:Nat}:(vj L)[i]?=(L[i]?).map Br:=by simp[vj]
end K
end Go.Sh
