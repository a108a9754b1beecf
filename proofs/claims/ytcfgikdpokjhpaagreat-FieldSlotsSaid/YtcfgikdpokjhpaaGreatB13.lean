/- Part of the proof of FieldSlotsSaid: texts K19ab. -/
import Derived.Test.YtcfgikdpokjhpaaGreatB12
namespace Go.Sh
set_option linter.unusedSectionVars false
set_option linter.unnecessarySimpa false
set_option linter.unusedSimpArgs false
set_option linter.unusedVariables false
set_option maxRecDepth 100000
set_option maxHeartbeats 4000000
theorem LO(H:ae):aa T 59 (.fn 11) [.agg (Db 1101),aew 3,C2] H=some (Ig,H):=eB Gl (by kernel_rfl) (u5 (T:=T) 300 (yw FU) 59 (.fn 11) [.agg (Db 1101),aew 3,C2] ah (Ig,ah) (by kernel_rfl))
theorem MY(H:ae):aa T 59 (.fn 37) [aew 300] H=some (.agg (Db 300++[aew 3,C2]),H):=eB WM (by kernel_rfl) (fk (T:=T) 300 59 (.fn 37) [aew 300] ah (.agg (Db 300++[aew 3,C2]),ah) (by kernel_rfl))
theorem Mj(H:ae):aa T 59 (.fn 37) [aew 1101] H=some (.agg (Db 1101++[aew 3,C2]),H):=eB WM (by kernel_rfl) (fk (T:=T) 300 59 (.fn 37) [aew 1101] ah (.agg (Db 1101++[aew 3,C2]),ah) (by kernel_rfl))
end Go.Sh
