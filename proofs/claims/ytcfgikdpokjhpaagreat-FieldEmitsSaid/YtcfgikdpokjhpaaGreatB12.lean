/- A part of the proof: texts K19ab. -/
import Derived.Test.YtcfgikdpokjhpaaGreatB11
namespace Go.Sh
set_option linter.unusedSectionVars false
set_option linter.unnecessarySimpa false
set_option linter.unusedSimpArgs false
set_option linter.unusedVariables false
set_option maxRecDepth 100000
set_option maxHeartbeats 4000000
theorem Kj(H:ab):aa T 59 (.fn 11) [.agg (EI 1101),acH 3,C0] H=some (Gz,H):=fS sS (by kernel_rfl) (vd (T:=T) 300 (xt Ga) 59 (.fn 11) [.agg (EI 1101),acH 3,C0] ah (Gz,ah) (by kernel_rfl))
theorem Ke(H:ab):aa T 59 (.fn 37) [acH 300] H=some (.agg (EI 300++[acH 3,C0]),H):=fS VO (by kernel_rfl) (iE (T:=T) 300 59 (.fn 37) [acH 300] ah (.agg (EI 300++[acH 3,C0]),ah) (by kernel_rfl))
theorem JX(H:ab):aa T 59 (.fn 37) [acH 1101] H=some (.agg (EI 1101++[acH 3,C0]),H):=fS VO (by kernel_rfl) (iE (T:=T) 300 59 (.fn 37) [acH 1101] ah (.agg (EI 1101++[acH 3,C0]),ah) (by kernel_rfl))
end Go.Sh
