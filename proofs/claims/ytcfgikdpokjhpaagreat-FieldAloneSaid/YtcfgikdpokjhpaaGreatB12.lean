/- A part of the proof: texts K19ab. -/
import Derived.Test.YtcfgikdpokjhpaaGreatB11
namespace Go.Sh
set_option linter.unusedSectionVars false
set_option linter.unnecessarySimpa false
set_option linter.unusedSimpArgs false
set_option linter.unusedVariables false
set_option maxRecDepth 100000
set_option maxHeartbeats 4000000
theorem NI(H:ab):aa T 59 (.fn 11) [.agg (FG 1101),af5 3,Ft] H=some (IB,H):=fG xG (by kernel_rfl) (xp (T:=T) 300 (Ad Ig) 59 (.fn 11) [.agg (FG 1101),af5 3,Ft] ah (IB,ah) (by kernel_rfl))
theorem Pq(H:ab):aa T 59 (.fn 37) [af5 300] H=some (.agg (FG 300++[af5 3,Ft]),H):=fG Ys (by kernel_rfl) (im (T:=T) 300 59 (.fn 37) [af5 300] ah (.agg (FG 300++[af5 3,Ft]),ah) (by kernel_rfl))
theorem Lu(H:ab):aa T 59 (.fn 37) [af5 1101] H=some (.agg (FG 1101++[af5 3,Ft]),H):=fG Ys (by kernel_rfl) (im (T:=T) 300 59 (.fn 37) [af5 1101] ah (.agg (FG 1101++[af5 3,Ft]),ah) (by kernel_rfl))
end Go.Sh
