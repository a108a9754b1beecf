/- A part of the proof: texts Ktfnb. -/
import Derived.Test.YtlkjiffohmkidaaGreatB16
namespace Go.Sh
set_option linter.unusedSectionVars false
set_option linter.unnecessarySimpa false
set_option linter.unusedSimpArgs false
set_option linter.unusedVariables false
set_option maxRecDepth 100000
set_option maxHeartbeats 4000000
namespace F
theorem s6(H:ae):ab T 60 (.fn 6) [] H=some (.bool true,H):=ri e6 (by rfl) (qU (T:=T) 100 60 (.fn 6) [] av (.bool true,av) (by kernel_rfl))
end F
end Go.Sh
