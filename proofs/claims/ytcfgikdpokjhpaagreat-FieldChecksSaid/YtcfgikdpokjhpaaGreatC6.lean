

import Derived.Test.YtcfgikdpokjhpaaGreatC5
namespace Go.Sh
set_option linter.unusedSectionVars false
set_option linter.unnecessarySimpa false
set_option linter.unusedVariables false
set_option linter.unusedSimpArgs false
set_option maxRecDepth 100000
set_option maxHeartbeats 4000000
theorem s11x2 (H : Heap) : call1 T 59 (.fn 11) [.agg (exF 1101), .int .i64 3, exA] H = some (exR2, H) := pure_any e11 (by kernel_rfl) (callO_up (T := T) 300 (orc1_ok s133x) 59 (.fn 11) [.agg (exF 1101), .int .i64 3, exA] heap0 (exR2, heap0) (by kernel_rfl))
theorem s37x1 (H : Heap) : call1 T 59 (.fn 37) [.int .i64 300] H = some (.agg (exF 300 ++ [.int .i64 3, exA]), H) := pure_any e37 (by kernel_rfl) (callB_up (T := T) 300 59 (.fn 37) [.int .i64 300] heap0 (.agg (exF 300 ++ [.int .i64 3, exA]), heap0) (by kernel_rfl))
theorem s37x2 (H : Heap) : call1 T 59 (.fn 37) [.int .i64 1101] H = some (.agg (exF 1101 ++ [.int .i64 3, exA]), H) := pure_any e37 (by kernel_rfl) (callB_up (T := T) 300 59 (.fn 37) [.int .i64 1101] heap0 (.agg (exF 1101 ++ [.int .i64 3, exA]), heap0) (by kernel_rfl))
end Go.Sh
