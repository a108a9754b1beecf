

import Derived.Test.YtcfgikdpokjhpaaGreatC2
import Derived.Test.YtcfgikdpokjhpaaGreatB5
namespace Go.Sh
set_option linter.unusedSectionVars false
set_option linter.unnecessarySimpa false
set_option linter.unusedVariables false
set_option linter.unusedSimpArgs false
set_option maxRecDepth 100000
set_option maxHeartbeats 4000000
def exF (n : Int) : List SV := [.lst 2 [[.int .i64 0, .int .i64 0], [.int .i64 10, .int .i64 0]] true, .lst 1 [[.int .i64 100000], [.int .i64 100000]] true, .lst 0 [] true, .int .i64 2, .int .i64 1, .int .i64 2000, .lst 0 [] true, .lst 0 [] true, .lst 2 [[.int .i64 0, .int .i64 0], [.int .i64 n, .int .i64 0]] true, .int .i64 0, .int .i64 0, .int .i64 9, .lst 1 [[.int .i64 5], [.int .i64 6]] true]
def exA : SV := .lst 14 [[.int .i64 1, .int .i64 1, .int .i64 4, .int .i64 0, .int .i64 1, .int .i64 0, .int .i64 0, .int .i64 0, .int .i64 0, .int .i64 0, .int .i64 0, .int .i64 0, .int .i64 0, .str ⟨#[97, 98, 99]⟩], [.int .i64 2, .int .i64 1, .int .i64 0, .int .i64 0, .int .i64 0, .int .i64 0, .int .i64 0, .int .i64 0, .int .i64 0, .int .i64 0, .int .i64 0, .int .i64 0, .int .i64 0, .str ⟨#[]⟩]] true
def exR1 : SV := .tup [.lst 15 [[.bool true, .bool false, .int .i64 0, .int .i64 0, .int .i64 0, .int .i64 0, .int .i64 0, .int .i64 0, .int .i64 0, .int .i64 0, .int .i64 0, .int .i64 0, .int .i64 0, .str ⟨#[]⟩, .int .i64 300], [.bool false, .bool true, .int .i64 4, .int .i64 0, .int .i64 1, .int .i64 0, .int .i64 0, .int .i64 0, .int .i64 0, .int .i64 0, .int .i64 0, .int .i64 0, .int .i64 0, .str ⟨#[97, 98, 99]⟩, .int .i64 300]] true, .lst 4 [[.int .i64 0, .int .i64 5, .int .i64 32120, .int .i64 32632], [.int .i64 1, .int .i64 5, .int .i64 33632, .int .i64 34464]] false, .int .i64 0]
def exR2 : SV := .tup [.lst 15 [[.bool false, .bool false, .int .i64 0, .int .i64 0, .int .i64 0, .int .i64 0, .int .i64 0, .int .i64 0, .int .i64 0, .int .i64 0, .int .i64 0, .int .i64 0, .int .i64 0, .str ⟨#[]⟩, .int .i64 0], [.bool false, .bool false, .int .i64 0, .int .i64 0, .int .i64 0, .int .i64 0, .int .i64 0, .int .i64 0, .int .i64 0, .int .i64 0, .int .i64 0, .int .i64 0, .int .i64 0, .str ⟨#[]⟩, .int .i64 0]] true, .lst 4 [[.int .i64 0, .int .i64 5, .int .i64 32120, .int .i64 32632]] false, .int .i64 0]
def exE : List SV := [.agg [.int .i64 4, .int .i64 0, .int .i64 1, .int .i64 0, .int .i64 0, .int .i64 0, .int .i64 0, .int .i64 0, .int .i64 0, .int .i64 0, .int .i64 0, .str ⟨#[97, 98, 99]⟩]]
def exEV : SV := .tup [.str ⟨#[128, 132, 0, 0, 27, 11, 19, 24, 167, 238]⟩, .int .i64 0]
theorem s133x (n : Nat) (H : Heap) : call1 T (n + 8) (.fn 133) exE H = some (exEV, H) := pure_any e133 (by kernel_rfl) (callB_up (T := T) 300 (n + 8) (.fn 133) exE heap0 (exEV, heap0) (by kernel_rfl))
theorem s11x1 (H : Heap) : call1 T 59 (.fn 11) [.agg (exF 300), .int .i64 3, exA] H = some (exR1, H) := pure_any e11 (by kernel_rfl) (callO_up (T := T) 300 (orc1_ok s133x) 59 (.fn 11) [.agg (exF 300), .int .i64 3, exA] heap0 (exR1, heap0) (by kernel_rfl))
end Go.Sh
