/-
  THE CODE OF THE FUNCTIONS THAT ARE REACHED, CONTINUED (written by a program of this work, checked by the kernel).
-/

import Derived.Test.YtlkjiffohmkidaaGreatC1
namespace Go.Sh
set_option maxRecDepth 100000
/- 154: (hopmesh/air.scene).free -/
def c154 : Fun1 := ⟨[(.tmp 6)], (.seq (.ops [⟨(some 3), (.box (.t 0)), none⟩, ⟨(some 6), (.mov (.c (.bool false))), none⟩]) (.seq (.seq (.ops [⟨(some 9), (.faddr 8 (.t 3)), none⟩, ⟨(some 10), (.load false 1 (.t 9)), none⟩, ⟨(some 11), (.len (.t 10)), none⟩, ⟨(some 12), (.mov (.c (.int .i64 0))), none⟩]) (.block 0 (.loop ⟨[1, 2, 3, 10, 11, 12], []⟩ (.seq (.ops [⟨(some 13), (.bin .lss (.t 12) (.t 11)), none⟩]) (.seq (.cond (.t 13) .skip (.exit 0)) (.seq (.block 1 (.seq (.ops [⟨(some 14), (.iaddrS 4 (.t 10) (.t 12)), none⟩, ⟨(some 15), (.load true 4 (.t 14)), none⟩, ⟨(some 8), (.alloc [(.int .i64 0), (.int .i64 0), (.int .i64 0), (.int .i64 0)]), none⟩, ⟨none, (.store 4 (.t 8) (.t 15)), none⟩]) (.seq (.drawn [(⟨(some 16), (.faddr 0 (.t 8)), none⟩, ⟨.bar, [], 0, 0⟩), (⟨(some 17), (.load false 1 (.t 16)), none⟩, ⟨.bar, [], 0, 0⟩), (⟨(some 18), (.mov (.t 2)), none⟩, ⟨.pure, [], 0, 0⟩), (⟨(some 19), (.bin .eql (.t 17) (.t 18)), none⟩, ⟨.pure, [], 0, 0⟩), (⟨(some 20), (.mov (.t 19)), none⟩, ⟨.pure, [], 0, 0⟩), (⟨(some 21), (.load true 4 (.t 8)), (some (20, true))⟩, ⟨.seg, [], 0, 0⟩), (⟨(some 22), (.faddr 8 (.t 3)), (some (20, true))⟩, ⟨.seg, [], 0, 0⟩), (⟨(some 23), (.load false 1 (.t 22)), (some (20, true))⟩, ⟨.seg, [], 0, 0⟩), (⟨(some 24), (.mov (.t 1)), (some (20, true))⟩, ⟨.pure, [], 0, 0⟩), (⟨(some 25), (.iaddrS 4 (.t 23) (.t 24)), (some (20, true))⟩, ⟨.seg, [], 0, 0⟩), (⟨(some 26), (.load true 4 (.t 25)), (some (20, true))⟩, ⟨.seg, [], 0, 0⟩), (⟨(some 27), (.call (.c (.fn 183 [])) [(.t 21), (.t 26)]), (some (20, true))⟩, ⟨.bar, [], 0, 0⟩), (⟨(some 28), (.pick (.t 20) (.t 27) (.c (.bool false))), none⟩, ⟨.pure, [], 0, 0⟩)]) (.cond (.t 28) (.seq (.ops [⟨(some 6), (.mov (.c (.bool false))), none⟩]) .ret) .skip)))) (.ops [⟨(some 29), (.bin .add (.t 12) (.c (.int .i64 1))), none⟩, ⟨(some 12), (.mov (.t 29)), none⟩]))))))) (.seq (.ops [⟨(some 6), (.mov (.c (.bool true))), none⟩]) .ret))), false⟩
theorem e154 : T 154 = some c154 := by kernel_rfl
/- 155: (hopmesh/air.scene).signal -/
def c155 : Fun1 := ⟨[(.tmp 6)], (.seq (.ops [⟨(some 3), (.box (.t 0)), none⟩, ⟨(some 4), (.box (.t 1)), none⟩, ⟨(some 6), (.mov (.c (.int .i64 0))), none⟩]) (.seq (.ops [⟨(some 10), (.faddr 0 (.t 3)), none⟩, ⟨(some 11), (.load true 6 (.t 10)), none⟩, ⟨(some 12), (.faddr 6 (.t 3)), none⟩, ⟨(some 13), (.load true 2 (.t 12)), none⟩, ⟨(some 14), (.faddr 0 (.t 4)), none⟩, ⟨(some 15), (.load false 1 (.t 14)), none⟩, ⟨(some 16), (.mov (.t 2)), none⟩, ⟨(some 17), (.faddr 1 (.t 4)), none⟩, ⟨(some 18), (.load false 1 (.t 17)), none⟩, ⟨(some 19), (.faddr 2 (.t 4)), none⟩, ⟨(some 20), (.load false 1 (.t 19)), none⟩, ⟨(some 21), (.call (.c (.fn 184 [])) [(.t 11), (.t 13), (.t 15), (.t 16), (.t 18), (.t 20)]), none⟩, ⟨(some 9), (.mov (.t 21)), none⟩, ⟨(some 22), (.extract (.t 9) 0), none⟩, ⟨(some 23), (.extract (.t 9) 1), none⟩, ⟨(some 7), (.mov (.t 22)), none⟩, ⟨(some 8), (.mov (.t 23)), none⟩]) (.seq (.ops [⟨(some 24), (.mov (.t 7)), none⟩, ⟨(some 6), (.mov (.t 24)), none⟩]) .ret))), false⟩
theorem e155 : T 155 = some c155 := by kernel_rfl
/- 156: (hopmesh/air.scene).interference -/
def c156 : Fun1 := ⟨[(.tmp 6)], (.seq (.ops [⟨(some 3), (.box (.t 0)), none⟩, ⟨(some 5), (.box (.t 2)), none⟩, ⟨(some 6), (.mov (.c (.int .i64 0))), none⟩]) (.seq (.ops [⟨(some 10), (.load true 10 (.t 3)), none⟩, ⟨(some 11), (.mov (.t 1)), none⟩, ⟨(some 12), (.load false 1 (.t 5)), none⟩, ⟨(some 13), (.call (.c (.fn 185 [])) [(.t 10), (.t 11), (.t 12)]), none⟩, ⟨(some 7), (.alloc [(.int .i64 0)]), none⟩, ⟨none, (.store 1 (.t 7) (.t 13)), none⟩]) (.seq (.seq (.ops [⟨(some 14), (.load true 10 (.t 3)), none⟩, ⟨(some 15), (.mov (.t 1)), none⟩, ⟨(some 16), (.load false 1 (.t 5)), none⟩, ⟨(some 17), (.callK 186 3 [(.t 14), (.t 15), (.t 16)]), none⟩]) (.block 0 (.rangeF (.t 17) [18, 19] (.ops [⟨(some 9), (.alloc [(.int .i64 0), (.int .i64 0), (.int .i64 0), (.int .i64 0)]), none⟩, ⟨none, (.store 4 (.t 9) (.t 19)), none⟩]) (.block 1 (.drawn [(⟨(some 20), (.load false 1 (.t 7)), none⟩, ⟨.seg, [], 0, 0⟩), (⟨(some 21), (.load true 10 (.t 3)), none⟩, ⟨.seg, [], 0, 0⟩), (⟨(some 22), (.load true 4 (.t 9)), none⟩, ⟨.seg, [], 0, 0⟩), (⟨(some 23), (.load false 1 (.t 5)), none⟩, ⟨.seg, [], 0, 0⟩), (⟨(some 24), (.call (.c (.fn 155 [])) [(.t 21), (.t 22), (.t 23)]), none⟩, ⟨.seg, [], 0, 0⟩), (⟨(some 25), (.bin .add (.t 20) (.t 24)), none⟩, ⟨.pure, [], 0, 0⟩), (⟨none, (.store 1 (.t 7) (.t 25)), none⟩, ⟨.bar, [], 0, 0⟩)]))))) (.seq (.ops [⟨(some 26), (.load false 1 (.t 7)), none⟩, ⟨(some 6), (.mov (.t 26)), none⟩]) .ret)))), false⟩
theorem e156 : T 156 = some c156 := by kernel_rfl
/- 162: slices.stableCmpFunc[int] -/
def c162 : Fun1 := ⟨[], (.seq (.ops [⟨(some 6), (.mov (.c (.int .i64 20))), none⟩]) (.seq (.ops [⟨(some 10), (.mov (.t 6)), none⟩, ⟨(some 7), (.mov (.c (.int .i64 0))), none⟩, ⟨(some 8), (.mov (.t 10)), none⟩]) (.seq (.block 0 (.loop ⟨[0, 1, 2, 6, 7, 8], []⟩ (.seq (.seq (.ops [⟨(some 11), (.mov (.t 8)), none⟩, ⟨(some 12), (.mov (.t 1)), none⟩, ⟨(some 13), (.bin .leq (.t 11) (.t 12)), none⟩]) (.cond (.t 13) .skip (.exit 0))) (.block 1 (.seq (.ops [⟨(some 14), (.mov (.t 0)), none⟩, ⟨(some 15), (.mov (.t 7)), none⟩, ⟨(some 16), (.mov (.t 8)), none⟩, ⟨(some 17), (.mov (.t 2)), none⟩, ⟨(some 18), (.call (.c (.fn 190 [])) [(.t 14), (.t 15), (.t 16), (.t 17)]), none⟩]) (.seq (.ops [⟨(some 19), (.mov (.t 8)), none⟩, ⟨(some 7), (.mov (.t 19)), none⟩]) (.ops [⟨(some 20), (.mov (.t 8)), none⟩, ⟨(some 21), (.mov (.t 6)), none⟩, ⟨(some 22), (.bin .add (.t 20) (.t 21)), none⟩, ⟨(some 8), (.mov (.t 22)), none⟩]))))))) (.seq (.ops [⟨(some 23), (.mov (.t 0)), none⟩, ⟨(some 24), (.mov (.t 7)), none⟩, ⟨(some 25), (.mov (.t 1)), none⟩, ⟨(some 26), (.mov (.t 2)), none⟩, ⟨(some 27), (.call (.c (.fn 190 [])) [(.t 23), (.t 24), (.t 25), (.t 26)]), none⟩]) (.block 2 (.loop ⟨[0, 1, 2, 6], []⟩ (.seq (.seq (.ops [⟨(some 28), (.mov (.t 6)), none⟩, ⟨(some 29), (.mov (.t 1)), none⟩, ⟨(some 30), (.bin .lss (.t 28) (.t 29)), none⟩]) (.cond (.t 30) .skip (.exit 2))) (.block 3 (.seq (.ops [⟨(some 31), (.mov (.t 6)), none⟩, ⟨(some 32), (.bin .mul (.c (.int .i64 2)) (.t 31)), none⟩, ⟨(some 7), (.mov (.c (.int .i64 0))), none⟩, ⟨(some 8), (.mov (.t 32)), none⟩]) (.seq (.block 4 (.loop ⟨[0, 1, 2, 6, 7, 8], []⟩ (.seq (.seq (.ops [⟨(some 33), (.mov (.t 8)), none⟩, ⟨(some 34), (.mov (.t 1)), none⟩, ⟨(some 35), (.bin .leq (.t 33) (.t 34)), none⟩]) (.cond (.t 35) .skip (.exit 4))) (.block 5 (.seq (.ops [⟨(some 36), (.mov (.t 0)), none⟩, ⟨(some 37), (.mov (.t 7)), none⟩, ⟨(some 38), (.mov (.t 7)), none⟩, ⟨(some 39), (.mov (.t 6)), none⟩, ⟨(some 40), (.bin .add (.t 38) (.t 39)), none⟩, ⟨(some 41), (.mov (.t 8)), none⟩, ⟨(some 42), (.mov (.t 2)), none⟩, ⟨(some 43), (.call (.c (.fn 191 [])) [(.t 36), (.t 37), (.t 40), (.t 41), (.t 42)]), none⟩]) (.seq (.ops [⟨(some 44), (.mov (.t 8)), none⟩, ⟨(some 7), (.mov (.t 44)), none⟩]) (.ops [⟨(some 45), (.mov (.t 8)), none⟩, ⟨(some 46), (.mov (.t 6)), none⟩, ⟨(some 47), (.bin .mul (.c (.int .i64 2)) (.t 46)), none⟩, ⟨(some 48), (.bin .add (.t 45) (.t 47)), none⟩, ⟨(some 8), (.mov (.t 48)), none⟩]))))))) (.seq (.seq (.ops [⟨(some 49), (.mov (.t 7)), none⟩, ⟨(some 50), (.mov (.t 6)), none⟩, ⟨(some 51), (.bin .add (.t 49) (.t 50)), none⟩, ⟨(some 9), (.mov (.t 51)), none⟩]) (.seq (.ops [⟨(some 52), (.mov (.t 9)), none⟩, ⟨(some 53), (.mov (.t 1)), none⟩, ⟨(some 54), (.bin .lss (.t 52) (.t 53)), none⟩]) (.cond (.t 54) (.ops [⟨(some 55), (.mov (.t 0)), none⟩, ⟨(some 56), (.mov (.t 7)), none⟩, ⟨(some 57), (.mov (.t 9)), none⟩, ⟨(some 58), (.mov (.t 1)), none⟩, ⟨(some 59), (.mov (.t 2)), none⟩, ⟨(some 60), (.call (.c (.fn 191 [])) [(.t 55), (.t 56), (.t 57), (.t 58), (.t 59)]), none⟩]) .skip))) (.ops [⟨(some 61), (.mov (.t 6)), none⟩, ⟨(some 62), (.bin .mul (.t 61) (.c (.int .i64 2))), none⟩, ⟨(some 6), (.mov (.t 62)), none⟩])))))))))))), false⟩
theorem e162 : T 162 = some c162 := by kernel_rfl
/- 163: cmp.Compare[int] -/
def c163 : Fun1 := ⟨[(.tmp 4)], (.seq (.ops [⟨(some 4), (.mov (.c (.int .i64 0))), none⟩]) (.seq (.ops [⟨(some 7), (.mov (.t 0)), none⟩, ⟨(some 8), (.call (.c (.fn 192 [])) [(.t 7)]), none⟩, ⟨(some 5), (.mov (.t 8)), none⟩]) (.seq (.ops [⟨(some 9), (.mov (.t 1)), none⟩, ⟨(some 10), (.call (.c (.fn 192 [])) [(.t 9)]), none⟩, ⟨(some 6), (.mov (.t 10)), none⟩]) (.seq (.seq (.ops [⟨(some 11), (.mov (.t 5)), none⟩]) (.cond (.t 11) (.seq (.seq (.ops [⟨(some 12), (.mov (.t 6)), none⟩]) (.cond (.t 12) (.seq (.ops [⟨(some 4), (.mov (.c (.int .i64 0))), none⟩]) .ret) .skip)) (.seq (.ops [⟨(some 4), (.mov (.c (.int .i64 (-1)))), none⟩]) .ret)) .skip)) (.seq (.seq (.ops [⟨(some 13), (.mov (.t 6)), none⟩]) (.cond (.t 13) (.seq (.ops [⟨(some 4), (.mov (.c (.int .i64 1))), none⟩]) .ret) .skip)) (.seq (.seq (.ops [⟨(some 14), (.mov (.t 0)), none⟩, ⟨(some 15), (.mov (.t 1)), none⟩, ⟨(some 16), (.bin .lss (.t 14) (.t 15)), none⟩]) (.cond (.t 16) (.seq (.ops [⟨(some 4), (.mov (.c (.int .i64 (-1)))), none⟩]) .ret) .skip)) (.seq (.seq (.ops [⟨(some 17), (.mov (.t 0)), none⟩, ⟨(some 18), (.mov (.t 1)), none⟩, ⟨(some 19), (.bin .gtr (.t 17) (.t 18)), none⟩]) (.cond (.t 19) (.seq (.ops [⟨(some 4), (.mov (.c (.int .i64 1))), none⟩]) .ret) .skip)) (.seq (.ops [⟨(some 4), (.mov (.c (.int .i64 0))), none⟩]) .ret)))))))), false⟩
theorem e163 : T 163 = some c163 := by kernel_rfl
/- 165: (*hopmesh/bitio.Writer).field -/
def c165 : Fun1 := ⟨[], (.block 0 (.seq (.ops [⟨(some 16), (.mov (.t 0)), none⟩, ⟨(some 17), (.nilChk (.t 16)), none⟩, ⟨(some 18), (.faddr 2 (.t 17)), none⟩, ⟨(some 19), (.load false 1 (.t 18)), none⟩, ⟨(some 20), (.bin .neq (.t 19) (.c (.int .i64 0))), none⟩, ⟨(some 15), (.mov (.t 20)), none⟩]) (.cond (.t 15) .skip (.seq (.ops [⟨(some 22), (.mov (.t 1)), none⟩, ⟨(some 23), (.notB (.t 22)), none⟩, ⟨(some 21), (.mov (.t 23)), none⟩]) (.cond (.t 21) (.ops [⟨(some 24), (.mov (.t 0)), none⟩, ⟨(some 25), (.nilChk (.t 24)), none⟩, ⟨(some 26), (.faddr 2 (.t 25)), none⟩, ⟨none, (.store 1 (.t 26) (.c (.int .i64 1))), none⟩]) (.seq (.ops [⟨(some 28), (.mov (.t 2)), none⟩, ⟨(some 29), (.notB (.t 28)), none⟩, ⟨(some 27), (.mov (.t 29)), none⟩]) (.cond (.t 27) (.ops [⟨(some 30), (.mov (.t 0)), none⟩, ⟨(some 31), (.nilChk (.t 30)), none⟩, ⟨(some 32), (.faddr 2 (.t 31)), none⟩, ⟨none, (.store 1 (.t 32) (.c (.int .i64 2))), none⟩]) (.seq (.ops [⟨(some 34), (.mov (.t 0)), none⟩, ⟨(some 35), (.nilChk (.t 34)), none⟩, ⟨(some 36), (.faddr 1 (.t 35)), none⟩, ⟨(some 37), (.load false 1 (.t 36)), none⟩, ⟨(some 38), (.mov (.t 3)), none⟩, ⟨(some 39), (.bin .add (.t 37) (.t 38)), none⟩, ⟨(some 40), (.bin .gtr (.t 39) (.c (.int .i64 524288))), none⟩, ⟨(some 33), (.mov (.t 40)), none⟩]) (.cond (.t 33) (.ops [⟨(some 41), (.mov (.t 0)), none⟩, ⟨(some 42), (.nilChk (.t 41)), none⟩, ⟨(some 43), (.faddr 2 (.t 42)), none⟩, ⟨none, (.store 1 (.t 43) (.c (.int .i64 8))), none⟩]) (.ops [⟨(some 10), (.mov (.t 0)), none⟩, ⟨(some 11), (.mov (.t 3)), none⟩, ⟨(some 12), (.mov (.t 4)), none⟩, ⟨(some 13), (.convI .u64 (.t 12)), none⟩, ⟨(some 14), (.call (.c (.fn 193 [])) [(.t 10), (.t 11), (.t 13)]), none⟩])))))))))), false⟩
theorem e165 : T 165 = some c165 := by kernel_rfl
/- 166: math/bits.Len -/
def c166 : Fun1 := ⟨[(.tmp 2)], (.seq (.ops [⟨(some 2), (.mov (.c (.int .i64 0))), none⟩]) (.seq (.cond (.c (.bool false)) (.seq (.ops [⟨(some 3), (.mov (.t 0)), none⟩, ⟨(some 4), (.convI .u32 (.t 3)), none⟩, ⟨(some 5), (.call (.c (.fn 194 [])) [(.t 4)]), none⟩, ⟨(some 2), (.mov (.t 5)), none⟩]) .ret) .skip) (.seq (.ops [⟨(some 6), (.mov (.t 0)), none⟩, ⟨(some 7), (.call (.c (.fn 195 [])) [(.t 6)]), none⟩, ⟨(some 2), (.mov (.t 7)), none⟩]) .ret))), false⟩
theorem e166 : T 166 = some c166 := by kernel_rfl
/- 169: hopmesh/crc.Sum -/
def c169 : Fun1 := ⟨[(.tmp 2)], (.seq (.ops [⟨(some 2), (.mov (.c (.int .u16 0))), none⟩]) (.seq (.ops [⟨(some 3), (.mov (.t 0)), none⟩, ⟨(some 4), (.call (.c (.fn 197 [])) [(.c (.int .u16 0)), (.t 3)]), none⟩, ⟨(some 2), (.mov (.t 4)), none⟩]) .ret)), false⟩
theorem e169 : T 169 = some c169 := by kernel_rfl
/- 170: (hopmesh/frame.pen).text -/
def c170 : Fun1 := ⟨[], (.seq (.ops [⟨(some 2), (.box (.t 0)), none⟩]) (.seq (.ops [⟨(some 4), (.faddr 0 (.t 2)), none⟩, ⟨(some 5), (.load false 1 (.t 4)), none⟩, ⟨(some 6), (.isNil .p true (.t 5)), none⟩]) (.cond (.t 6) (.drawn [(⟨(some 7), (.faddr 0 (.t 2)), none⟩, ⟨.seg, [], 0, 0⟩), (⟨(some 8), (.load false 1 (.t 7)), none⟩, ⟨.seg, [], 0, 0⟩), (⟨(some 9), (.mov (.t 1)), none⟩, ⟨.pure, [], 0, 0⟩), (⟨(some 10), (.nilChk (.t 9)), none⟩, ⟨.seg, [], 0, 0⟩), (⟨(some 11), (.load false 1 (.t 10)), none⟩, ⟨.seg, [], 0, 0⟩), (⟨(some 12), (.call (.c (.fn 198 [])) [(.t 8), (.c (.int .i64 127)), (.t 11)]), none⟩, ⟨.bar, [], 0, 0⟩)]) (.ops [⟨(some 13), (.mov (.t 1)), none⟩, ⟨(some 14), (.faddr 1 (.t 2)), none⟩, ⟨(some 15), (.load false 1 (.t 14)), none⟩, ⟨(some 16), (.call (.c (.fn 199 [])) [(.t 15), (.c (.int .i64 127))]), none⟩, ⟨(some 17), (.nilChk (.t 13)), none⟩, ⟨none, (.store 1 (.t 17) (.t 16)), none⟩])))), false⟩
theorem e170 : T 170 = some c170 := by kernel_rfl
/- 171: (*hopmesh/bitio.Writer).Signed -/
def c171 : Fun1 := ⟨[], (.seq (.ops [⟨(some 7), (.mov (.t 1)), none⟩, ⟨(some 8), (.bin .geq (.t 7) (.c (.int .i64 2))), none⟩, ⟨(some 9), (.mov (.t 8)), none⟩, ⟨(some 10), (.mov (.t 1)), (some (9, true))⟩, ⟨(some 11), (.bin .leq (.t 10) (.c (.int .i64 63))), (some (9, true))⟩, ⟨(some 12), (.pick (.t 9) (.t 11) (.c (.bool false))), none⟩, ⟨(some 6), (.mov (.t 12)), none⟩]) (.ops [⟨(some 13), (.mov (.t 0)), none⟩, ⟨(some 14), (.mov (.t 6)), none⟩, ⟨(some 15), (.mov (.t 6)), none⟩, ⟨(some 16), (.mov (.t 15)), none⟩, ⟨(some 17), (.mov (.t 2)), (some (16, true))⟩, ⟨(some 18), (.mov (.t 1)), (some (16, true))⟩, ⟨(some 19), (.maxI [(.t 18), (.c (.int .i64 1))]), (some (16, true))⟩, ⟨(some 20), (.bin .sub (.t 19) (.c (.int .i64 1))), (some (16, true))⟩, ⟨(some 21), (.bin .shl (.c (.int .i64 (-1))) (.t 20)), (some (16, true))⟩, ⟨(some 22), (.bin .geq (.t 17) (.t 21)), (some (16, true))⟩, ⟨(some 23), (.pick (.t 16) (.t 22) (.c (.bool false))), none⟩, ⟨(some 24), (.mov (.t 23)), none⟩, ⟨(some 25), (.mov (.t 2)), (some (24, true))⟩, ⟨(some 26), (.mov (.t 1)), (some (24, true))⟩, ⟨(some 27), (.maxI [(.t 26), (.c (.int .i64 1))]), (some (24, true))⟩, ⟨(some 28), (.bin .sub (.t 27) (.c (.int .i64 1))), (some (24, true))⟩, ⟨(some 29), (.bin .shl (.c (.int .i64 1)) (.t 28)), (some (24, true))⟩, ⟨(some 30), (.bin .sub (.t 29) (.c (.int .i64 1))), (some (24, true))⟩, ⟨(some 31), (.bin .leq (.t 25) (.t 30)), (some (24, true))⟩, ⟨(some 32), (.pick (.t 24) (.t 31) (.c (.bool false))), none⟩, ⟨(some 33), (.mov (.t 1)), none⟩, ⟨(some 34), (.mov (.t 2)), none⟩, ⟨(some 35), (.call (.c (.fn 165 [])) [(.t 13), (.t 14), (.t 32), (.t 33), (.t 34)]), none⟩])), false⟩
theorem e171 : T 171 = some c171 := by kernel_rfl
/- 172: (*hopmesh/bitio.Reader).Signed -/
def c172 : Fun1 := ⟨[(.tmp 4)], (.seq (.ops [⟨(some 4), (.mov (.c (.int .i64 0))), none⟩]) (.seq (.ops [⟨(some 6), (.mov (.t 0)), none⟩, ⟨(some 7), (.mov (.t 1)), none⟩, ⟨(some 8), (.bin .geq (.t 7) (.c (.int .i64 2))), none⟩, ⟨(some 9), (.mov (.t 8)), none⟩, ⟨(some 10), (.mov (.t 1)), (some (9, true))⟩, ⟨(some 11), (.bin .leq (.t 10) (.c (.int .i64 63))), (some (9, true))⟩, ⟨(some 12), (.pick (.t 9) (.t 11) (.c (.bool false))), none⟩, ⟨(some 13), (.mov (.t 1)), none⟩, ⟨(some 14), (.call (.c (.fn 141 [])) [(.t 6), (.t 12), (.t 13)]), none⟩, ⟨(some 15), (.convI .i64 (.t 14)), none⟩, ⟨(some 5), (.mov (.t 15)), none⟩]) (.seq (.seq (.ops [⟨(some 16), (.mov (.t 0)), none⟩, ⟨(some 17), (.nilChk (.t 16)), none⟩, ⟨(some 18), (.faddr 2 (.t 17)), none⟩, ⟨(some 19), (.load false 1 (.t 18)), none⟩, ⟨(some 20), (.bin .eql (.t 19) (.c (.int .i64 0))), none⟩, ⟨(some 21), (.mov (.t 20)), none⟩, ⟨(some 22), (.mov (.t 5)), (some (21, true))⟩, ⟨(some 23), (.mov (.t 1)), (some (21, true))⟩, ⟨(some 24), (.bin .sub (.t 23) (.c (.int .i64 1))), (some (21, true))⟩, ⟨(some 25), (.bin .shr (.t 22) (.t 24)), (some (21, true))⟩, ⟨(some 26), (.bin .and (.t 25) (.c (.int .i64 1))), (some (21, true))⟩, ⟨(some 27), (.bin .eql (.t 26) (.c (.int .i64 1))), (some (21, true))⟩, ⟨(some 28), (.pick (.t 21) (.t 27) (.c (.bool false))), none⟩]) (.cond (.t 28) (.ops [⟨(some 29), (.mov (.t 5)), none⟩, ⟨(some 30), (.mov (.t 1)), none⟩, ⟨(some 31), (.bin .shl (.c (.int .i64 1)) (.t 30)), none⟩, ⟨(some 32), (.bin .sub (.t 29) (.t 31)), none⟩, ⟨(some 5), (.mov (.t 32)), none⟩]) .skip)) (.seq (.ops [⟨(some 33), (.mov (.t 5)), none⟩, ⟨(some 4), (.mov (.t 33)), none⟩]) .ret)))), false⟩
theorem e172 : T 172 = some c172 := by kernel_rfl
/- 173: hopmesh/frame.isTarget -/
def c173 : Fun1 := ⟨[(.tmp 2)], (.seq (.ops [⟨(some 1), (.box (.t 0)), none⟩, ⟨(some 2), (.mov (.c (.bool false))), none⟩]) (.seq (.ops [⟨(some 3), (.faddr 2 (.t 1)), none⟩, ⟨(some 4), (.load false 1 (.t 3)), none⟩, ⟨(some 5), (.call (.c (.fn 140 [])) [(.t 4), (.c (.int .i64 31))]), none⟩, ⟨(some 6), (.mov (.t 5)), none⟩, ⟨(some 7), (.faddr 2 (.t 1)), (some (6, true))⟩, ⟨(some 8), (.load false 1 (.t 7)), (some (6, true))⟩, ⟨(some 9), (.faddr 1 (.t 1)), (some (6, true))⟩, ⟨(some 10), (.load false 1 (.t 9)), (some (6, true))⟩, ⟨(some 11), (.bin .neq (.t 8) (.t 10)), (some (6, true))⟩, ⟨(some 12), (.pick (.t 6) (.t 11) (.c (.bool false))), none⟩, ⟨(some 2), (.mov (.t 12)), none⟩]) .ret)), false⟩
theorem e173 : T 173 = some c173 := by kernel_rfl
/- 174: hopmesh/frame.isError -/
def c174 : Fun1 := ⟨[(.tmp 2)], (.seq (.ops [⟨(some 2), (.mov (.c (.bool false))), none⟩]) (.seq (.ops [⟨(some 3), (.mov (.t 0)), none⟩, ⟨(some 4), (.bin .geq (.t 3) (.c (.int .i64 (-32768)))), none⟩, ⟨(some 5), (.mov (.t 4)), none⟩, ⟨(some 6), (.mov (.t 0)), (some (5, true))⟩, ⟨(some 7), (.bin .leq (.t 6) (.c (.int .i64 32767))), (some (5, true))⟩, ⟨(some 8), (.pick (.t 5) (.t 7) (.c (.bool false))), none⟩, ⟨(some 2), (.mov (.t 8)), none⟩]) .ret)), false⟩
theorem e174 : T 174 = some c174 := by kernel_rfl
/- 175: (*hopmesh/bitio.Reader).fail -/
def c175 : Fun1 := ⟨[], (.seq (.ops [⟨(some 4), (.mov (.t 0)), none⟩, ⟨(some 5), (.nilChk (.t 4)), none⟩, ⟨(some 6), (.faddr 2 (.t 5)), none⟩, ⟨(some 7), (.load false 1 (.t 6)), none⟩, ⟨(some 8), (.bin .eql (.t 7) (.c (.int .i64 0))), none⟩]) (.cond (.t 8) (.ops [⟨(some 9), (.mov (.t 0)), none⟩, ⟨(some 10), (.mov (.t 1)), none⟩, ⟨(some 11), (.nilChk (.t 9)), none⟩, ⟨(some 12), (.faddr 2 (.t 11)), none⟩, ⟨none, (.store 1 (.t 12) (.t 10)), none⟩]) .skip)), false⟩
theorem e175 : T 175 = some c175 := by kernel_rfl
/- 179: hopmesh/power.power -/
def c179 : Fun1 := ⟨[(.tmp 2)], (.seq (.ops [⟨(some 2), (.mov (.c (.bool false))), none⟩]) (.seq (.ops [⟨(some 3), (.mov (.t 0)), none⟩, ⟨(some 4), (.bin .geq (.t 3) (.c (.int .i64 0))), none⟩, ⟨(some 5), (.mov (.t 4)), none⟩, ⟨(some 6), (.mov (.t 0)), (some (5, true))⟩, ⟨(some 7), (.bin .leq (.t 6) (.c (.int .i64 68719476736))), (some (5, true))⟩, ⟨(some 8), (.pick (.t 5) (.t 7) (.c (.bool false))), none⟩, ⟨(some 2), (.mov (.t 8)), none⟩]) .ret)), false⟩
theorem e179 : T 179 = some c179 := by kernel_rfl
/- 180: hopmesh/power.conditions -/
def c180 : Fun1 := ⟨[(.tmp 4)], (.seq (.ops [⟨(some 4), (.mov (.c (.bool false))), none⟩]) (.seq (.ops [⟨(some 5), (.mov (.t 0)), none⟩, ⟨(some 6), (.bin .geq (.t 5) (.c (.int .i64 1000))), none⟩, ⟨(some 7), (.mov (.t 6)), none⟩, ⟨(some 8), (.mov (.t 0)), (some (7, true))⟩, ⟨(some 9), (.bin .leq (.t 8) (.c (.int .i64 100000))), (some (7, true))⟩, ⟨(some 10), (.pick (.t 7) (.t 9) (.c (.bool false))), none⟩, ⟨(some 11), (.mov (.t 10)), none⟩, ⟨(some 12), (.mov (.t 1)), (some (11, true))⟩, ⟨(some 13), (.bin .geq (.t 12) (.c (.int .i64 1))), (some (11, true))⟩, ⟨(some 14), (.pick (.t 11) (.t 13) (.c (.bool false))), none⟩, ⟨(some 15), (.mov (.t 14)), none⟩, ⟨(some 16), (.mov (.t 1)), (some (15, true))⟩, ⟨(some 17), (.bin .leq (.t 16) (.c (.int .i64 68719476736))), (some (15, true))⟩, ⟨(some 18), (.pick (.t 15) (.t 17) (.c (.bool false))), none⟩, ⟨(some 4), (.mov (.t 18)), none⟩]) .ret)), false⟩
theorem e180 : T 180 = some c180 := by kernel_rfl
/- 181: hopmesh/geometry.Check -/
def c181 : Fun1 := ⟨[(.tmp 2)], (.seq (.ops [⟨(some 1), (.box (.t 0)), none⟩, ⟨(some 2), (.mov (.c (.int .i64 0))), none⟩]) (.seq (.ops [⟨(some 3), (.alloc [.nilFn]), none⟩, ⟨none, (.store 1 (.t 3) (.c (.fn 202 []))), none⟩]) (.seq (.seq (.ops [⟨(some 4), (.faddr 0 (.t 1)), none⟩, ⟨(some 5), (.load false 1 (.t 4)), none⟩, ⟨(some 6), (.len (.t 5)), none⟩, ⟨(some 7), (.bin .lss (.t 6) (.c (.int .i64 2))), none⟩, ⟨(some 8), (.mov (.t 7)), none⟩, ⟨(some 9), (.faddr 0 (.t 1)), (some (8, false))⟩, ⟨(some 10), (.load false 1 (.t 9)), (some (8, false))⟩, ⟨(some 11), (.len (.t 10)), (some (8, false))⟩, ⟨(some 12), (.bin .gtr (.t 11) (.c (.int .i64 32))), (some (8, false))⟩, ⟨(some 13), (.pick (.t 8) (.c (.bool true)) (.t 12)), none⟩, ⟨(some 14), (.mov (.t 13)), none⟩, ⟨(some 15), (.faddr 0 (.t 1)), (some (14, false))⟩, ⟨(some 16), (.load false 1 (.t 15)), (some (14, false))⟩, ⟨(some 17), (.load false 1 (.t 3)), (some (14, false))⟩, ⟨(some 18), (.call (.c (.fn 204 [])) [(.t 16), (.t 17)]), (some (14, false))⟩, ⟨(some 19), (.pick (.t 14) (.c (.bool true)) (.t 18)), none⟩]) (.cond (.t 19) (.seq (.ops [⟨(some 2), (.mov (.c (.int .i64 1))), none⟩]) .ret) .skip)) (.seq (.seq (.ops [⟨(some 20), (.faddr 1 (.t 1)), none⟩, ⟨(some 21), (.load false 1 (.t 20)), none⟩, ⟨(some 22), (.len (.t 21)), none⟩, ⟨(some 23), (.faddr 0 (.t 1)), none⟩, ⟨(some 24), (.load false 1 (.t 23)), none⟩, ⟨(some 25), (.len (.t 24)), none⟩, ⟨(some 26), (.bin .neq (.t 22) (.t 25)), none⟩, ⟨(some 27), (.mov (.t 26)), none⟩, ⟨(some 28), (.faddr 1 (.t 1)), (some (27, false))⟩, ⟨(some 29), (.load false 1 (.t 28)), (some (27, false))⟩, ⟨(some 30), (.call (.c (.fn 59 [])) [(.t 29), (.c (.fn 205 []))]), (some (27, false))⟩, ⟨(some 31), (.pick (.t 27) (.c (.bool true)) (.t 30)), none⟩]) (.cond (.t 31) (.seq (.ops [⟨(some 2), (.mov (.c (.int .i64 1))), none⟩]) .ret) .skip)) (.seq (.seq (.ops [⟨(some 32), (.faddr 2 (.t 1)), none⟩, ⟨(some 33), (.load false 1 (.t 32)), none⟩, ⟨(some 34), (.len (.t 33)), none⟩, ⟨(some 35), (.bin .gtr (.t 34) (.c (.int .i64 32))), none⟩, ⟨(some 36), (.mov (.t 35)), none⟩, ⟨(some 37), (.faddr 2 (.t 1)), (some (36, false))⟩, ⟨(some 38), (.load false 1 (.t 37)), (some (36, false))⟩, ⟨(some 39), (.mkfn 208 [(.t 3)]), (some (36, false))⟩, ⟨(some 40), (.call (.c (.fn 207 [])) [(.t 38), (.t 39)]), (some (36, false))⟩, ⟨(some 41), (.pick (.t 36) (.c (.bool true)) (.t 40)), none⟩]) (.cond (.t 41) (.seq (.ops [⟨(some 2), (.mov (.c (.int .i64 1))), none⟩]) .ret) .skip)) (.seq (.seq (.ops [⟨(some 42), (.faddr 3 (.t 1)), none⟩, ⟨(some 43), (.load false 1 (.t 42)), none⟩, ⟨(some 44), (.bin .neq (.t 43) (.c (.int .i64 2))), none⟩, ⟨(some 45), (.mov (.t 44)), none⟩, ⟨(some 46), (.faddr 3 (.t 1)), (some (45, true))⟩, ⟨(some 47), (.load false 1 (.t 46)), (some (45, true))⟩, ⟨(some 48), (.bin .neq (.t 47) (.c (.int .i64 4))), (some (45, true))⟩, ⟨(some 49), (.pick (.t 45) (.t 48) (.c (.bool false))), none⟩, ⟨(some 50), (.mov (.t 49)), none⟩, ⟨(some 51), (.faddr 5 (.t 1)), (some (50, false))⟩, ⟨(some 52), (.load false 1 (.t 51)), (some (50, false))⟩, ⟨(some 53), (.bin .lss (.t 52) (.c (.int .i64 1000))), (some (50, false))⟩, ⟨(some 54), (.pick (.t 50) (.c (.bool true)) (.t 53)), none⟩, ⟨(some 55), (.mov (.t 54)), none⟩, ⟨(some 56), (.faddr 5 (.t 1)), (some (55, false))⟩, ⟨(some 57), (.load false 1 (.t 56)), (some (55, false))⟩, ⟨(some 58), (.bin .gtr (.t 57) (.c (.int .i64 100000))), (some (55, false))⟩, ⟨(some 59), (.pick (.t 55) (.c (.bool true)) (.t 58)), none⟩, ⟨(some 60), (.mov (.t 59)), none⟩, ⟨(some 61), (.faddr 4 (.t 1)), (some (60, false))⟩, ⟨(some 62), (.load false 1 (.t 61)), (some (60, false))⟩, ⟨(some 63), (.bin .lss (.t 62) (.c (.int .i64 1))), (some (60, false))⟩, ⟨(some 64), (.pick (.t 60) (.c (.bool true)) (.t 63)), none⟩, ⟨(some 65), (.mov (.t 64)), none⟩, ⟨(some 66), (.faddr 4 (.t 1)), (some (65, false))⟩, ⟨(some 67), (.load false 1 (.t 66)), (some (65, false))⟩, ⟨(some 68), (.bin .gtr (.t 67) (.c (.int .i64 68719476736))), (some (65, false))⟩, ⟨(some 69), (.pick (.t 65) (.c (.bool true)) (.t 68)), none⟩]) (.cond (.t 69) (.seq (.ops [⟨(some 2), (.mov (.c (.int .i64 1))), none⟩]) .ret) .skip)) (.seq (.ops [⟨(some 2), (.mov (.c (.int .i64 0))), none⟩]) .ret))))))), false⟩
theorem e181 : T 181 = some c181 := by kernel_rfl
/- 182: hopmesh/spectrum.Check -/
def c182 : Fun1 := ⟨[(.tmp 2)], (.seq (.ops [⟨(some 1), (.box (.t 0)), none⟩, ⟨(some 2), (.mov (.c (.int .i64 0))), none⟩]) (.seq (.seq (.ops [⟨(some 3), (.faddr 0 (.t 1)), none⟩, ⟨(some 4), (.load false 1 (.t 3)), none⟩, ⟨(some 5), (.len (.t 4)), none⟩, ⟨(some 6), (.bin .gtr (.t 5) (.c (.int .i64 16))), none⟩, ⟨(some 7), (.mov (.t 6)), none⟩, ⟨(some 8), (.faddr 1 (.t 1)), (some (7, false))⟩, ⟨(some 9), (.load false 1 (.t 8)), (some (7, false))⟩, ⟨(some 10), (.len (.t 9)), (some (7, false))⟩, ⟨(some 11), (.bin .gtr (.t 10) (.c (.int .i64 64))), (some (7, false))⟩, ⟨(some 12), (.pick (.t 7) (.c (.bool true)) (.t 11)), none⟩]) (.cond (.t 12) (.seq (.ops [⟨(some 2), (.mov (.c (.int .i64 1))), none⟩]) .ret) .skip)) (.seq (.seq (.ops [⟨(some 13), (.faddr 0 (.t 1)), none⟩, ⟨(some 14), (.load false 1 (.t 13)), none⟩, ⟨(some 15), (.call (.c (.fn 209 [])) [(.t 14), (.c (.fn 210 []))]), none⟩, ⟨(some 16), (.mov (.t 15)), none⟩, ⟨(some 17), (.faddr 1 (.t 1)), (some (16, false))⟩, ⟨(some 18), (.load false 1 (.t 17)), (some (16, false))⟩, ⟨(some 19), (.call (.c (.fn 212 [])) [(.t 18), (.c (.fn 213 []))]), (some (16, false))⟩, ⟨(some 20), (.pick (.t 16) (.c (.bool true)) (.t 19)), none⟩]) (.cond (.t 20) (.seq (.ops [⟨(some 2), (.mov (.c (.int .i64 1))), none⟩]) .ret) .skip)) (.seq (.ops [⟨(some 2), (.mov (.c (.int .i64 0))), none⟩]) .ret)))), false⟩
theorem e182 : T 182 = some c182 := by kernel_rfl
/- 183: hopmesh/air.Overlap -/
def c183 : Fun1 := ⟨[(.tmp 4)], (.seq (.ops [⟨(some 2), (.box (.t 0)), none⟩, ⟨(some 3), (.box (.t 1)), none⟩, ⟨(some 4), (.mov (.c (.bool false))), none⟩]) (.seq (.ops [⟨(some 5), (.faddr 2 (.t 2)), none⟩, ⟨(some 6), (.load false 1 (.t 5)), none⟩, ⟨(some 7), (.faddr 2 (.t 3)), none⟩, ⟨(some 8), (.load false 1 (.t 7)), none⟩, ⟨(some 9), (.maxI [(.t 6), (.t 8)]), none⟩, ⟨(some 10), (.faddr 3 (.t 2)), none⟩, ⟨(some 11), (.load false 1 (.t 10)), none⟩, ⟨(some 12), (.faddr 3 (.t 3)), none⟩, ⟨(some 13), (.load false 1 (.t 12)), none⟩, ⟨(some 14), (.minI [(.t 11), (.t 13)]), none⟩, ⟨(some 15), (.bin .lss (.t 9) (.t 14)), none⟩, ⟨(some 4), (.mov (.t 15)), none⟩]) .ret)), false⟩
theorem e183 : T 183 = some c183 := by kernel_rfl
/- 184: hopmesh/spectrum.Signal -/
def c184 : Fun1 := ⟨[(.tmp 12), (.tmp 13)], (.seq (.ops [⟨(some 6), (.box (.t 0)), none⟩, ⟨(some 7), (.box (.t 1)), none⟩, ⟨(some 12), (.mov (.c (.int .i64 0))), none⟩, ⟨(some 13), (.mov (.c (.int .i64 0))), none⟩]) (.seq (.ops [⟨(some 17), (.load true 6 (.t 6)), none⟩, ⟨(some 18), (.load true 2 (.t 7)), none⟩, ⟨(some 19), (.mov (.t 2)), none⟩, ⟨(some 20), (.mov (.t 3)), none⟩, ⟨(some 21), (.call (.c (.fn 215 [])) [(.t 17), (.t 18), (.t 19), (.t 20)]), none⟩, ⟨(some 16), (.mov (.t 21)), none⟩, ⟨(some 22), (.extract (.t 16) 0), none⟩, ⟨(some 23), (.extract (.t 16) 1), none⟩, ⟨(some 14), (.mov (.t 22)), none⟩, ⟨(some 15), (.mov (.t 23)), none⟩]) (.seq (.block 0 (.seq (.ops [⟨(some 25), (.mov (.t 15)), none⟩, ⟨(some 26), (.bin .neq (.t 25) (.c (.int .i64 0))), none⟩, ⟨(some 24), (.mov (.t 26)), none⟩]) (.cond (.t 24) (.seq (.ops [⟨(some 27), (.mov (.t 15)), none⟩, ⟨(some 12), (.mov (.c (.int .i64 0))), none⟩, ⟨(some 13), (.mov (.t 27)), none⟩]) .ret) (.seq (.ops [⟨(some 29), (.mov (.t 4)), none⟩, ⟨(some 30), (.call (.c (.fn 216 [])) [(.t 29)]), none⟩, ⟨(some 31), (.notB (.t 30)), none⟩, ⟨(some 32), (.mov (.t 31)), none⟩, ⟨(some 33), (.mov (.t 5)), (some (32, false))⟩, ⟨(some 34), (.bin .lss (.t 33) (.c (.int .i64 0))), (some (32, false))⟩, ⟨(some 35), (.pick (.t 32) (.c (.bool true)) (.t 34)), none⟩, ⟨(some 36), (.mov (.t 35)), none⟩, ⟨(some 37), (.mov (.t 5)), (some (36, false))⟩, ⟨(some 38), (.bin .gtr (.t 37) (.c (.int .i64 1099511627776))), (some (36, false))⟩, ⟨(some 39), (.pick (.t 36) (.c (.bool true)) (.t 38)), none⟩, ⟨(some 28), (.mov (.t 39)), none⟩]) (.cond (.t 28) (.seq (.ops [⟨(some 12), (.mov (.c (.int .i64 0))), none⟩, ⟨(some 13), (.mov (.c (.int .i64 2))), none⟩]) .ret) .skip))))) (.seq (.ops [⟨(some 40), (.mov (.t 14)), none⟩, ⟨(some 41), (.load true 2 (.t 7)), none⟩, ⟨(some 42), (.mov (.t 2)), none⟩, ⟨(some 43), (.mov (.t 3)), none⟩, ⟨(some 44), (.mov (.t 4)), none⟩, ⟨(some 45), (.mov (.t 5)), none⟩, ⟨(some 46), (.call (.c (.fn 218 [])) [(.t 41), (.t 42), (.t 43), (.t 44), (.t 45)]), none⟩, ⟨(some 47), (.call (.c (.fn 217 [])) [(.t 40), (.t 46)]), none⟩, ⟨(some 48), (.extract (.t 47) 0), none⟩, ⟨(some 49), (.extract (.t 47) 1), none⟩, ⟨(some 12), (.mov (.t 48)), none⟩, ⟨(some 13), (.mov (.t 49)), none⟩]) .ret)))), false⟩
theorem e184 : T 184 = some c184 := by kernel_rfl
/- 185: (hopmesh/air.scene).external -/
def c185 : Fun1 := ⟨[(.tmp 6)], (.seq (.ops [⟨(some 3), (.box (.t 0)), none⟩, ⟨(some 6), (.mov (.c (.int .i64 0))), none⟩]) (.seq (.ops [⟨(some 10), (.faddr 8 (.t 3)), none⟩, ⟨(some 11), (.load false 1 (.t 10)), none⟩, ⟨(some 12), (.mov (.t 1)), none⟩, ⟨(some 13), (.iaddrS 4 (.t 11) (.t 12)), none⟩, ⟨(some 14), (.load true 4 (.t 13)), none⟩, ⟨(some 7), (.alloc [(.int .i64 0), (.int .i64 0), (.int .i64 0), (.int .i64 0)]), none⟩, ⟨none, (.store 4 (.t 7) (.t 14)), none⟩]) (.seq (.ops [⟨(some 16), (.faddr 0 (.t 3)), none⟩, ⟨(some 17), (.load true 6 (.t 16)), none⟩, ⟨(some 18), (.faddr 6 (.t 3)), none⟩, ⟨(some 19), (.load true 2 (.t 18)), none⟩, ⟨(some 20), (.mov (.t 2)), none⟩, ⟨(some 21), (.faddr 1 (.t 7)), none⟩, ⟨(some 22), (.load false 1 (.t 21)), none⟩, ⟨(some 23), (.faddr 2 (.t 7)), none⟩, ⟨(some 24), (.load false 1 (.t 23)), none⟩, ⟨(some 25), (.faddr 3 (.t 7)), none⟩, ⟨(some 26), (.load false 1 (.t 25)), none⟩, ⟨(some 27), (.call (.c (.fn 219 [])) [(.t 17), (.t 19), (.t 20), (.t 22), (.t 24), (.t 26)]), none⟩, ⟨(some 15), (.mov (.t 27)), none⟩, ⟨(some 28), (.extract (.t 15) 0), none⟩, ⟨(some 29), (.extract (.t 15) 1), none⟩, ⟨(some 8), (.mov (.t 28)), none⟩, ⟨(some 9), (.mov (.t 29)), none⟩]) (.seq (.ops [⟨(some 30), (.mov (.t 8)), none⟩, ⟨(some 6), (.mov (.t 30)), none⟩]) .ret)))), false⟩
theorem e185 : T 185 = some c185 := by kernel_rfl
/- 186: (hopmesh/air.scene).others -/
def c186 : Fun1 := ⟨[(.tmp 6)], (.seq (.ops [⟨(some 3), (.box (.t 0)), none⟩, ⟨(some 4), (.box (.t 1)), none⟩, ⟨(some 5), (.box (.t 2)), none⟩, ⟨(some 6), (.mov (.c .nilFn)), none⟩]) (.seq (.ops [⟨(some 7), (.mkfn 220 [(.t 3), (.t 4), (.t 5)]), none⟩, ⟨(some 6), (.mov (.t 7)), none⟩]) .ret)), false⟩
theorem e186 : T 186 = some c186 := by kernel_rfl
/- 190: slices.insertionSortCmpFunc[int] -/
def c190 : Fun1 := ⟨[], (.seq (.ops [⟨(some 10), (.mov (.t 1)), none⟩, ⟨(some 11), (.bin .add (.t 10) (.c (.int .i64 1))), none⟩, ⟨(some 8), (.mov (.t 11)), none⟩]) (.block 0 (.loop ⟨[0, 1, 2, 3, 8], []⟩ (.seq (.seq (.ops [⟨(some 12), (.mov (.t 8)), none⟩, ⟨(some 13), (.mov (.t 2)), none⟩, ⟨(some 14), (.bin .lss (.t 12) (.t 13)), none⟩]) (.cond (.t 14) .skip (.exit 0))) (.seq (.block 1 (.seq (.ops [⟨(some 17), (.mov (.t 8)), none⟩, ⟨(some 9), (.mov (.t 17)), none⟩]) (.block 2 (.loop ⟨[0, 1, 2, 3, 8, 9], []⟩ (.seq (.seq (.drawn [(⟨(some 18), (.mov (.t 9)), none⟩, ⟨.pure, [], 0, 0⟩), (⟨(some 19), (.mov (.t 1)), none⟩, ⟨.pure, [], 0, 0⟩), (⟨(some 20), (.bin .gtr (.t 18) (.t 19)), none⟩, ⟨.pure, [], 0, 0⟩), (⟨(some 21), (.mov (.t 20)), none⟩, ⟨.pure, [], 0, 0⟩), (⟨(some 22), (.mov (.t 3)), (some (21, true))⟩, ⟨.pure, [], 0, 0⟩), (⟨(some 23), (.mov (.t 0)), (some (21, true))⟩, ⟨.pure, [], 0, 0⟩), (⟨(some 24), (.mov (.t 9)), (some (21, true))⟩, ⟨.pure, [], 0, 0⟩), (⟨(some 25), (.iaddrS 1 (.t 23) (.t 24)), (some (21, true))⟩, ⟨.seg, [], 0, 0⟩), (⟨(some 26), (.load false 1 (.t 25)), (some (21, true))⟩, ⟨.seg, [], 0, 0⟩), (⟨(some 27), (.mov (.t 0)), (some (21, true))⟩, ⟨.pure, [], 0, 0⟩), (⟨(some 28), (.mov (.t 9)), (some (21, true))⟩, ⟨.pure, [], 0, 0⟩), (⟨(some 29), (.bin .sub (.t 28) (.c (.int .i64 1))), (some (21, true))⟩, ⟨.pure, [], 0, 0⟩), (⟨(some 30), (.iaddrS 1 (.t 27) (.t 29)), (some (21, true))⟩, ⟨.seg, [], 0, 0⟩), (⟨(some 31), (.load false 1 (.t 30)), (some (21, true))⟩, ⟨.seg, [], 0, 0⟩), (⟨(some 32), (.call (.t 22) [(.t 26), (.t 31)]), (some (21, true))⟩, ⟨.bar, [], 0, 0⟩), (⟨(some 33), (.bin .lss (.t 32) (.c (.int .i64 0))), (some (21, true))⟩, ⟨.pure, [], 0, 0⟩), (⟨(some 34), (.pick (.t 21) (.t 33) (.c (.bool false))), none⟩, ⟨.pure, [], 0, 0⟩)]) (.cond (.t 34) .skip (.exit 2))) (.seq (.block 3 (.drawn [(⟨(some 37), (.mov (.t 0)), none⟩, ⟨.pure, [], 0, 0⟩), (⟨(some 38), (.mov (.t 9)), none⟩, ⟨.pure, [], 0, 0⟩), (⟨(some 39), (.mov (.t 0)), none⟩, ⟨.pure, [], 0, 0⟩), (⟨(some 40), (.mov (.t 9)), none⟩, ⟨.pure, [], 0, 0⟩), (⟨(some 41), (.bin .sub (.t 40) (.c (.int .i64 1))), none⟩, ⟨.pure, [], 0, 0⟩), (⟨(some 42), (.mov (.t 0)), none⟩, ⟨.pure, [], 0, 0⟩), (⟨(some 43), (.mov (.t 9)), none⟩, ⟨.pure, [], 0, 0⟩), (⟨(some 44), (.bin .sub (.t 43) (.c (.int .i64 1))), none⟩, ⟨.pure, [], 0, 0⟩), (⟨(some 45), (.iaddrS 1 (.t 42) (.t 44)), none⟩, ⟨.seg, [], 0, 0⟩), (⟨(some 46), (.load false 1 (.t 45)), none⟩, ⟨.seg, [], 0, 0⟩), (⟨(some 47), (.mov (.t 0)), none⟩, ⟨.pure, [], 0, 0⟩), (⟨(some 48), (.mov (.t 9)), none⟩, ⟨.pure, [], 0, 0⟩), (⟨(some 49), (.iaddrS 1 (.t 47) (.t 48)), none⟩, ⟨.seg, [], 0, 0⟩), (⟨(some 50), (.load false 1 (.t 49)), none⟩, ⟨.seg, [], 0, 0⟩), (⟨(some 51), (.iaddrS 1 (.t 37) (.t 38)), none⟩, ⟨.bar, [], 0, 0⟩), (⟨none, (.store 1 (.t 51) (.t 46)), none⟩, ⟨.bar, [], 0, 0⟩), (⟨(some 52), (.iaddrS 1 (.t 39) (.t 41)), none⟩, ⟨.bar, [], 0, 0⟩), (⟨none, (.store 1 (.t 52) (.t 50)), none⟩, ⟨.bar, [], 0, 0⟩)])) (.ops [⟨(some 35), (.mov (.t 9)), none⟩, ⟨(some 36), (.bin .sub (.t 35) (.c (.int .i64 1))), none⟩, ⟨(some 9), (.mov (.t 36)), none⟩]))))))) (.ops [⟨(some 15), (.mov (.t 8)), none⟩, ⟨(some 16), (.bin .add (.t 15) (.c (.int .i64 1))), none⟩, ⟨(some 8), (.mov (.t 16)), none⟩])))))), false⟩
theorem e190 : T 190 = some c190 := by kernel_rfl
/- 191: slices.symMergeCmpFunc[int] -/
def c191 : Fun1 := ⟨[], (.seq (.seq (.ops [⟨(some 25), (.mov (.t 2)), none⟩, ⟨(some 26), (.mov (.t 1)), none⟩, ⟨(some 27), (.bin .sub (.t 25) (.t 26)), none⟩, ⟨(some 28), (.bin .eql (.t 27) (.c (.int .i64 1))), none⟩]) (.cond (.t 28) (.seq (.ops [⟨(some 29), (.mov (.t 2)), none⟩, ⟨(some 10), (.mov (.t 29)), none⟩]) (.seq (.ops [⟨(some 30), (.mov (.t 3)), none⟩, ⟨(some 11), (.mov (.t 30)), none⟩]) (.seq (.block 0 (.loop ⟨[0, 1, 4, 10, 11], []⟩ (.seq (.seq (.ops [⟨(some 31), (.mov (.t 10)), none⟩, ⟨(some 32), (.mov (.t 11)), none⟩, ⟨(some 33), (.bin .lss (.t 31) (.t 32)), none⟩]) (.cond (.t 33) .skip (.exit 0))) (.block 1 (.seq (.ops [⟨(some 34), (.mov (.t 10)), none⟩, ⟨(some 35), (.mov (.t 11)), none⟩, ⟨(some 36), (.bin .add (.t 34) (.t 35)), none⟩, ⟨(some 37), (.convI .u64 (.t 36)), none⟩, ⟨(some 38), (.bin .shr (.t 37) (.c (.int .u64 1))), none⟩, ⟨(some 39), (.convI .i64 (.t 38)), none⟩, ⟨(some 12), (.mov (.t 39)), none⟩]) (.seq (.drawn [(⟨(some 40), (.mov (.t 4)), none⟩, ⟨.pure, [], 0, 0⟩), (⟨(some 41), (.mov (.t 0)), none⟩, ⟨.pure, [], 0, 0⟩), (⟨(some 42), (.mov (.t 12)), none⟩, ⟨.pure, [], 0, 0⟩), (⟨(some 43), (.iaddrS 1 (.t 41) (.t 42)), none⟩, ⟨.seg, [], 0, 0⟩), (⟨(some 44), (.load false 1 (.t 43)), none⟩, ⟨.seg, [], 0, 0⟩), (⟨(some 45), (.mov (.t 0)), none⟩, ⟨.pure, [], 0, 0⟩), (⟨(some 46), (.mov (.t 1)), none⟩, ⟨.pure, [], 0, 0⟩), (⟨(some 47), (.iaddrS 1 (.t 45) (.t 46)), none⟩, ⟨.seg, [], 0, 0⟩), (⟨(some 48), (.load false 1 (.t 47)), none⟩, ⟨.seg, [], 0, 0⟩), (⟨(some 49), (.call (.t 40) [(.t 44), (.t 48)]), none⟩, ⟨.bar, [], 0, 0⟩), (⟨(some 50), (.bin .lss (.t 49) (.c (.int .i64 0))), none⟩, ⟨.pure, [], 0, 0⟩)]) (.cond (.t 50) (.ops [⟨(some 51), (.mov (.t 12)), none⟩, ⟨(some 52), (.bin .add (.t 51) (.c (.int .i64 1))), none⟩, ⟨(some 10), (.mov (.t 52)), none⟩]) (.ops [⟨(some 53), (.mov (.t 12)), none⟩, ⟨(some 11), (.mov (.t 53)), none⟩])))))))) (.seq (.seq (.ops [⟨(some 54), (.mov (.t 1)), none⟩, ⟨(some 13), (.mov (.t 54)), none⟩]) (.block 2 (.loop ⟨[0, 10, 13], []⟩ (.seq (.seq (.ops [⟨(some 55), (.mov (.t 13)), none⟩, ⟨(some 56), (.mov (.t 10)), none⟩, ⟨(some 57), (.bin .sub (.t 56) (.c (.int .i64 1))), none⟩, ⟨(some 58), (.bin .lss (.t 55) (.t 57)), none⟩]) (.cond (.t 58) .skip (.exit 2))) (.seq (.block 3 (.drawn [(⟨(some 61), (.mov (.t 0)), none⟩, ⟨.pure, [], 0, 0⟩), (⟨(some 62), (.mov (.t 13)), none⟩, ⟨.pure, [], 0, 0⟩), (⟨(some 63), (.mov (.t 0)), none⟩, ⟨.pure, [], 0, 0⟩), (⟨(some 64), (.mov (.t 13)), none⟩, ⟨.pure, [], 0, 0⟩), (⟨(some 65), (.bin .add (.t 64) (.c (.int .i64 1))), none⟩, ⟨.pure, [], 0, 0⟩), (⟨(some 66), (.mov (.t 0)), none⟩, ⟨.pure, [], 0, 0⟩), (⟨(some 67), (.mov (.t 13)), none⟩, ⟨.pure, [], 0, 0⟩), (⟨(some 68), (.bin .add (.t 67) (.c (.int .i64 1))), none⟩, ⟨.pure, [], 0, 0⟩), (⟨(some 69), (.iaddrS 1 (.t 66) (.t 68)), none⟩, ⟨.seg, [], 0, 0⟩), (⟨(some 70), (.load false 1 (.t 69)), none⟩, ⟨.seg, [], 0, 0⟩), (⟨(some 71), (.mov (.t 0)), none⟩, ⟨.pure, [], 0, 0⟩), (⟨(some 72), (.mov (.t 13)), none⟩, ⟨.pure, [], 0, 0⟩), (⟨(some 73), (.iaddrS 1 (.t 71) (.t 72)), none⟩, ⟨.seg, [], 0, 0⟩), (⟨(some 74), (.load false 1 (.t 73)), none⟩, ⟨.seg, [], 0, 0⟩), (⟨(some 75), (.iaddrS 1 (.t 61) (.t 62)), none⟩, ⟨.bar, [], 0, 0⟩), (⟨none, (.store 1 (.t 75) (.t 70)), none⟩, ⟨.bar, [], 0, 0⟩), (⟨(some 76), (.iaddrS 1 (.t 63) (.t 65)), none⟩, ⟨.bar, [], 0, 0⟩), (⟨none, (.store 1 (.t 76) (.t 74)), none⟩, ⟨.bar, [], 0, 0⟩)])) (.ops [⟨(some 59), (.mov (.t 13)), none⟩, ⟨(some 60), (.bin .add (.t 59) (.c (.int .i64 1))), none⟩, ⟨(some 13), (.mov (.t 60)), none⟩])))))) .ret)))) .skip)) (.seq (.seq (.ops [⟨(some 77), (.mov (.t 3)), none⟩, ⟨(some 78), (.mov (.t 2)), none⟩, ⟨(some 79), (.bin .sub (.t 77) (.t 78)), none⟩, ⟨(some 80), (.bin .eql (.t 79) (.c (.int .i64 1))), none⟩]) (.cond (.t 80) (.seq (.ops [⟨(some 81), (.mov (.t 1)), none⟩, ⟨(some 14), (.mov (.t 81)), none⟩]) (.seq (.ops [⟨(some 82), (.mov (.t 2)), none⟩, ⟨(some 15), (.mov (.t 82)), none⟩]) (.seq (.block 4 (.loop ⟨[0, 2, 4, 14, 15], []⟩ (.seq (.seq (.ops [⟨(some 83), (.mov (.t 14)), none⟩, ⟨(some 84), (.mov (.t 15)), none⟩, ⟨(some 85), (.bin .lss (.t 83) (.t 84)), none⟩]) (.cond (.t 85) .skip (.exit 4))) (.block 5 (.seq (.ops [⟨(some 86), (.mov (.t 14)), none⟩, ⟨(some 87), (.mov (.t 15)), none⟩, ⟨(some 88), (.bin .add (.t 86) (.t 87)), none⟩, ⟨(some 89), (.convI .u64 (.t 88)), none⟩, ⟨(some 90), (.bin .shr (.t 89) (.c (.int .u64 1))), none⟩, ⟨(some 91), (.convI .i64 (.t 90)), none⟩, ⟨(some 16), (.mov (.t 91)), none⟩]) (.seq (.drawn [(⟨(some 92), (.mov (.t 4)), none⟩, ⟨.pure, [], 0, 0⟩), (⟨(some 93), (.mov (.t 0)), none⟩, ⟨.pure, [], 0, 0⟩), (⟨(some 94), (.mov (.t 2)), none⟩, ⟨.pure, [], 0, 0⟩), (⟨(some 95), (.iaddrS 1 (.t 93) (.t 94)), none⟩, ⟨.seg, [], 0, 0⟩), (⟨(some 96), (.load false 1 (.t 95)), none⟩, ⟨.seg, [], 0, 0⟩), (⟨(some 97), (.mov (.t 0)), none⟩, ⟨.pure, [], 0, 0⟩), (⟨(some 98), (.mov (.t 16)), none⟩, ⟨.pure, [], 0, 0⟩), (⟨(some 99), (.iaddrS 1 (.t 97) (.t 98)), none⟩, ⟨.seg, [], 0, 0⟩), (⟨(some 100), (.load false 1 (.t 99)), none⟩, ⟨.seg, [], 0, 0⟩), (⟨(some 101), (.call (.t 92) [(.t 96), (.t 100)]), none⟩, ⟨.bar, [], 0, 0⟩), (⟨(some 102), (.bin .lss (.t 101) (.c (.int .i64 0))), none⟩, ⟨.pure, [], 0, 0⟩), (⟨(some 103), (.notB (.t 102)), none⟩, ⟨.pure, [], 0, 0⟩)]) (.cond (.t 103) (.ops [⟨(some 104), (.mov (.t 16)), none⟩, ⟨(some 105), (.bin .add (.t 104) (.c (.int .i64 1))), none⟩, ⟨(some 14), (.mov (.t 105)), none⟩]) (.ops [⟨(some 106), (.mov (.t 16)), none⟩, ⟨(some 15), (.mov (.t 106)), none⟩])))))))) (.seq (.seq (.ops [⟨(some 107), (.mov (.t 2)), none⟩, ⟨(some 17), (.mov (.t 107)), none⟩]) (.block 6 (.loop ⟨[0, 14, 17], []⟩ (.seq (.seq (.ops [⟨(some 108), (.mov (.t 17)), none⟩, ⟨(some 109), (.mov (.t 14)), none⟩, ⟨(some 110), (.bin .gtr (.t 108) (.t 109)), none⟩]) (.cond (.t 110) .skip (.exit 6))) (.seq (.block 7 (.drawn [(⟨(some 113), (.mov (.t 0)), none⟩, ⟨.pure, [], 0, 0⟩), (⟨(some 114), (.mov (.t 17)), none⟩, ⟨.pure, [], 0, 0⟩), (⟨(some 115), (.mov (.t 0)), none⟩, ⟨.pure, [], 0, 0⟩), (⟨(some 116), (.mov (.t 17)), none⟩, ⟨.pure, [], 0, 0⟩), (⟨(some 117), (.bin .sub (.t 116) (.c (.int .i64 1))), none⟩, ⟨.pure, [], 0, 0⟩), (⟨(some 118), (.mov (.t 0)), none⟩, ⟨.pure, [], 0, 0⟩), (⟨(some 119), (.mov (.t 17)), none⟩, ⟨.pure, [], 0, 0⟩), (⟨(some 120), (.bin .sub (.t 119) (.c (.int .i64 1))), none⟩, ⟨.pure, [], 0, 0⟩), (⟨(some 121), (.iaddrS 1 (.t 118) (.t 120)), none⟩, ⟨.seg, [], 0, 0⟩), (⟨(some 122), (.load false 1 (.t 121)), none⟩, ⟨.seg, [], 0, 0⟩), (⟨(some 123), (.mov (.t 0)), none⟩, ⟨.pure, [], 0, 0⟩), (⟨(some 124), (.mov (.t 17)), none⟩, ⟨.pure, [], 0, 0⟩), (⟨(some 125), (.iaddrS 1 (.t 123) (.t 124)), none⟩, ⟨.seg, [], 0, 0⟩), (⟨(some 126), (.load false 1 (.t 125)), none⟩, ⟨.seg, [], 0, 0⟩), (⟨(some 127), (.iaddrS 1 (.t 113) (.t 114)), none⟩, ⟨.bar, [], 0, 0⟩), (⟨none, (.store 1 (.t 127) (.t 122)), none⟩, ⟨.bar, [], 0, 0⟩), (⟨(some 128), (.iaddrS 1 (.t 115) (.t 117)), none⟩, ⟨.bar, [], 0, 0⟩), (⟨none, (.store 1 (.t 128) (.t 126)), none⟩, ⟨.bar, [], 0, 0⟩)])) (.ops [⟨(some 111), (.mov (.t 17)), none⟩, ⟨(some 112), (.bin .sub (.t 111) (.c (.int .i64 1))), none⟩, ⟨(some 17), (.mov (.t 112)), none⟩])))))) .ret)))) .skip)) (.seq (.ops [⟨(some 129), (.mov (.t 1)), none⟩, ⟨(some 130), (.mov (.t 3)), none⟩, ⟨(some 131), (.bin .add (.t 129) (.t 130)), none⟩, ⟨(some 132), (.convI .u64 (.t 131)), none⟩, ⟨(some 133), (.bin .shr (.t 132) (.c (.int .u64 1))), none⟩, ⟨(some 134), (.convI .i64 (.t 133)), none⟩, ⟨(some 18), (.mov (.t 134)), none⟩]) (.seq (.ops [⟨(some 135), (.mov (.t 18)), none⟩, ⟨(some 136), (.mov (.t 2)), none⟩, ⟨(some 137), (.bin .add (.t 135) (.t 136)), none⟩, ⟨(some 19), (.mov (.t 137)), none⟩]) (.seq (.ops [⟨(some 20), (.mov (.c (.int .i64 0))), none⟩, ⟨(some 21), (.mov (.c (.int .i64 0))), none⟩]) (.seq (.seq (.ops [⟨(some 138), (.mov (.t 2)), none⟩, ⟨(some 139), (.mov (.t 18)), none⟩, ⟨(some 140), (.bin .gtr (.t 138) (.t 139)), none⟩]) (.cond (.t 140) (.seq (.ops [⟨(some 141), (.mov (.t 19)), none⟩, ⟨(some 142), (.mov (.t 3)), none⟩, ⟨(some 143), (.bin .sub (.t 141) (.t 142)), none⟩, ⟨(some 20), (.mov (.t 143)), none⟩]) (.ops [⟨(some 144), (.mov (.t 18)), none⟩, ⟨(some 21), (.mov (.t 144)), none⟩])) (.seq (.ops [⟨(some 145), (.mov (.t 1)), none⟩, ⟨(some 20), (.mov (.t 145)), none⟩]) (.ops [⟨(some 146), (.mov (.t 2)), none⟩, ⟨(some 21), (.mov (.t 146)), none⟩])))) (.seq (.ops [⟨(some 147), (.mov (.t 19)), none⟩, ⟨(some 148), (.bin .sub (.t 147) (.c (.int .i64 1))), none⟩, ⟨(some 22), (.mov (.t 148)), none⟩]) (.seq (.block 8 (.loop ⟨[0, 1, 2, 3, 4, 18, 19, 20, 21, 22], []⟩ (.seq (.seq (.ops [⟨(some 149), (.mov (.t 20)), none⟩, ⟨(some 150), (.mov (.t 21)), none⟩, ⟨(some 151), (.bin .lss (.t 149) (.t 150)), none⟩]) (.cond (.t 151) .skip (.exit 8))) (.block 9 (.seq (.ops [⟨(some 152), (.mov (.t 20)), none⟩, ⟨(some 153), (.mov (.t 21)), none⟩, ⟨(some 154), (.bin .add (.t 152) (.t 153)), none⟩, ⟨(some 155), (.convI .u64 (.t 154)), none⟩, ⟨(some 156), (.bin .shr (.t 155) (.c (.int .u64 1))), none⟩, ⟨(some 157), (.convI .i64 (.t 156)), none⟩, ⟨(some 23), (.mov (.t 157)), none⟩]) (.seq (.drawn [(⟨(some 158), (.mov (.t 4)), none⟩, ⟨.pure, [], 0, 0⟩), (⟨(some 159), (.mov (.t 0)), none⟩, ⟨.pure, [], 0, 0⟩), (⟨(some 160), (.mov (.t 22)), none⟩, ⟨.pure, [], 0, 0⟩), (⟨(some 161), (.mov (.t 23)), none⟩, ⟨.pure, [], 0, 0⟩), (⟨(some 162), (.bin .sub (.t 160) (.t 161)), none⟩, ⟨.pure, [], 0, 0⟩), (⟨(some 163), (.iaddrS 1 (.t 159) (.t 162)), none⟩, ⟨.seg, [], 0, 0⟩), (⟨(some 164), (.load false 1 (.t 163)), none⟩, ⟨.seg, [], 0, 0⟩), (⟨(some 165), (.mov (.t 0)), none⟩, ⟨.pure, [], 0, 0⟩), (⟨(some 166), (.mov (.t 23)), none⟩, ⟨.pure, [], 0, 0⟩), (⟨(some 167), (.iaddrS 1 (.t 165) (.t 166)), none⟩, ⟨.seg, [], 0, 0⟩), (⟨(some 168), (.load false 1 (.t 167)), none⟩, ⟨.seg, [], 0, 0⟩), (⟨(some 169), (.call (.t 158) [(.t 164), (.t 168)]), none⟩, ⟨.bar, [], 0, 0⟩), (⟨(some 170), (.bin .lss (.t 169) (.c (.int .i64 0))), none⟩, ⟨.pure, [], 0, 0⟩), (⟨(some 171), (.notB (.t 170)), none⟩, ⟨.pure, [], 0, 0⟩)]) (.cond (.t 171) (.ops [⟨(some 172), (.mov (.t 23)), none⟩, ⟨(some 173), (.bin .add (.t 172) (.c (.int .i64 1))), none⟩, ⟨(some 20), (.mov (.t 173)), none⟩]) (.ops [⟨(some 174), (.mov (.t 23)), none⟩, ⟨(some 21), (.mov (.t 174)), none⟩])))))))) (.seq (.ops [⟨(some 175), (.mov (.t 19)), none⟩, ⟨(some 176), (.mov (.t 20)), none⟩, ⟨(some 177), (.bin .sub (.t 175) (.t 176)), none⟩, ⟨(some 24), (.mov (.t 177)), none⟩]) (.seq (.seq (.ops [⟨(some 178), (.mov (.t 20)), none⟩, ⟨(some 179), (.mov (.t 2)), none⟩, ⟨(some 180), (.bin .lss (.t 178) (.t 179)), none⟩, ⟨(some 181), (.mov (.t 180)), none⟩, ⟨(some 182), (.mov (.t 2)), (some (181, true))⟩, ⟨(some 183), (.mov (.t 24)), (some (181, true))⟩, ⟨(some 184), (.bin .lss (.t 182) (.t 183)), (some (181, true))⟩, ⟨(some 185), (.pick (.t 181) (.t 184) (.c (.bool false))), none⟩]) (.cond (.t 185) (.ops [⟨(some 186), (.mov (.t 0)), none⟩, ⟨(some 187), (.mov (.t 20)), none⟩, ⟨(some 188), (.mov (.t 2)), none⟩, ⟨(some 189), (.mov (.t 24)), none⟩, ⟨(some 190), (.mov (.t 4)), none⟩, ⟨(some 191), (.call (.c (.fn 221 [])) [(.t 186), (.t 187), (.t 188), (.t 189), (.t 190)]), none⟩]) .skip)) (.seq (.seq (.ops [⟨(some 192), (.mov (.t 1)), none⟩, ⟨(some 193), (.mov (.t 20)), none⟩, ⟨(some 194), (.bin .lss (.t 192) (.t 193)), none⟩, ⟨(some 195), (.mov (.t 194)), none⟩, ⟨(some 196), (.mov (.t 20)), (some (195, true))⟩, ⟨(some 197), (.mov (.t 18)), (some (195, true))⟩, ⟨(some 198), (.bin .lss (.t 196) (.t 197)), (some (195, true))⟩, ⟨(some 199), (.pick (.t 195) (.t 198) (.c (.bool false))), none⟩]) (.cond (.t 199) (.ops [⟨(some 200), (.mov (.t 0)), none⟩, ⟨(some 201), (.mov (.t 1)), none⟩, ⟨(some 202), (.mov (.t 20)), none⟩, ⟨(some 203), (.mov (.t 18)), none⟩, ⟨(some 204), (.mov (.t 4)), none⟩, ⟨(some 205), (.call (.c (.fn 191 [])) [(.t 200), (.t 201), (.t 202), (.t 203), (.t 204)]), none⟩]) .skip)) (.seq (.ops [⟨(some 206), (.mov (.t 18)), none⟩, ⟨(some 207), (.mov (.t 24)), none⟩, ⟨(some 208), (.bin .lss (.t 206) (.t 207)), none⟩, ⟨(some 209), (.mov (.t 208)), none⟩, ⟨(some 210), (.mov (.t 24)), (some (209, true))⟩, ⟨(some 211), (.mov (.t 3)), (some (209, true))⟩, ⟨(some 212), (.bin .lss (.t 210) (.t 211)), (some (209, true))⟩, ⟨(some 213), (.pick (.t 209) (.t 212) (.c (.bool false))), none⟩]) (.cond (.t 213) (.ops [⟨(some 214), (.mov (.t 0)), none⟩, ⟨(some 215), (.mov (.t 18)), none⟩, ⟨(some 216), (.mov (.t 24)), none⟩, ⟨(some 217), (.mov (.t 3)), none⟩, ⟨(some 218), (.mov (.t 4)), none⟩, ⟨(some 219), (.call (.c (.fn 191 [])) [(.t 214), (.t 215), (.t 216), (.t 217), (.t 218)]), none⟩]) .skip))))))))))))), false⟩
theorem e191 : T 191 = some c191 := by kernel_rfl
/- 192: cmp.isNaN[int] -/
def c192 : Fun1 := ⟨[(.tmp 2)], (.seq (.ops [⟨(some 2), (.mov (.c (.bool false))), none⟩]) (.seq (.ops [⟨(some 3), (.mov (.t 0)), none⟩, ⟨(some 4), (.mov (.t 0)), none⟩, ⟨(some 5), (.bin .neq (.t 3) (.t 4)), none⟩, ⟨(some 2), (.mov (.t 5)), none⟩]) .ret)), false⟩
theorem e192 : T 192 = some c192 := by kernel_rfl
/- 193: (*hopmesh/bitio.Writer).put -/
def c193 : Fun1 := ⟨[], (.seq (.ops [⟨(some 7), (.mov (.t 1)), none⟩, ⟨(some 8), (.bin .sub (.t 7) (.c (.int .i64 1))), none⟩, ⟨(some 6), (.mov (.t 8)), none⟩]) (.block 0 (.loop ⟨[0, 2, 6], []⟩ (.seq (.seq (.ops [⟨(some 9), (.mov (.t 6)), none⟩, ⟨(some 10), (.bin .geq (.t 9) (.c (.int .i64 0))), none⟩]) (.cond (.t 10) .skip (.exit 0))) (.seq (.block 1 (.seq (.seq (.ops [⟨(some 13), (.mov (.t 0)), none⟩, ⟨(some 14), (.nilChk (.t 13)), none⟩, ⟨(some 15), (.faddr 1 (.t 14)), none⟩, ⟨(some 16), (.load false 1 (.t 15)), none⟩, ⟨(some 17), (.bin .rem (.t 16) (.c (.int .i64 8))), none⟩, ⟨(some 18), (.bin .eql (.t 17) (.c (.int .i64 0))), none⟩]) (.cond (.t 18) (.ops [⟨(some 19), (.mov (.t 0)), none⟩, ⟨(some 20), (.mov (.t 0)), none⟩, ⟨(some 21), (.nilChk (.t 20)), none⟩, ⟨(some 22), (.faddr 0 (.t 21)), none⟩, ⟨(some 23), (.load false 1 (.t 22)), none⟩, ⟨(some 24), (.blist 1 [(.int .u8 0)] 1 [(0, (.c (.int .u8 0)))]), none⟩, ⟨(some 25), (.append 1 1 (.t 23) (.t 24)), none⟩, ⟨(some 26), (.nilChk (.t 19)), none⟩, ⟨(some 27), (.faddr 0 (.t 26)), none⟩, ⟨none, (.store 1 (.t 27) (.t 25)), none⟩]) .skip)) (.seq (.drawn [(⟨(some 28), (.mov (.t 0)), none⟩, ⟨.pure, [], 0, 0⟩), (⟨(some 29), (.nilChk (.t 28)), none⟩, ⟨.seg, [], 0, 0⟩), (⟨(some 30), (.faddr 0 (.t 29)), none⟩, ⟨.seg, [], 0, 0⟩), (⟨(some 31), (.load false 1 (.t 30)), none⟩, ⟨.seg, [], 0, 0⟩), (⟨(some 32), (.mov (.t 0)), none⟩, ⟨.pure, [], 0, 0⟩), (⟨(some 33), (.nilChk (.t 32)), none⟩, ⟨.seg, [], 0, 0⟩), (⟨(some 34), (.faddr 1 (.t 33)), none⟩, ⟨.seg, [], 0, 0⟩), (⟨(some 35), (.load false 1 (.t 34)), none⟩, ⟨.seg, [], 0, 0⟩), (⟨(some 36), (.bin .quo (.t 35) (.c (.int .i64 8))), none⟩, ⟨.pure, [], 0, 0⟩), (⟨(some 37), (.iaddrS 1 (.t 31) (.t 36)), none⟩, ⟨.seg, [], 0, 0⟩), (⟨(some 38), (.load false 1 (.t 37)), none⟩, ⟨.seg, [], 0, 0⟩), (⟨(some 39), (.mov (.t 2)), none⟩, ⟨.pure, [], 0, 0⟩), (⟨(some 40), (.mov (.t 6)), none⟩, ⟨.pure, [], 0, 0⟩), (⟨(some 41), (.bin .shr (.t 39) (.t 40)), none⟩, ⟨.pure, [], 0, 0⟩), (⟨(some 42), (.bin .and (.t 41) (.c (.int .u64 1))), none⟩, ⟨.pure, [], 0, 0⟩), (⟨(some 43), (.convI .u8 (.t 42)), none⟩, ⟨.pure, [], 0, 0⟩), (⟨(some 44), (.mov (.t 0)), none⟩, ⟨.pure, [], 0, 0⟩), (⟨(some 45), (.nilChk (.t 44)), none⟩, ⟨.seg, [], 0, 0⟩), (⟨(some 46), (.faddr 1 (.t 45)), none⟩, ⟨.seg, [], 0, 0⟩), (⟨(some 47), (.load false 1 (.t 46)), none⟩, ⟨.seg, [], 0, 0⟩), (⟨(some 48), (.bin .rem (.t 47) (.c (.int .i64 8))), none⟩, ⟨.pure, [], 0, 0⟩), (⟨(some 49), (.bin .sub (.c (.int .i64 7)) (.t 48)), none⟩, ⟨.pure, [], 0, 0⟩), (⟨(some 50), (.bin .shl (.t 43) (.t 49)), none⟩, ⟨.pure, [], 0, 0⟩), (⟨(some 51), (.bin .or (.t 38) (.t 50)), none⟩, ⟨.pure, [], 0, 0⟩), (⟨(some 52), (.iaddrS 1 (.t 31) (.t 36)), none⟩, ⟨.bar, [], 0, 0⟩), (⟨none, (.store 1 (.t 52) (.t 51)), none⟩, ⟨.bar, [], 0, 0⟩)]) (.ops [⟨(some 53), (.mov (.t 0)), none⟩, ⟨(some 54), (.nilChk (.t 53)), none⟩, ⟨(some 55), (.faddr 1 (.t 54)), none⟩, ⟨(some 56), (.load false 1 (.t 55)), none⟩, ⟨(some 57), (.bin .add (.t 56) (.c (.int .i64 1))), none⟩, ⟨(some 58), (.nilChk (.t 53)), none⟩, ⟨(some 59), (.faddr 1 (.t 58)), none⟩, ⟨none, (.store 1 (.t 59) (.t 57)), none⟩])))) (.ops [⟨(some 11), (.mov (.t 6)), none⟩, ⟨(some 12), (.bin .sub (.t 11) (.c (.int .i64 1))), none⟩, ⟨(some 6), (.mov (.t 12)), none⟩])))))), false⟩
theorem e193 : T 193 = some c193 := by kernel_rfl
/- 194: math/bits.Len32 -/
def c194 : Fun1 := ⟨[(.tmp 2)], (.seq (.ops [⟨(some 2), (.mov (.c (.int .i64 0))), none⟩]) (.seq (.seq (.ops [⟨(some 3), (.mov (.t 0)), none⟩, ⟨(some 4), (.bin .geq (.t 3) (.c (.int .u32 65536))), none⟩]) (.cond (.t 4) (.seq (.ops [⟨(some 5), (.mov (.t 0)), none⟩, ⟨(some 6), (.bin .shr (.t 5) (.c (.int .u64 16))), none⟩, ⟨(some 0), (.mov (.t 6)), none⟩]) (.ops [⟨(some 2), (.mov (.c (.int .i64 16))), none⟩])) .skip)) (.seq (.seq (.ops [⟨(some 7), (.mov (.t 0)), none⟩, ⟨(some 8), (.bin .geq (.t 7) (.c (.int .u32 256))), none⟩]) (.cond (.t 8) (.seq (.ops [⟨(some 9), (.mov (.t 0)), none⟩, ⟨(some 10), (.bin .shr (.t 9) (.c (.int .u64 8))), none⟩, ⟨(some 0), (.mov (.t 10)), none⟩]) (.ops [⟨(some 11), (.mov (.t 2)), none⟩, ⟨(some 12), (.bin .add (.t 11) (.c (.int .i64 8))), none⟩, ⟨(some 2), (.mov (.t 12)), none⟩])) .skip)) (.seq (.ops [⟨(some 13), (.mov (.t 2)), none⟩, ⟨(some 14), (.mov (.t 0)), none⟩, ⟨(some 15), (.convI .u8 (.t 14)), none⟩, ⟨(some 16), (.indexS (.c (.str (.mk (.mk [0, 1, 2, 2, 3, 3, 3, 3, 4, 4, 4, 4, 4, 4, 4, 4, 5, 5, 5, 5, 5, 5, 5, 5, 5, 5, 5, 5, 5, 5, 5, 5, 6, 6, 6, 6, 6, 6, 6, 6, 6, 6, 6, 6, 6, 6, 6, 6, 6, 6, 6, 6, 6, 6, 6, 6, 6, 6, 6, 6, 6, 6, 6, 6, 7, 7, 7, 7, 7, 7, 7, 7, 7, 7, 7, 7, 7, 7, 7, 7, 7, 7, 7, 7, 7, 7, 7, 7, 7, 7, 7, 7, 7, 7, 7, 7, 7, 7, 7, 7, 7, 7, 7, 7, 7, 7, 7, 7, 7, 7, 7, 7, 7, 7, 7, 7, 7, 7, 7, 7, 7, 7, 7, 7, 7, 7, 7, 7, 8, 8, 8, 8, 8, 8, 8, 8, 8, 8, 8, 8, 8, 8, 8, 8, 8, 8, 8, 8, 8, 8, 8, 8, 8, 8, 8, 8, 8, 8, 8, 8, 8, 8, 8, 8, 8, 8, 8, 8, 8, 8, 8, 8, 8, 8, 8, 8, 8, 8, 8, 8, 8, 8, 8, 8, 8, 8, 8, 8, 8, 8, 8, 8, 8, 8, 8, 8, 8, 8, 8, 8, 8, 8, 8, 8, 8, 8, 8, 8, 8, 8, 8, 8, 8, 8, 8, 8, 8, 8, 8, 8, 8, 8, 8, 8, 8, 8, 8, 8, 8, 8, 8, 8, 8, 8, 8, 8, 8, 8, 8, 8, 8, 8, 8, 8, 8, 8, 8, 8, 8, 8, 8, 8, 8, 8, 8, 8])))) (.t 15)), none⟩, ⟨(some 17), (.convI .i64 (.t 16)), none⟩, ⟨(some 18), (.bin .add (.t 13) (.t 17)), none⟩, ⟨(some 2), (.mov (.t 18)), none⟩]) .ret)))), false⟩
theorem e194 : T 194 = some c194 := by kernel_rfl
/- 195: math/bits.Len64 -/
def c195 : Fun1 := ⟨[(.tmp 2)], (.seq (.ops [⟨(some 2), (.mov (.c (.int .i64 0))), none⟩]) (.seq (.seq (.ops [⟨(some 3), (.mov (.t 0)), none⟩, ⟨(some 4), (.bin .geq (.t 3) (.c (.int .u64 4294967296))), none⟩]) (.cond (.t 4) (.seq (.ops [⟨(some 5), (.mov (.t 0)), none⟩, ⟨(some 6), (.bin .shr (.t 5) (.c (.int .u64 32))), none⟩, ⟨(some 0), (.mov (.t 6)), none⟩]) (.ops [⟨(some 2), (.mov (.c (.int .i64 32))), none⟩])) .skip)) (.seq (.seq (.ops [⟨(some 7), (.mov (.t 0)), none⟩, ⟨(some 8), (.bin .geq (.t 7) (.c (.int .u64 65536))), none⟩]) (.cond (.t 8) (.seq (.ops [⟨(some 9), (.mov (.t 0)), none⟩, ⟨(some 10), (.bin .shr (.t 9) (.c (.int .u64 16))), none⟩, ⟨(some 0), (.mov (.t 10)), none⟩]) (.ops [⟨(some 11), (.mov (.t 2)), none⟩, ⟨(some 12), (.bin .add (.t 11) (.c (.int .i64 16))), none⟩, ⟨(some 2), (.mov (.t 12)), none⟩])) .skip)) (.seq (.seq (.ops [⟨(some 13), (.mov (.t 0)), none⟩, ⟨(some 14), (.bin .geq (.t 13) (.c (.int .u64 256))), none⟩]) (.cond (.t 14) (.seq (.ops [⟨(some 15), (.mov (.t 0)), none⟩, ⟨(some 16), (.bin .shr (.t 15) (.c (.int .u64 8))), none⟩, ⟨(some 0), (.mov (.t 16)), none⟩]) (.ops [⟨(some 17), (.mov (.t 2)), none⟩, ⟨(some 18), (.bin .add (.t 17) (.c (.int .i64 8))), none⟩, ⟨(some 2), (.mov (.t 18)), none⟩])) .skip)) (.seq (.ops [⟨(some 19), (.mov (.t 2)), none⟩, ⟨(some 20), (.mov (.t 0)), none⟩, ⟨(some 21), (.convI .u8 (.t 20)), none⟩, ⟨(some 22), (.indexS (.c (.str (.mk (.mk [0, 1, 2, 2, 3, 3, 3, 3, 4, 4, 4, 4, 4, 4, 4, 4, 5, 5, 5, 5, 5, 5, 5, 5, 5, 5, 5, 5, 5, 5, 5, 5, 6, 6, 6, 6, 6, 6, 6, 6, 6, 6, 6, 6, 6, 6, 6, 6, 6, 6, 6, 6, 6, 6, 6, 6, 6, 6, 6, 6, 6, 6, 6, 6, 7, 7, 7, 7, 7, 7, 7, 7, 7, 7, 7, 7, 7, 7, 7, 7, 7, 7, 7, 7, 7, 7, 7, 7, 7, 7, 7, 7, 7, 7, 7, 7, 7, 7, 7, 7, 7, 7, 7, 7, 7, 7, 7, 7, 7, 7, 7, 7, 7, 7, 7, 7, 7, 7, 7, 7, 7, 7, 7, 7, 7, 7, 7, 7, 8, 8, 8, 8, 8, 8, 8, 8, 8, 8, 8, 8, 8, 8, 8, 8, 8, 8, 8, 8, 8, 8, 8, 8, 8, 8, 8, 8, 8, 8, 8, 8, 8, 8, 8, 8, 8, 8, 8, 8, 8, 8, 8, 8, 8, 8, 8, 8, 8, 8, 8, 8, 8, 8, 8, 8, 8, 8, 8, 8, 8, 8, 8, 8, 8, 8, 8, 8, 8, 8, 8, 8, 8, 8, 8, 8, 8, 8, 8, 8, 8, 8, 8, 8, 8, 8, 8, 8, 8, 8, 8, 8, 8, 8, 8, 8, 8, 8, 8, 8, 8, 8, 8, 8, 8, 8, 8, 8, 8, 8, 8, 8, 8, 8, 8, 8, 8, 8, 8, 8, 8, 8, 8, 8, 8, 8, 8, 8])))) (.t 21)), none⟩, ⟨(some 23), (.convI .i64 (.t 22)), none⟩, ⟨(some 24), (.bin .add (.t 19) (.t 23)), none⟩, ⟨(some 2), (.mov (.t 24)), none⟩]) .ret))))), false⟩
theorem e195 : T 195 = some c195 := by kernel_rfl
/- 197: hopmesh/crc.Update -/
def c197 : Fun1 := ⟨[(.tmp 4)], (.seq (.ops [⟨(some 4), (.mov (.c (.int .u16 0))), none⟩]) (.seq (.ops [⟨(some 7), (.call (.c (.fn 222 [])) []), none⟩, ⟨(some 5), (.alloc [(.int .u16 0), (.int .u16 0), (.int .u16 0), (.int .u16 0), (.int .u16 0), (.int .u16 0), (.int .u16 0), (.int .u16 0), (.int .u16 0), (.int .u16 0), (.int .u16 0), (.int .u16 0), (.int .u16 0), (.int .u16 0), (.int .u16 0), (.int .u16 0)]), none⟩, ⟨none, (.store 16 (.t 5) (.t 7)), none⟩]) (.seq (.seq (.ops [⟨(some 8), (.mov (.t 1)), none⟩, ⟨(some 9), (.lenS (.t 8)), none⟩, ⟨(some 10), (.mov (.c (.int .i64 0))), none⟩]) (.block 0 (.loop ⟨[0, 1, 5, 9, 10], []⟩ (.seq (.ops [⟨(some 11), (.bin .lss (.t 10) (.t 9)), none⟩]) (.seq (.cond (.t 11) .skip (.exit 0)) (.seq (.block 1 (.seq (.ops [⟨(some 12), (.mov (.t 10)), none⟩, ⟨(some 6), (.mov (.t 12)), none⟩]) (.seq (.ops [⟨(some 13), (.mov (.t 0)), none⟩, ⟨(some 14), (.bin .shl (.t 13) (.c (.int .u64 4))), none⟩, ⟨(some 15), (.mov (.t 0)), none⟩, ⟨(some 16), (.bin .shr (.t 15) (.c (.int .u64 12))), none⟩, ⟨(some 17), (.mov (.t 1)), none⟩, ⟨(some 18), (.mov (.t 6)), none⟩, ⟨(some 19), (.indexS (.t 17) (.t 18)), none⟩, ⟨(some 20), (.bin .shr (.t 19) (.c (.int .u64 4))), none⟩, ⟨(some 21), (.convI .u16 (.t 20)), none⟩, ⟨(some 22), (.bin .xor (.t 16) (.t 21)), none⟩, ⟨(some 23), (.iaddrA 16 1 (.t 5) (.t 22)), none⟩, ⟨(some 24), (.load false 1 (.t 23)), none⟩, ⟨(some 25), (.bin .xor (.t 14) (.t 24)), none⟩, ⟨(some 0), (.mov (.t 25)), none⟩]) (.ops [⟨(some 26), (.mov (.t 0)), none⟩, ⟨(some 27), (.bin .shl (.t 26) (.c (.int .u64 4))), none⟩, ⟨(some 28), (.mov (.t 0)), none⟩, ⟨(some 29), (.bin .shr (.t 28) (.c (.int .u64 12))), none⟩, ⟨(some 30), (.mov (.t 1)), none⟩, ⟨(some 31), (.mov (.t 6)), none⟩, ⟨(some 32), (.indexS (.t 30) (.t 31)), none⟩, ⟨(some 33), (.bin .and (.t 32) (.c (.int .u8 15))), none⟩, ⟨(some 34), (.convI .u16 (.t 33)), none⟩, ⟨(some 35), (.bin .xor (.t 29) (.t 34)), none⟩, ⟨(some 36), (.iaddrA 16 1 (.t 5) (.t 35)), none⟩, ⟨(some 37), (.load false 1 (.t 36)), none⟩, ⟨(some 38), (.bin .xor (.t 27) (.t 37)), none⟩, ⟨(some 0), (.mov (.t 38)), none⟩])))) (.ops [⟨(some 39), (.bin .add (.t 10) (.c (.int .i64 1))), none⟩, ⟨(some 10), (.mov (.t 39)), none⟩]))))))) (.seq (.ops [⟨(some 40), (.mov (.t 0)), none⟩, ⟨(some 4), (.mov (.t 40)), none⟩]) .ret)))), false⟩
theorem e197 : T 197 = some c197 := by kernel_rfl
/- 198: (*hopmesh/bitio.Writer).Text -/
def c198 : Fun1 := ⟨[], (.block 0 (.seq (.ops [⟨(some 27), (.mov (.t 0)), none⟩, ⟨(some 28), (.nilChk (.t 27)), none⟩, ⟨(some 29), (.faddr 2 (.t 28)), none⟩, ⟨(some 30), (.load false 1 (.t 29)), none⟩, ⟨(some 31), (.bin .neq (.t 30) (.c (.int .i64 0))), none⟩, ⟨(some 26), (.mov (.t 31)), none⟩]) (.cond (.t 26) .skip (.seq (.ops [⟨(some 33), (.mov (.t 1)), none⟩, ⟨(some 34), (.call (.c (.fn 223 [])) [(.t 33)]), none⟩, ⟨(some 35), (.notB (.t 34)), none⟩, ⟨(some 32), (.mov (.t 35)), none⟩]) (.cond (.t 32) (.ops [⟨(some 36), (.mov (.t 0)), none⟩, ⟨(some 37), (.nilChk (.t 36)), none⟩, ⟨(some 38), (.faddr 2 (.t 37)), none⟩, ⟨none, (.store 1 (.t 38) (.c (.int .i64 1))), none⟩]) (.seq (.drawn [(⟨(some 40), (.mov (.t 2)), none⟩, ⟨.pure, [], 0, 0⟩), (⟨(some 41), (.lenS (.t 40)), none⟩, ⟨.pure, [], 0, 0⟩), (⟨(some 42), (.mov (.t 1)), none⟩, ⟨.pure, [], 0, 0⟩), (⟨(some 43), (.bin .gtr (.t 41) (.t 42)), none⟩, ⟨.pure, [], 0, 0⟩), (⟨(some 44), (.mov (.t 43)), none⟩, ⟨.pure, [], 0, 0⟩), (⟨(some 45), (.mov (.t 0)), (some (44, false))⟩, ⟨.pure, [], 0, 0⟩), (⟨(some 46), (.nilChk (.t 45)), (some (44, false))⟩, ⟨.seg, [], 0, 0⟩), (⟨(some 47), (.faddr 1 (.t 46)), (some (44, false))⟩, ⟨.seg, [], 0, 0⟩), (⟨(some 48), (.load false 1 (.t 47)), (some (44, false))⟩, ⟨.seg, [], 0, 0⟩), (⟨(some 49), (.mov (.t 1)), (some (44, false))⟩, ⟨.pure, [], 0, 0⟩), (⟨(some 50), (.call (.c (.fn 224 [])) [(.t 49)]), (some (44, false))⟩, ⟨.seg, [], 0, 0⟩), (⟨(some 51), (.bin .add (.t 48) (.t 50)), (some (44, false))⟩, ⟨.pure, [], 0, 0⟩), (⟨(some 52), (.mov (.t 2)), (some (44, false))⟩, ⟨.pure, [], 0, 0⟩), (⟨(some 53), (.lenS (.t 52)), (some (44, false))⟩, ⟨.pure, [], 0, 0⟩), (⟨(some 54), (.bin .mul (.c (.int .i64 8)) (.t 53)), (some (44, false))⟩, ⟨.pure, [], 0, 0⟩), (⟨(some 55), (.bin .add (.t 51) (.t 54)), (some (44, false))⟩, ⟨.pure, [], 0, 0⟩), (⟨(some 56), (.bin .gtr (.t 55) (.c (.int .i64 524288))), (some (44, false))⟩, ⟨.pure, [], 0, 0⟩), (⟨(some 57), (.pick (.t 44) (.c (.bool true)) (.t 56)), none⟩, ⟨.pure, [], 0, 0⟩), (⟨(some 39), (.mov (.t 57)), none⟩, ⟨.pure, [], 0, 0⟩)]) (.cond (.t 39) (.ops [⟨(some 58), (.mov (.t 0)), none⟩, ⟨(some 59), (.nilChk (.t 58)), none⟩, ⟨(some 60), (.faddr 2 (.t 59)), none⟩, ⟨none, (.store 1 (.t 60) (.c (.int .i64 8))), none⟩]) (.seq (.ops [⟨(some 7), (.mov (.t 0)), none⟩, ⟨(some 8), (.mov (.t 1)), none⟩, ⟨(some 9), (.call (.c (.fn 224 [])) [(.t 8)]), none⟩, ⟨(some 10), (.mov (.t 2)), none⟩, ⟨(some 11), (.lenS (.t 10)), none⟩, ⟨(some 12), (.convI .u64 (.t 11)), none⟩, ⟨(some 13), (.call (.c (.fn 193 [])) [(.t 7), (.t 9), (.t 12)]), none⟩]) (.seq (.ops [⟨(some 14), (.mov (.t 2)), none⟩, ⟨(some 15), (.lenS (.t 14)), none⟩, ⟨(some 16), (.mov (.c (.int .i64 0))), none⟩]) (.block 1 (.loop ⟨[0, 2, 15, 16], []⟩ (.seq (.ops [⟨(some 17), (.bin .lss (.t 16) (.t 15)), none⟩]) (.seq (.cond (.t 17) .skip (.exit 1)) (.seq (.block 2 (.seq (.ops [⟨(some 18), (.mov (.t 16)), none⟩, ⟨(some 6), (.mov (.t 18)), none⟩]) (.ops [⟨(some 19), (.mov (.t 0)), none⟩, ⟨(some 20), (.mov (.t 2)), none⟩, ⟨(some 21), (.mov (.t 6)), none⟩, ⟨(some 22), (.indexS (.t 20) (.t 21)), none⟩, ⟨(some 23), (.convI .u64 (.t 22)), none⟩, ⟨(some 24), (.call (.c (.fn 193 [])) [(.t 19), (.c (.int .i64 8)), (.t 23)]), none⟩]))) (.ops [⟨(some 25), (.bin .add (.t 16) (.c (.int .i64 1))), none⟩, ⟨(some 16), (.mov (.t 25)), none⟩]))))))))))))))), false⟩
theorem e198 : T 198 = some c198 := by kernel_rfl
/- 199: (*hopmesh/bitio.Reader).Text -/
def c199 : Fun1 := ⟨[(.tmp 4)], (.seq (.ops [⟨(some 4), (.mov (.c (.str (.mk (.mk []))))), none⟩]) (.seq (.ops [⟨(some 9), (.mov (.t 0)), none⟩, ⟨(some 10), (.mov (.t 1)), none⟩, ⟨(some 11), (.call (.c (.fn 223 [])) [(.t 10)]), none⟩, ⟨(some 12), (.mov (.t 1)), none⟩, ⟨(some 13), (.call (.c (.fn 224 [])) [(.t 12)]), none⟩, ⟨(some 14), (.call (.c (.fn 141 [])) [(.t 9), (.t 11), (.t 13)]), none⟩, ⟨(some 15), (.convI .i64 (.t 14)), none⟩, ⟨(some 5), (.mov (.t 15)), none⟩]) (.seq (.block 0 (.seq (.ops [⟨(some 17), (.mov (.t 0)), none⟩, ⟨(some 18), (.nilChk (.t 17)), none⟩, ⟨(some 19), (.faddr 2 (.t 18)), none⟩, ⟨(some 20), (.load false 1 (.t 19)), none⟩, ⟨(some 21), (.bin .neq (.t 20) (.c (.int .i64 0))), none⟩, ⟨(some 16), (.mov (.t 21)), none⟩]) (.cond (.t 16) (.seq (.ops [⟨(some 4), (.mov (.c (.str (.mk (.mk []))))), none⟩]) .ret) (.seq (.ops [⟨(some 23), (.mov (.t 5)), none⟩, ⟨(some 24), (.mov (.t 1)), none⟩, ⟨(some 25), (.bin .gtr (.t 23) (.t 24)), none⟩, ⟨(some 22), (.mov (.t 25)), none⟩]) (.cond (.t 22) (.seq (.ops [⟨(some 26), (.mov (.t 0)), none⟩, ⟨(some 27), (.call (.c (.fn 175 [])) [(.t 26), (.c (.int .i64 2))]), none⟩]) (.seq (.ops [⟨(some 4), (.mov (.c (.str (.mk (.mk []))))), none⟩]) .ret)) (.seq (.ops [⟨(some 29), (.mov (.t 5)), none⟩, ⟨(some 30), (.bin .mul (.c (.int .i64 8)) (.t 29)), none⟩, ⟨(some 31), (.mov (.t 0)), none⟩, ⟨(some 32), (.call (.c (.fn 138 [])) [(.t 31)]), none⟩, ⟨(some 33), (.bin .gtr (.t 30) (.t 32)), none⟩, ⟨(some 28), (.mov (.t 33)), none⟩]) (.cond (.t 28) (.seq (.ops [⟨(some 34), (.mov (.t 0)), none⟩, ⟨(some 35), (.call (.c (.fn 175 [])) [(.t 34), (.c (.int .i64 9))]), none⟩]) (.seq (.ops [⟨(some 4), (.mov (.c (.str (.mk (.mk []))))), none⟩]) .ret)) .skip))))))) (.seq (.ops [⟨(some 36), (.mov (.t 0)), none⟩, ⟨(some 37), (.mkbfn 137 [(.t 36)]), none⟩, ⟨(some 6), (.mov (.t 37)), none⟩]) (.seq (.ops [⟨(some 38), (.mov (.t 5)), none⟩, ⟨(some 39), (.mkslice 1 [(.int .u8 0)] 1 (.t 38) (.t 38)), none⟩, ⟨(some 7), (.mov (.t 39)), none⟩]) (.seq (.seq (.ops [⟨(some 40), (.mov (.t 7)), none⟩, ⟨(some 41), (.len (.t 40)), none⟩, ⟨(some 42), (.mov (.c (.int .i64 0))), none⟩]) (.block 1 (.loop ⟨[6, 7, 41, 42], []⟩ (.seq (.ops [⟨(some 43), (.bin .lss (.t 42) (.t 41)), none⟩]) (.seq (.cond (.t 43) .skip (.exit 1)) (.seq (.block 2 (.seq (.ops [⟨(some 44), (.mov (.t 42)), none⟩, ⟨(some 8), (.mov (.t 44)), none⟩]) (.ops [⟨(some 45), (.mov (.t 7)), none⟩, ⟨(some 46), (.mov (.t 8)), none⟩, ⟨(some 47), (.mov (.t 6)), none⟩, ⟨(some 48), (.call (.t 47) [(.c (.int .i64 8))]), none⟩, ⟨(some 49), (.convI .u8 (.t 48)), none⟩, ⟨(some 50), (.iaddrS 1 (.t 45) (.t 46)), none⟩, ⟨none, (.store 1 (.t 50) (.t 49)), none⟩]))) (.ops [⟨(some 51), (.bin .add (.t 42) (.c (.int .i64 1))), none⟩, ⟨(some 42), (.mov (.t 51)), none⟩]))))))) (.seq (.ops [⟨(some 52), (.mov (.t 7)), none⟩, ⟨(some 53), (.convBS (.t 52)), none⟩, ⟨(some 4), (.mov (.t 53)), none⟩]) .ret))))))), false⟩
theorem e199 : T 199 = some c199 := by kernel_rfl
/- 202: hopmesh/geometry.Check$1 -/
def c202 : Fun1 := ⟨[(.tmp 2)], (.seq (.ops [⟨(some 1), (.box (.t 0)), none⟩, ⟨(some 2), (.mov (.c (.bool false))), none⟩]) (.seq (.ops [⟨(some 3), (.load true 2 (.t 1)), none⟩, ⟨(some 4), (.call (.c (.fn 203 [])) [(.t 3)]), none⟩, ⟨(some 5), (.notB (.t 4)), none⟩, ⟨(some 2), (.mov (.t 5)), none⟩]) .ret)), false⟩
theorem e202 : T 202 = some c202 := by kernel_rfl
/- 203: hopmesh/geometry.point -/
def c203 : Fun1 := ⟨[(.tmp 2)], (.seq (.ops [⟨(some 1), (.box (.t 0)), none⟩, ⟨(some 2), (.mov (.c (.bool false))), none⟩]) (.seq (.ops [⟨(some 3), (.faddr 0 (.t 1)), none⟩, ⟨(some 4), (.load false 1 (.t 3)), none⟩, ⟨(some 5), (.faddr 1 (.t 1)), none⟩, ⟨(some 6), (.load false 1 (.t 5)), none⟩, ⟨(some 7), (.minI [(.t 4), (.t 6)]), none⟩, ⟨(some 8), (.bin .geq (.t 7) (.c (.int .i64 0))), none⟩, ⟨(some 9), (.mov (.t 8)), none⟩, ⟨(some 10), (.faddr 0 (.t 1)), (some (9, true))⟩, ⟨(some 11), (.load false 1 (.t 10)), (some (9, true))⟩, ⟨(some 12), (.faddr 1 (.t 1)), (some (9, true))⟩, ⟨(some 13), (.load false 1 (.t 12)), (some (9, true))⟩, ⟨(some 14), (.maxI [(.t 11), (.t 13)]), (some (9, true))⟩, ⟨(some 15), (.bin .leq (.t 14) (.c (.int .i64 10000))), (some (9, true))⟩, ⟨(some 16), (.pick (.t 9) (.t 15) (.c (.bool false))), none⟩, ⟨(some 2), (.mov (.t 16)), none⟩]) .ret)), false⟩
theorem e203 : T 203 = some c203 := by kernel_rfl
/- 204: slices.ContainsFunc[[]hopmesh/api.Point,hopmesh/api.Point] -/
def c204 : Fun1 := ⟨[(.tmp 4)], (.seq (.ops [⟨(some 4), (.mov (.c (.bool false))), none⟩]) (.seq (.ops [⟨(some 5), (.mov (.t 0)), none⟩, ⟨(some 6), (.mov (.t 1)), none⟩, ⟨(some 7), (.call (.c (.fn 225 [])) [(.t 5), (.t 6)]), none⟩, ⟨(some 8), (.bin .geq (.t 7) (.c (.int .i64 0))), none⟩, ⟨(some 4), (.mov (.t 8)), none⟩]) .ret)), false⟩
theorem e204 : T 204 = some c204 := by kernel_rfl
/- 205: hopmesh/geometry.Check$2 -/
def c205 : Fun1 := ⟨[(.tmp 2)], (.seq (.ops [⟨(some 2), (.mov (.c (.bool false))), none⟩]) (.seq (.ops [⟨(some 3), (.mov (.t 0)), none⟩, ⟨(some 4), (.call (.c (.fn 206 [])) [(.t 3)]), none⟩, ⟨(some 5), (.notB (.t 4)), none⟩, ⟨(some 2), (.mov (.t 5)), none⟩]) .ret)), false⟩
theorem e205 : T 205 = some c205 := by kernel_rfl
/- 206: hopmesh/geometry.isPower -/
def c206 : Fun1 := ⟨[(.tmp 2)], (.seq (.ops [⟨(some 2), (.mov (.c (.bool false))), none⟩]) (.seq (.ops [⟨(some 3), (.mov (.t 0)), none⟩, ⟨(some 4), (.bin .geq (.t 3) (.c (.int .i64 0))), none⟩, ⟨(some 5), (.mov (.t 4)), none⟩, ⟨(some 6), (.mov (.t 0)), (some (5, true))⟩, ⟨(some 7), (.bin .leq (.t 6) (.c (.int .i64 68719476736))), (some (5, true))⟩, ⟨(some 8), (.pick (.t 5) (.t 7) (.c (.bool false))), none⟩, ⟨(some 2), (.mov (.t 8)), none⟩]) .ret)), false⟩
theorem e206 : T 206 = some c206 := by kernel_rfl
/- 207: slices.ContainsFunc[[]hopmesh/api.Wall,hopmesh/api.Wall] -/
def c207 : Fun1 := ⟨[(.tmp 4)], (.seq (.ops [⟨(some 4), (.mov (.c (.bool false))), none⟩]) (.seq (.ops [⟨(some 5), (.mov (.t 0)), none⟩, ⟨(some 6), (.mov (.t 1)), none⟩, ⟨(some 7), (.call (.c (.fn 226 [])) [(.t 5), (.t 6)]), none⟩, ⟨(some 8), (.bin .geq (.t 7) (.c (.int .i64 0))), none⟩, ⟨(some 4), (.mov (.t 8)), none⟩]) .ret)), false⟩
theorem e207 : T 207 = some c207 := by kernel_rfl
/- 208: hopmesh/geometry.Check$3 -/
def c208 : Fun1 := ⟨[(.tmp 3)], (.seq (.ops [⟨(some 2), (.box (.t 0)), none⟩, ⟨(some 3), (.mov (.c (.bool false))), none⟩]) (.seq (.ops [⟨(some 4), (.load false 1 (.t 1)), none⟩, ⟨(some 5), (.faddr 0 (.t 2)), none⟩, ⟨(some 6), (.load true 2 (.t 5)), none⟩, ⟨(some 7), (.call (.t 4) [(.t 6)]), none⟩, ⟨(some 8), (.mov (.t 7)), none⟩, ⟨(some 9), (.load false 1 (.t 1)), (some (8, false))⟩, ⟨(some 10), (.faddr 2 (.t 2)), (some (8, false))⟩, ⟨(some 11), (.load true 2 (.t 10)), (some (8, false))⟩, ⟨(some 12), (.call (.t 9) [(.t 11)]), (some (8, false))⟩, ⟨(some 13), (.pick (.t 8) (.c (.bool true)) (.t 12)), none⟩, ⟨(some 14), (.mov (.t 13)), none⟩, ⟨(some 15), (.faddr 4 (.t 2)), (some (14, false))⟩, ⟨(some 16), (.load false 1 (.t 15)), (some (14, false))⟩, ⟨(some 17), (.bin .lss (.t 16) (.c (.int .i64 0))), (some (14, false))⟩, ⟨(some 18), (.pick (.t 14) (.c (.bool true)) (.t 17)), none⟩, ⟨(some 19), (.mov (.t 18)), none⟩, ⟨(some 20), (.faddr 4 (.t 2)), (some (19, false))⟩, ⟨(some 21), (.load false 1 (.t 20)), (some (19, false))⟩, ⟨(some 22), (.bin .gtr (.t 21) (.c (.int .i64 1000))), (some (19, false))⟩, ⟨(some 23), (.pick (.t 19) (.c (.bool true)) (.t 22)), none⟩, ⟨(some 3), (.mov (.t 23)), none⟩]) .ret)), false⟩
theorem e208 : T 208 = some c208 := by kernel_rfl
/- 209: slices.ContainsFunc[[]hopmesh/api.Source,hopmesh/api.Source] -/
def c209 : Fun1 := ⟨[(.tmp 4)], (.seq (.ops [⟨(some 4), (.mov (.c (.bool false))), none⟩]) (.seq (.ops [⟨(some 5), (.mov (.t 0)), none⟩, ⟨(some 6), (.mov (.t 1)), none⟩, ⟨(some 7), (.call (.c (.fn 227 [])) [(.t 5), (.t 6)]), none⟩, ⟨(some 8), (.bin .geq (.t 7) (.c (.int .i64 0))), none⟩, ⟨(some 4), (.mov (.t 8)), none⟩]) .ret)), false⟩
theorem e209 : T 209 = some c209 := by kernel_rfl
/- 210: hopmesh/spectrum.Check$1 -/
def c210 : Fun1 := ⟨[(.tmp 2)], (.seq (.ops [⟨(some 1), (.box (.t 0)), none⟩, ⟨(some 2), (.mov (.c (.bool false))), none⟩]) (.seq (.ops [⟨(some 3), (.load true 7 (.t 1)), none⟩, ⟨(some 4), (.call (.c (.fn 211 [])) [(.t 3)]), none⟩, ⟨(some 5), (.notB (.t 4)), none⟩, ⟨(some 2), (.mov (.t 5)), none⟩]) .ret)), false⟩
theorem e210 : T 210 = some c210 := by kernel_rfl
/- 211: hopmesh/spectrum.source -/
def c211 : Fun1 := ⟨[(.tmp 2)], (.seq (.ops [⟨(some 1), (.box (.t 0)), none⟩, ⟨(some 2), (.mov (.c (.bool false))), none⟩]) (.seq (.seq (.ops [⟨(some 5), (.faddr 0 (.t 1)), none⟩, ⟨(some 6), (.faddr 0 (.t 5)), none⟩, ⟨(some 7), (.load false 1 (.t 6)), none⟩, ⟨(some 8), (.faddr 0 (.t 1)), none⟩, ⟨(some 9), (.faddr 1 (.t 8)), none⟩, ⟨(some 10), (.load false 1 (.t 9)), none⟩, ⟨(some 11), (.minI [(.t 7), (.t 10)]), none⟩, ⟨(some 12), (.bin .lss (.t 11) (.c (.int .i64 0))), none⟩, ⟨(some 13), (.mov (.t 12)), none⟩, ⟨(some 14), (.faddr 0 (.t 1)), (some (13, false))⟩, ⟨(some 15), (.faddr 0 (.t 14)), (some (13, false))⟩, ⟨(some 16), (.load false 1 (.t 15)), (some (13, false))⟩, ⟨(some 17), (.faddr 0 (.t 1)), (some (13, false))⟩, ⟨(some 18), (.faddr 1 (.t 17)), (some (13, false))⟩, ⟨(some 19), (.load false 1 (.t 18)), (some (13, false))⟩, ⟨(some 20), (.maxI [(.t 16), (.t 19)]), (some (13, false))⟩, ⟨(some 21), (.bin .gtr (.t 20) (.c (.int .i64 10000))), (some (13, false))⟩, ⟨(some 22), (.pick (.t 13) (.c (.bool true)) (.t 21)), none⟩, ⟨(some 23), (.mov (.t 22)), none⟩, ⟨(some 24), (.faddr 2 (.t 1)), (some (23, false))⟩, ⟨(some 25), (.load false 1 (.t 24)), (some (23, false))⟩, ⟨(some 26), (.bin .lss (.t 25) (.c (.int .i64 0))), (some (23, false))⟩, ⟨(some 27), (.pick (.t 23) (.c (.bool true)) (.t 26)), none⟩, ⟨(some 28), (.mov (.t 27)), none⟩, ⟨(some 29), (.faddr 2 (.t 1)), (some (28, false))⟩, ⟨(some 30), (.load false 1 (.t 29)), (some (28, false))⟩, ⟨(some 31), (.bin .gtr (.t 30) (.c (.int .i64 68719476736))), (some (28, false))⟩, ⟨(some 32), (.pick (.t 28) (.c (.bool true)) (.t 31)), none⟩]) (.cond (.t 32) (.seq (.ops [⟨(some 2), (.mov (.c (.bool false))), none⟩]) .ret) .skip)) (.seq (.seq (.ops [⟨(some 33), (.faddr 3 (.t 1)), none⟩, ⟨(some 34), (.load false 1 (.t 33)), none⟩, ⟨(some 35), (.len (.t 34)), none⟩, ⟨(some 36), (.mov (.c (.int .i64 0))), none⟩]) (.block 0 (.loop ⟨[1, 34, 35, 36], []⟩ (.seq (.ops [⟨(some 37), (.bin .lss (.t 36) (.t 35)), none⟩]) (.seq (.cond (.t 37) .skip (.exit 0)) (.seq (.block 1 (.seq (.ops [⟨(some 38), (.mov (.t 36)), none⟩, ⟨(some 39), (.iaddrS 1 (.t 34) (.t 36)), none⟩, ⟨(some 40), (.load false 1 (.t 39)), none⟩, ⟨(some 3), (.mov (.t 38)), none⟩, ⟨(some 4), (.mov (.t 40)), none⟩]) (.seq (.ops [⟨(some 41), (.mov (.t 4)), none⟩, ⟨(some 42), (.call (.c (.fn 216 [])) [(.t 41)]), none⟩, ⟨(some 43), (.notB (.t 42)), none⟩, ⟨(some 44), (.mov (.t 43)), none⟩, ⟨(some 45), (.mov (.t 3)), (some (44, false))⟩, ⟨(some 46), (.bin .gtr (.t 45) (.c (.int .i64 0))), (some (44, false))⟩, ⟨(some 47), (.mov (.t 46)), (some (44, false))⟩, ⟨(some 48), (.mov (.t 4)), (some (47, true))⟩, ⟨(some 49), (.faddr 3 (.t 1)), (some (47, true))⟩, ⟨(some 50), (.load false 1 (.t 49)), (some (47, true))⟩, ⟨(some 51), (.mov (.t 3)), (some (47, true))⟩, ⟨(some 52), (.bin .sub (.t 51) (.c (.int .i64 1))), (some (47, true))⟩, ⟨(some 53), (.iaddrS 1 (.t 50) (.t 52)), (some (47, true))⟩, ⟨(some 54), (.load false 1 (.t 53)), (some (47, true))⟩, ⟨(some 55), (.bin .leq (.t 48) (.t 54)), (some (47, true))⟩, ⟨(some 56), (.pick (.t 47) (.t 55) (.c (.bool false))), (some (44, false))⟩, ⟨(some 57), (.pick (.t 44) (.c (.bool true)) (.t 56)), none⟩]) (.cond (.t 57) (.seq (.ops [⟨(some 2), (.mov (.c (.bool false))), none⟩]) .ret) .skip)))) (.ops [⟨(some 58), (.bin .add (.t 36) (.c (.int .i64 1))), none⟩, ⟨(some 36), (.mov (.t 58)), none⟩]))))))) (.seq (.ops [⟨(some 59), (.faddr 5 (.t 1)), none⟩, ⟨(some 60), (.load false 1 (.t 59)), none⟩, ⟨(some 61), (.bin .geq (.t 60) (.c (.int .i64 0))), none⟩, ⟨(some 62), (.mov (.t 61)), none⟩, ⟨(some 63), (.faddr 5 (.t 1)), (some (62, true))⟩, ⟨(some 64), (.load false 1 (.t 63)), (some (62, true))⟩, ⟨(some 65), (.faddr 6 (.t 1)), (some (62, true))⟩, ⟨(some 66), (.load false 1 (.t 65)), (some (62, true))⟩, ⟨(some 67), (.bin .leq (.t 64) (.t 66)), (some (62, true))⟩, ⟨(some 68), (.pick (.t 62) (.t 67) (.c (.bool false))), none⟩, ⟨(some 69), (.mov (.t 68)), none⟩, ⟨(some 70), (.faddr 6 (.t 1)), (some (69, true))⟩, ⟨(some 71), (.load false 1 (.t 70)), (some (69, true))⟩, ⟨(some 72), (.faddr 4 (.t 1)), (some (69, true))⟩, ⟨(some 73), (.load false 1 (.t 72)), (some (69, true))⟩, ⟨(some 74), (.bin .leq (.t 71) (.t 73)), (some (69, true))⟩, ⟨(some 75), (.pick (.t 69) (.t 74) (.c (.bool false))), none⟩, ⟨(some 76), (.mov (.t 75)), none⟩, ⟨(some 77), (.faddr 4 (.t 1)), (some (76, true))⟩, ⟨(some 78), (.load false 1 (.t 77)), (some (76, true))⟩, ⟨(some 79), (.bin .geq (.t 78) (.c (.int .i64 1))), (some (76, true))⟩, ⟨(some 80), (.pick (.t 76) (.t 79) (.c (.bool false))), none⟩, ⟨(some 81), (.mov (.t 80)), none⟩, ⟨(some 82), (.faddr 4 (.t 1)), (some (81, true))⟩, ⟨(some 83), (.load false 1 (.t 82)), (some (81, true))⟩, ⟨(some 84), (.bin .leq (.t 83) (.c (.int .i64 1000000000))), (some (81, true))⟩, ⟨(some 85), (.pick (.t 81) (.t 84) (.c (.bool false))), none⟩, ⟨(some 2), (.mov (.t 85)), none⟩]) .ret)))), false⟩
theorem e211 : T 211 = some c211 := by kernel_rfl
/- 212: slices.ContainsFunc[[]hopmesh/api.Fade,hopmesh/api.Fade] -/
def c212 : Fun1 := ⟨[(.tmp 4)], (.seq (.ops [⟨(some 4), (.mov (.c (.bool false))), none⟩]) (.seq (.ops [⟨(some 5), (.mov (.t 0)), none⟩, ⟨(some 6), (.mov (.t 1)), none⟩, ⟨(some 7), (.call (.c (.fn 228 [])) [(.t 5), (.t 6)]), none⟩, ⟨(some 8), (.bin .geq (.t 7) (.c (.int .i64 0))), none⟩, ⟨(some 4), (.mov (.t 8)), none⟩]) .ret)), false⟩
theorem e212 : T 212 = some c212 := by kernel_rfl
/- 213: hopmesh/spectrum.Check$2 -/
def c213 : Fun1 := ⟨[(.tmp 2)], (.seq (.ops [⟨(some 1), (.box (.t 0)), none⟩, ⟨(some 2), (.mov (.c (.bool false))), none⟩]) (.seq (.ops [⟨(some 3), (.load true 6 (.t 1)), none⟩, ⟨(some 4), (.call (.c (.fn 214 [])) [(.t 3)]), none⟩, ⟨(some 5), (.notB (.t 4)), none⟩, ⟨(some 2), (.mov (.t 5)), none⟩]) .ret)), false⟩
theorem e213 : T 213 = some c213 := by kernel_rfl
/- 214: hopmesh/spectrum.fade -/
def c214 : Fun1 := ⟨[(.tmp 2)], (.seq (.ops [⟨(some 1), (.box (.t 0)), none⟩, ⟨(some 2), (.mov (.c (.bool false))), none⟩]) (.seq (.ops [⟨(some 3), (.mov (.c (.fn 229 []))), none⟩]) (.seq (.ops [⟨(some 4), (.mov (.t 3)), none⟩, ⟨(some 5), (.faddr 0 (.t 1)), none⟩, ⟨(some 6), (.load false 1 (.t 5)), none⟩, ⟨(some 7), (.call (.t 4) [(.t 6)]), none⟩, ⟨(some 8), (.mov (.t 7)), none⟩, ⟨(some 9), (.mov (.t 3)), (some (8, true))⟩, ⟨(some 10), (.faddr 1 (.t 1)), (some (8, true))⟩, ⟨(some 11), (.load false 1 (.t 10)), (some (8, true))⟩, ⟨(some 12), (.call (.t 9) [(.t 11)]), (some (8, true))⟩, ⟨(some 13), (.pick (.t 8) (.t 12) (.c (.bool false))), none⟩, ⟨(some 14), (.mov (.t 13)), none⟩, ⟨(some 15), (.faddr 2 (.t 1)), (some (14, true))⟩, ⟨(some 16), (.load false 1 (.t 15)), (some (14, true))⟩, ⟨(some 17), (.bin .eql (.t 16) (.c (.int .i64 (-1)))), (some (14, true))⟩, ⟨(some 18), (.mov (.t 17)), (some (14, true))⟩, ⟨(some 19), (.faddr 2 (.t 1)), (some (18, false))⟩, ⟨(some 20), (.load false 1 (.t 19)), (some (18, false))⟩, ⟨(some 21), (.call (.c (.fn 216 [])) [(.t 20)]), (some (18, false))⟩, ⟨(some 22), (.pick (.t 18) (.c (.bool true)) (.t 21)), (some (14, true))⟩, ⟨(some 23), (.pick (.t 14) (.t 22) (.c (.bool false))), none⟩, ⟨(some 24), (.mov (.t 23)), none⟩, ⟨(some 25), (.faddr 3 (.t 1)), (some (24, true))⟩, ⟨(some 26), (.load false 1 (.t 25)), (some (24, true))⟩, ⟨(some 27), (.faddr 4 (.t 1)), (some (24, true))⟩, ⟨(some 28), (.load false 1 (.t 27)), (some (24, true))⟩, ⟨(some 29), (.call (.c (.fn 231 [])) [(.t 26), (.t 28)]), (some (24, true))⟩, ⟨(some 30), (.pick (.t 24) (.t 29) (.c (.bool false))), none⟩, ⟨(some 31), (.mov (.t 30)), none⟩, ⟨(some 32), (.faddr 5 (.t 1)), (some (31, true))⟩, ⟨(some 33), (.load false 1 (.t 32)), (some (31, true))⟩, ⟨(some 34), (.bin .geq (.t 33) (.c (.int .i64 0))), (some (31, true))⟩, ⟨(some 35), (.pick (.t 31) (.t 34) (.c (.bool false))), none⟩, ⟨(some 36), (.mov (.t 35)), none⟩, ⟨(some 37), (.faddr 5 (.t 1)), (some (36, true))⟩, ⟨(some 38), (.load false 1 (.t 37)), (some (36, true))⟩, ⟨(some 39), (.bin .leq (.t 38) (.c (.int .i64 1000))), (some (36, true))⟩, ⟨(some 40), (.pick (.t 36) (.t 39) (.c (.bool false))), none⟩, ⟨(some 2), (.mov (.t 40)), none⟩]) .ret))), false⟩
theorem e214 : T 214 = some c214 := by kernel_rfl
/- 215: hopmesh/spectrum.pair -/
def c215 : Fun1 := ⟨[(.tmp 8), (.tmp 9)], (.seq (.ops [⟨(some 4), (.box (.t 0)), none⟩, ⟨(some 5), (.box (.t 1)), none⟩, ⟨(some 8), (.mov (.c (.int .i64 0))), none⟩, ⟨(some 9), (.mov (.c (.int .i64 0))), none⟩]) (.seq (.seq (.ops [⟨(some 10), (.load true 6 (.t 4)), none⟩, ⟨(some 11), (.call (.c (.fn 181 [])) [(.t 10)]), none⟩, ⟨(some 12), (.bin .neq (.t 11) (.c (.int .i64 0))), none⟩, ⟨(some 13), (.mov (.t 12)), none⟩, ⟨(some 14), (.load true 2 (.t 5)), (some (13, false))⟩, ⟨(some 15), (.call (.c (.fn 182 [])) [(.t 14)]), (some (13, false))⟩, ⟨(some 16), (.bin .neq (.t 15) (.c (.int .i64 0))), (some (13, false))⟩, ⟨(some 17), (.pick (.t 13) (.c (.bool true)) (.t 16)), none⟩]) (.cond (.t 17) (.seq (.ops [⟨(some 8), (.mov (.c (.int .i64 0))), none⟩, ⟨(some 9), (.mov (.c (.int .i64 1))), none⟩]) .ret) .skip)) (.seq (.ops [⟨(some 18), (.load true 6 (.t 4)), none⟩, ⟨(some 19), (.mov (.t 2)), none⟩, ⟨(some 20), (.mov (.t 3)), none⟩, ⟨(some 21), (.call (.c (.fn 232 [])) [(.t 18), (.t 19), (.t 20)]), none⟩, ⟨(some 22), (.extract (.t 21) 0), none⟩, ⟨(some 23), (.extract (.t 21) 1), none⟩, ⟨(some 8), (.mov (.t 22)), none⟩, ⟨(some 9), (.mov (.t 23)), none⟩]) .ret))), false⟩
theorem e215 : T 215 = some c215 := by kernel_rfl
/- 216: hopmesh/spectrum.channel -/
def c216 : Fun1 := ⟨[(.tmp 2)], (.seq (.ops [⟨(some 2), (.mov (.c (.bool false))), none⟩]) (.seq (.ops [⟨(some 3), (.mov (.t 0)), none⟩, ⟨(some 4), (.bin .geq (.t 3) (.c (.int .i64 0))), none⟩, ⟨(some 5), (.mov (.t 4)), none⟩, ⟨(some 6), (.mov (.t 0)), (some (5, true))⟩, ⟨(some 7), (.bin .lss (.t 6) (.c (.int .i64 16))), (some (5, true))⟩, ⟨(some 8), (.pick (.t 5) (.t 7) (.c (.bool false))), none⟩, ⟨(some 2), (.mov (.t 8)), none⟩]) .ret)), false⟩
theorem e216 : T 216 = some c216 := by kernel_rfl
/- 217: hopmesh/power.Scale -/
def c217 : Fun1 := ⟨[(.tmp 4), (.tmp 5)], (.seq (.ops [⟨(some 4), (.mov (.c (.int .i64 0))), none⟩, ⟨(some 5), (.mov (.c (.int .i64 0))), none⟩]) (.seq (.seq (.ops [⟨(some 6), (.mov (.t 0)), none⟩, ⟨(some 7), (.call (.c (.fn 179 [])) [(.t 6)]), none⟩, ⟨(some 8), (.notB (.t 7)), none⟩, ⟨(some 9), (.mov (.t 8)), none⟩, ⟨(some 10), (.mov (.t 1)), (some (9, false))⟩, ⟨(some 11), (.bin .lss (.t 10) (.c (.int .i64 0))), (some (9, false))⟩, ⟨(some 12), (.pick (.t 9) (.c (.bool true)) (.t 11)), none⟩, ⟨(some 13), (.mov (.t 12)), none⟩, ⟨(some 14), (.mov (.t 1)), (some (13, false))⟩, ⟨(some 15), (.bin .gtr (.t 14) (.c (.int .i64 1000))), (some (13, false))⟩, ⟨(some 16), (.pick (.t 13) (.c (.bool true)) (.t 15)), none⟩]) (.cond (.t 16) (.seq (.ops [⟨(some 4), (.mov (.c (.int .i64 0))), none⟩, ⟨(some 5), (.mov (.c (.int .i64 2))), none⟩]) .ret) .skip)) (.seq (.ops [⟨(some 17), (.mov (.t 0)), none⟩, ⟨(some 18), (.mov (.t 1)), none⟩, ⟨(some 19), (.bin .mul (.t 17) (.t 18)), none⟩, ⟨(some 20), (.bin .quo (.t 19) (.c (.int .i64 1000))), none⟩, ⟨(some 4), (.mov (.t 20)), none⟩, ⟨(some 5), (.mov (.c (.int .i64 0))), none⟩]) .ret))), false⟩
theorem e217 : T 217 = some c217 := by kernel_rfl
/- 218: hopmesh/spectrum.factor -/
def c218 : Fun1 := ⟨[(.tmp 10)], (.seq (.ops [⟨(some 5), (.box (.t 0)), none⟩, ⟨(some 6), (.box (.t 1)), none⟩, ⟨(some 7), (.box (.t 2)), none⟩, ⟨(some 8), (.box (.t 3)), none⟩, ⟨(some 9), (.box (.t 4)), none⟩, ⟨(some 10), (.mov (.c (.int .i64 0))), none⟩]) (.seq (.ops [⟨(some 11), (.mkfn 233 [(.t 6), (.t 7), (.t 8), (.t 9)]), none⟩, ⟨(some 12), (.build [.nilFn] [(0, (1, (.t 11)))]), none⟩, ⟨(some 13), (.faddr 1 (.t 5)), none⟩, ⟨(some 14), (.load false 1 (.t 13)), none⟩, ⟨(some 15), (.call (.c (.fn 235 [])) [(.t 12), (.t 14)]), none⟩, ⟨(some 10), (.mov (.t 15)), none⟩]) .ret)), false⟩
theorem e218 : T 218 = some c218 := by kernel_rfl
/- 219: hopmesh/spectrum.External -/
def c219 : Fun1 := ⟨[(.tmp 12), (.tmp 13)], (.seq (.ops [⟨(some 6), (.box (.t 0)), none⟩, ⟨(some 7), (.box (.t 1)), none⟩, ⟨(some 8), (.box (.t 2)), none⟩, ⟨(some 12), (.mov (.c (.int .i64 0))), none⟩, ⟨(some 13), (.mov (.c (.int .i64 0))), none⟩]) (.seq (.block 0 (.seq (.ops [⟨(some 19), (.load true 6 (.t 6)), none⟩, ⟨(some 20), (.call (.c (.fn 181 [])) [(.t 19)]), none⟩, ⟨(some 21), (.bin .neq (.t 20) (.c (.int .i64 0))), none⟩, ⟨(some 22), (.mov (.t 21)), none⟩, ⟨(some 23), (.load true 2 (.t 7)), (some (22, false))⟩, ⟨(some 24), (.call (.c (.fn 182 [])) [(.t 23)]), (some (22, false))⟩, ⟨(some 25), (.bin .neq (.t 24) (.c (.int .i64 0))), (some (22, false))⟩, ⟨(some 26), (.pick (.t 22) (.c (.bool true)) (.t 25)), none⟩, ⟨(some 18), (.mov (.t 26)), none⟩]) (.cond (.t 18) (.seq (.ops [⟨(some 12), (.mov (.c (.int .i64 0))), none⟩, ⟨(some 13), (.mov (.c (.int .i64 1))), none⟩]) .ret) (.seq (.ops [⟨(some 28), (.load false 1 (.t 8)), none⟩, ⟨(some 29), (.bin .lss (.t 28) (.c (.int .i64 0))), none⟩, ⟨(some 30), (.mov (.t 29)), none⟩, ⟨(some 31), (.load false 1 (.t 8)), (some (30, false))⟩, ⟨(some 32), (.faddr 0 (.t 6)), (some (30, false))⟩, ⟨(some 33), (.load false 1 (.t 32)), (some (30, false))⟩, ⟨(some 34), (.len (.t 33)), (some (30, false))⟩, ⟨(some 35), (.bin .geq (.t 31) (.t 34)), (some (30, false))⟩, ⟨(some 36), (.pick (.t 30) (.c (.bool true)) (.t 35)), none⟩, ⟨(some 27), (.mov (.t 36)), none⟩]) (.cond (.t 27) (.seq (.ops [⟨(some 12), (.mov (.c (.int .i64 0))), none⟩, ⟨(some 13), (.mov (.c (.int .i64 7))), none⟩]) .ret) (.seq (.ops [⟨(some 38), (.mov (.t 3)), none⟩, ⟨(some 39), (.call (.c (.fn 216 [])) [(.t 38)]), none⟩, ⟨(some 40), (.notB (.t 39)), none⟩, ⟨(some 41), (.mov (.t 40)), none⟩, ⟨(some 42), (.mov (.t 4)), (some (41, false))⟩, ⟨(some 43), (.mov (.t 5)), (some (41, false))⟩, ⟨(some 44), (.call (.c (.fn 231 [])) [(.t 42), (.t 43)]), (some (41, false))⟩, ⟨(some 45), (.notB (.t 44)), (some (41, false))⟩, ⟨(some 46), (.pick (.t 41) (.c (.bool true)) (.t 45)), none⟩, ⟨(some 37), (.mov (.t 46)), none⟩]) (.cond (.t 37) (.seq (.ops [⟨(some 12), (.mov (.c (.int .i64 0))), none⟩, ⟨(some 13), (.mov (.c (.int .i64 2))), none⟩]) .ret) .skip))))))) (.seq (.ops [⟨(some 14), (.alloc [(.int .i64 0)]), none⟩, ⟨none, (.store 1 (.t 14) (.c (.int .i64 0))), none⟩]) (.seq (.seq (.ops [⟨(some 47), (.load true 2 (.t 7)), none⟩, ⟨(some 48), (.mov (.t 3)), none⟩, ⟨(some 49), (.mov (.t 4)), none⟩, ⟨(some 50), (.mov (.t 5)), none⟩, ⟨(some 51), (.callK 236 4 [(.t 47), (.t 48), (.t 49), (.t 50)]), none⟩]) (.block 1 (.rangeF (.t 51) [52] (.ops [⟨(some 15), (.alloc [(.int .i64 0), (.int .i64 0), (.int .i64 0), (.lst 0 [] true), (.int .i64 0), (.int .i64 0), (.int .i64 0)]), none⟩, ⟨none, (.store 7 (.t 15) (.t 52)), none⟩]) (.block 2 (.seq (.drawn [(⟨(some 54), (.load true 6 (.t 6)), none⟩, ⟨.seg, [], 0, 0⟩), (⟨(some 55), (.faddr 0 (.t 15)), none⟩, ⟨.seg, [], 0, 0⟩), (⟨(some 56), (.load true 2 (.t 55)), none⟩, ⟨.seg, [], 0, 0⟩), (⟨(some 57), (.faddr 2 (.t 15)), none⟩, ⟨.seg, [], 0, 0⟩), (⟨(some 58), (.load false 1 (.t 57)), none⟩, ⟨.seg, [], 0, 0⟩), (⟨(some 59), (.faddr 0 (.t 6)), none⟩, ⟨.seg, [], 0, 0⟩), (⟨(some 60), (.load false 1 (.t 59)), none⟩, ⟨.seg, [], 0, 0⟩), (⟨(some 61), (.load false 1 (.t 8)), none⟩, ⟨.seg, [], 0, 0⟩), (⟨(some 62), (.iaddrS 2 (.t 60) (.t 61)), none⟩, ⟨.seg, [], 0, 0⟩), (⟨(some 63), (.load true 2 (.t 62)), none⟩, ⟨.seg, [], 0, 0⟩), (⟨(some 64), (.call (.c (.fn 237 [])) [(.t 54), (.t 56), (.t 58), (.t 63)]), none⟩, ⟨.bar, [], 0, 0⟩), (⟨(some 53), (.mov (.t 64)), none⟩, ⟨.pure, [], 0, 0⟩), (⟨(some 65), (.extract (.t 53) 0), none⟩, ⟨.pure, [], 0, 0⟩), (⟨(some 66), (.extract (.t 53) 1), none⟩, ⟨.pure, [], 0, 0⟩), (⟨(some 16), (.mov (.t 65)), none⟩, ⟨.pure, [], 0, 0⟩), (⟨(some 17), (.mov (.t 66)), none⟩, ⟨.pure, [], 0, 0⟩)]) (.ops [⟨(some 67), (.load false 1 (.t 14)), none⟩, ⟨(some 68), (.mov (.t 16)), none⟩, ⟨(some 69), (.bin .add (.t 67) (.t 68)), none⟩, ⟨none, (.store 1 (.t 14) (.t 69)), none⟩])))))) (.seq (.ops [⟨(some 70), (.load false 1 (.t 14)), none⟩, ⟨(some 12), (.mov (.t 70)), none⟩, ⟨(some 13), (.mov (.c (.int .i64 0))), none⟩]) .ret))))), false⟩
theorem e219 : T 219 = some c219 := by kernel_rfl
/- 220: (hopmesh/air.scene).others$1 -/
def c220 : Fun1 := ⟨[], (.seq (.ops [⟨(some 7), (.faddr 8 (.t 1)), none⟩, ⟨(some 8), (.load false 1 (.t 7)), none⟩, ⟨(some 9), (.len (.t 8)), none⟩, ⟨(some 10), (.mov (.c (.int .i64 0))), none⟩]) (.block 0 (.loop ⟨[0, 1, 2, 3, 8, 9, 10], []⟩ (.seq (.ops [⟨(some 11), (.bin .lss (.t 10) (.t 9)), none⟩]) (.seq (.cond (.t 11) .skip (.exit 0)) (.seq (.block 1 (.seq (.ops [⟨(some 12), (.mov (.t 10)), none⟩, ⟨(some 13), (.iaddrS 4 (.t 8) (.t 10)), none⟩, ⟨(some 14), (.load true 4 (.t 13)), none⟩, ⟨(some 6), (.alloc [(.int .i64 0), (.int .i64 0), (.int .i64 0), (.int .i64 0)]), none⟩, ⟨(some 5), (.mov (.t 12)), none⟩, ⟨none, (.store 4 (.t 6) (.t 14)), none⟩]) (.seq (.drawn [(⟨(some 15), (.mov (.t 5)), none⟩, ⟨.pure, [], 0, 0⟩), (⟨(some 16), (.load false 1 (.t 2)), none⟩, ⟨.bar, [], 0, 0⟩), (⟨(some 17), (.bin .neq (.t 15) (.t 16)), none⟩, ⟨.pure, [], 0, 0⟩), (⟨(some 18), (.mov (.t 17)), none⟩, ⟨.pure, [], 0, 0⟩), (⟨(some 19), (.faddr 1 (.t 6)), (some (18, true))⟩, ⟨.seg, [], 0, 0⟩), (⟨(some 20), (.load false 1 (.t 19)), (some (18, true))⟩, ⟨.seg, [], 0, 0⟩), (⟨(some 21), (.faddr 8 (.t 1)), (some (18, true))⟩, ⟨.seg, [], 0, 0⟩), (⟨(some 22), (.load false 1 (.t 21)), (some (18, true))⟩, ⟨.seg, [], 0, 0⟩), (⟨(some 23), (.load false 1 (.t 2)), (some (18, true))⟩, ⟨.seg, [], 0, 0⟩), (⟨(some 24), (.iaddrS 4 (.t 22) (.t 23)), (some (18, true))⟩, ⟨.seg, [], 0, 0⟩), (⟨(some 25), (.faddr 1 (.t 24)), (some (18, true))⟩, ⟨.seg, [], 0, 0⟩), (⟨(some 26), (.load false 1 (.t 25)), (some (18, true))⟩, ⟨.seg, [], 0, 0⟩), (⟨(some 27), (.bin .eql (.t 20) (.t 26)), (some (18, true))⟩, ⟨.pure, [], 0, 0⟩), (⟨(some 28), (.pick (.t 18) (.t 27) (.c (.bool false))), none⟩, ⟨.pure, [], 0, 0⟩), (⟨(some 29), (.mov (.t 28)), none⟩, ⟨.pure, [], 0, 0⟩), (⟨(some 30), (.faddr 0 (.t 6)), (some (29, true))⟩, ⟨.seg, [], 0, 0⟩), (⟨(some 31), (.load false 1 (.t 30)), (some (29, true))⟩, ⟨.seg, [], 0, 0⟩), (⟨(some 32), (.load false 1 (.t 3)), (some (29, true))⟩, ⟨.seg, [], 0, 0⟩), (⟨(some 33), (.bin .neq (.t 31) (.t 32)), (some (29, true))⟩, ⟨.pure, [], 0, 0⟩), (⟨(some 34), (.pick (.t 29) (.t 33) (.c (.bool false))), none⟩, ⟨.pure, [], 0, 0⟩), (⟨(some 35), (.mov (.t 34)), none⟩, ⟨.pure, [], 0, 0⟩), (⟨(some 36), (.faddr 8 (.t 1)), (some (35, true))⟩, ⟨.seg, [], 0, 0⟩), (⟨(some 37), (.load false 1 (.t 36)), (some (35, true))⟩, ⟨.seg, [], 0, 0⟩), (⟨(some 38), (.load false 1 (.t 2)), (some (35, true))⟩, ⟨.seg, [], 0, 0⟩), (⟨(some 39), (.iaddrS 4 (.t 37) (.t 38)), (some (35, true))⟩, ⟨.seg, [], 0, 0⟩), (⟨(some 40), (.load true 4 (.t 39)), (some (35, true))⟩, ⟨.seg, [], 0, 0⟩), (⟨(some 41), (.load true 4 (.t 6)), (some (35, true))⟩, ⟨.seg, [], 0, 0⟩), (⟨(some 42), (.call (.c (.fn 183 [])) [(.t 40), (.t 41)]), (some (35, true))⟩, ⟨.bar, [], 0, 0⟩), (⟨(some 43), (.pick (.t 35) (.t 42) (.c (.bool false))), none⟩, ⟨.pure, [], 0, 0⟩), (⟨(some 44), (.mov (.t 43)), none⟩, ⟨.pure, [], 0, 0⟩), (⟨(some 45), (.mov (.t 0)), (some (44, true))⟩, ⟨.pure, [], 0, 0⟩), (⟨(some 46), (.mov (.t 5)), (some (44, true))⟩, ⟨.pure, [], 0, 0⟩), (⟨(some 47), (.load true 4 (.t 6)), (some (44, true))⟩, ⟨.bar, [], 0, 0⟩), (⟨(some 48), (.call (.t 45) [(.t 46), (.t 47)]), (some (44, true))⟩, ⟨.bar, [], 0, 0⟩), (⟨(some 49), (.notB (.t 48)), (some (44, true))⟩, ⟨.pure, [], 0, 0⟩), (⟨(some 50), (.pick (.t 44) (.t 49) (.c (.bool false))), none⟩, ⟨.pure, [], 0, 0⟩)]) (.cond (.t 50) .ret .skip)))) (.ops [⟨(some 51), (.bin .add (.t 10) (.c (.int .i64 1))), none⟩, ⟨(some 10), (.mov (.t 51)), none⟩]))))))), false⟩
theorem e220 : T 220 = some c220 := by kernel_rfl
/- 221: slices.rotateCmpFunc[int] -/
def c221 : Fun1 := ⟨[], (.seq (.ops [⟨(some 12), (.mov (.t 2)), none⟩, ⟨(some 13), (.mov (.t 1)), none⟩, ⟨(some 14), (.bin .sub (.t 12) (.t 13)), none⟩, ⟨(some 10), (.mov (.t 14)), none⟩]) (.seq (.ops [⟨(some 15), (.mov (.t 3)), none⟩, ⟨(some 16), (.mov (.t 2)), none⟩, ⟨(some 17), (.bin .sub (.t 15) (.t 16)), none⟩, ⟨(some 11), (.mov (.t 17)), none⟩]) (.seq (.block 0 (.loop ⟨[0, 2, 4, 10, 11], []⟩ (.seq (.seq (.ops [⟨(some 18), (.mov (.t 10)), none⟩, ⟨(some 19), (.mov (.t 11)), none⟩, ⟨(some 20), (.bin .neq (.t 18) (.t 19)), none⟩]) (.cond (.t 20) .skip (.exit 0))) (.block 1 (.seq (.ops [⟨(some 21), (.mov (.t 10)), none⟩, ⟨(some 22), (.mov (.t 11)), none⟩, ⟨(some 23), (.bin .gtr (.t 21) (.t 22)), none⟩]) (.cond (.t 23) (.seq (.ops [⟨(some 24), (.mov (.t 0)), none⟩, ⟨(some 25), (.mov (.t 2)), none⟩, ⟨(some 26), (.mov (.t 10)), none⟩, ⟨(some 27), (.bin .sub (.t 25) (.t 26)), none⟩, ⟨(some 28), (.mov (.t 2)), none⟩, ⟨(some 29), (.mov (.t 11)), none⟩, ⟨(some 30), (.mov (.t 4)), none⟩, ⟨(some 31), (.call (.c (.fn 238 [])) [(.t 24), (.t 27), (.t 28), (.t 29), (.t 30)]), none⟩]) (.ops [⟨(some 32), (.mov (.t 10)), none⟩, ⟨(some 33), (.mov (.t 11)), none⟩, ⟨(some 34), (.bin .sub (.t 32) (.t 33)), none⟩, ⟨(some 10), (.mov (.t 34)), none⟩])) (.seq (.ops [⟨(some 35), (.mov (.t 0)), none⟩, ⟨(some 36), (.mov (.t 2)), none⟩, ⟨(some 37), (.mov (.t 10)), none⟩, ⟨(some 38), (.bin .sub (.t 36) (.t 37)), none⟩, ⟨(some 39), (.mov (.t 2)), none⟩, ⟨(some 40), (.mov (.t 11)), none⟩, ⟨(some 41), (.bin .add (.t 39) (.t 40)), none⟩, ⟨(some 42), (.mov (.t 10)), none⟩, ⟨(some 43), (.bin .sub (.t 41) (.t 42)), none⟩, ⟨(some 44), (.mov (.t 10)), none⟩, ⟨(some 45), (.mov (.t 4)), none⟩, ⟨(some 46), (.call (.c (.fn 238 [])) [(.t 35), (.t 38), (.t 43), (.t 44), (.t 45)]), none⟩]) (.ops [⟨(some 47), (.mov (.t 11)), none⟩, ⟨(some 48), (.mov (.t 10)), none⟩, ⟨(some 49), (.bin .sub (.t 47) (.t 48)), none⟩, ⟨(some 11), (.mov (.t 49)), none⟩])))))))) (.ops [⟨(some 50), (.mov (.t 0)), none⟩, ⟨(some 51), (.mov (.t 2)), none⟩, ⟨(some 52), (.mov (.t 10)), none⟩, ⟨(some 53), (.bin .sub (.t 51) (.t 52)), none⟩, ⟨(some 54), (.mov (.t 2)), none⟩, ⟨(some 55), (.mov (.t 10)), none⟩, ⟨(some 56), (.mov (.t 4)), none⟩, ⟨(some 57), (.call (.c (.fn 238 [])) [(.t 50), (.t 53), (.t 54), (.t 55), (.t 56)]), none⟩])))), false⟩
theorem e221 : T 221 = some c221 := by kernel_rfl
/- 222: hopmesh/crc.remainders -/
def c222 : Fun1 := ⟨[(.cell 0 true 16)], (.seq (.ops [⟨(some 0), (.alloc [(.int .u16 0), (.int .u16 0), (.int .u16 0), (.int .u16 0), (.int .u16 0), (.int .u16 0), (.int .u16 0), (.int .u16 0), (.int .u16 0), (.int .u16 0), (.int .u16 0), (.int .u16 0), (.int .u16 0), (.int .u16 0), (.int .u16 0), (.int .u16 0)]), none⟩]) (.seq (.ops [⟨(some 1), (.alloc [(.int .u16 0), (.int .u16 0), (.int .u16 0), (.int .u16 0), (.int .u16 0), (.int .u16 0), (.int .u16 0), (.int .u16 0), (.int .u16 0), (.int .u16 0), (.int .u16 0), (.int .u16 0), (.int .u16 0), (.int .u16 0), (.int .u16 0), (.int .u16 0)]), none⟩]) (.seq (.ops [⟨(some 4), (.mkfn 239 [(.t 1)]), none⟩, ⟨(some 2), (.mov (.t 4)), none⟩]) (.seq (.seq (.ops [⟨(some 5), (.mov (.c (.int .i64 0))), none⟩]) (.block 0 (.loop ⟨[0, 1, 2, 5], []⟩ (.seq (.ops [⟨(some 6), (.bin .lss (.t 5) (.c (.int .i64 16))), none⟩]) (.seq (.cond (.t 6) .skip (.exit 0)) (.seq (.block 1 (.seq (.ops [⟨(some 7), (.mov (.t 5)), none⟩, ⟨(some 3), (.mov (.t 7)), none⟩]) (.ops [⟨(some 8), (.mov (.t 2)), none⟩, ⟨(some 9), (.mov (.t 3)), none⟩, ⟨(some 10), (.call (.t 8) [(.t 9)]), none⟩]))) (.ops [⟨(some 11), (.bin .add (.t 5) (.c (.int .i64 1))), none⟩, ⟨(some 5), (.mov (.t 11)), none⟩]))))))) (.seq (.ops [⟨(some 12), (.load true 16 (.t 1)), none⟩, ⟨none, (.store 16 (.t 0) (.t 12)), none⟩]) .ret))))), false⟩
theorem e222 : T 222 = some c222 := by kernel_rfl
/- 223: hopmesh/bitio.limit -/
def c223 : Fun1 := ⟨[(.tmp 2)], (.seq (.ops [⟨(some 2), (.mov (.c (.bool false))), none⟩]) (.seq (.ops [⟨(some 3), (.mov (.t 0)), none⟩, ⟨(some 4), (.bin .geq (.t 3) (.c (.int .i64 1))), none⟩, ⟨(some 5), (.mov (.t 4)), none⟩, ⟨(some 6), (.mov (.t 0)), (some (5, true))⟩, ⟨(some 7), (.bin .leq (.t 6) (.c (.int .i64 4095))), (some (5, true))⟩, ⟨(some 8), (.pick (.t 5) (.t 7) (.c (.bool false))), none⟩, ⟨(some 2), (.mov (.t 8)), none⟩]) .ret)), false⟩
theorem e223 : T 223 = some c223 := by kernel_rfl
/- 224: hopmesh/bitio.Width -/
def c224 : Fun1 := ⟨[(.tmp 2)], (.seq (.ops [⟨(some 2), (.mov (.c (.int .i64 0))), none⟩]) (.seq (.seq (.ops [⟨(some 3), (.mov (.t 0)), none⟩, ⟨(some 4), (.bin .lss (.t 3) (.c (.int .i64 0))), none⟩]) (.cond (.t 4) (.seq (.ops [⟨(some 2), (.mov (.c (.int .i64 0))), none⟩]) .ret) .skip)) (.seq (.ops [⟨(some 5), (.mov (.t 0)), none⟩, ⟨(some 6), (.convI .u64 (.t 5)), none⟩, ⟨(some 7), (.call (.c (.fn 166 [])) [(.t 6)]), none⟩, ⟨(some 8), (.maxI [(.c (.int .i64 1)), (.t 7)]), none⟩, ⟨(some 2), (.mov (.t 8)), none⟩]) .ret))), false⟩
theorem e224 : T 224 = some c224 := by kernel_rfl
/- 225: slices.IndexFunc[[]hopmesh/api.Point,hopmesh/api.Point] -/
def c225 : Fun1 := ⟨[(.tmp 4)], (.seq (.ops [⟨(some 4), (.mov (.c (.int .i64 0))), none⟩]) (.seq (.seq (.ops [⟨(some 6), (.mov (.t 0)), none⟩, ⟨(some 7), (.len (.t 6)), none⟩, ⟨(some 8), (.mov (.c (.int .i64 0))), none⟩]) (.block 0 (.loop ⟨[0, 1, 7, 8], []⟩ (.seq (.ops [⟨(some 9), (.bin .lss (.t 8) (.t 7)), none⟩]) (.seq (.cond (.t 9) .skip (.exit 0)) (.seq (.block 1 (.seq (.ops [⟨(some 10), (.mov (.t 8)), none⟩, ⟨(some 5), (.mov (.t 10)), none⟩]) (.seq (.ops [⟨(some 11), (.mov (.t 1)), none⟩, ⟨(some 12), (.mov (.t 0)), none⟩, ⟨(some 13), (.mov (.t 5)), none⟩, ⟨(some 14), (.iaddrS 2 (.t 12) (.t 13)), none⟩, ⟨(some 15), (.load true 2 (.t 14)), none⟩, ⟨(some 16), (.call (.t 11) [(.t 15)]), none⟩]) (.cond (.t 16) (.seq (.ops [⟨(some 17), (.mov (.t 5)), none⟩, ⟨(some 4), (.mov (.t 17)), none⟩]) .ret) .skip)))) (.ops [⟨(some 18), (.bin .add (.t 8) (.c (.int .i64 1))), none⟩, ⟨(some 8), (.mov (.t 18)), none⟩]))))))) (.seq (.ops [⟨(some 4), (.mov (.c (.int .i64 (-1)))), none⟩]) .ret))), false⟩
theorem e225 : T 225 = some c225 := by kernel_rfl
/- 226: slices.IndexFunc[[]hopmesh/api.Wall,hopmesh/api.Wall] -/
def c226 : Fun1 := ⟨[(.tmp 4)], (.seq (.ops [⟨(some 4), (.mov (.c (.int .i64 0))), none⟩]) (.seq (.seq (.ops [⟨(some 6), (.mov (.t 0)), none⟩, ⟨(some 7), (.len (.t 6)), none⟩, ⟨(some 8), (.mov (.c (.int .i64 0))), none⟩]) (.block 0 (.loop ⟨[0, 1, 7, 8], []⟩ (.seq (.ops [⟨(some 9), (.bin .lss (.t 8) (.t 7)), none⟩]) (.seq (.cond (.t 9) .skip (.exit 0)) (.seq (.block 1 (.seq (.ops [⟨(some 10), (.mov (.t 8)), none⟩, ⟨(some 5), (.mov (.t 10)), none⟩]) (.seq (.ops [⟨(some 11), (.mov (.t 1)), none⟩, ⟨(some 12), (.mov (.t 0)), none⟩, ⟨(some 13), (.mov (.t 5)), none⟩, ⟨(some 14), (.iaddrS 5 (.t 12) (.t 13)), none⟩, ⟨(some 15), (.load true 5 (.t 14)), none⟩, ⟨(some 16), (.call (.t 11) [(.t 15)]), none⟩]) (.cond (.t 16) (.seq (.ops [⟨(some 17), (.mov (.t 5)), none⟩, ⟨(some 4), (.mov (.t 17)), none⟩]) .ret) .skip)))) (.ops [⟨(some 18), (.bin .add (.t 8) (.c (.int .i64 1))), none⟩, ⟨(some 8), (.mov (.t 18)), none⟩]))))))) (.seq (.ops [⟨(some 4), (.mov (.c (.int .i64 (-1)))), none⟩]) .ret))), false⟩
theorem e226 : T 226 = some c226 := by kernel_rfl
/- 227: slices.IndexFunc[[]hopmesh/api.Source,hopmesh/api.Source] -/
def c227 : Fun1 := ⟨[(.tmp 4)], (.seq (.ops [⟨(some 4), (.mov (.c (.int .i64 0))), none⟩]) (.seq (.seq (.ops [⟨(some 6), (.mov (.t 0)), none⟩, ⟨(some 7), (.len (.t 6)), none⟩, ⟨(some 8), (.mov (.c (.int .i64 0))), none⟩]) (.block 0 (.loop ⟨[0, 1, 7, 8], []⟩ (.seq (.ops [⟨(some 9), (.bin .lss (.t 8) (.t 7)), none⟩]) (.seq (.cond (.t 9) .skip (.exit 0)) (.seq (.block 1 (.seq (.ops [⟨(some 10), (.mov (.t 8)), none⟩, ⟨(some 5), (.mov (.t 10)), none⟩]) (.seq (.ops [⟨(some 11), (.mov (.t 1)), none⟩, ⟨(some 12), (.mov (.t 0)), none⟩, ⟨(some 13), (.mov (.t 5)), none⟩, ⟨(some 14), (.iaddrS 7 (.t 12) (.t 13)), none⟩, ⟨(some 15), (.load true 7 (.t 14)), none⟩, ⟨(some 16), (.call (.t 11) [(.t 15)]), none⟩]) (.cond (.t 16) (.seq (.ops [⟨(some 17), (.mov (.t 5)), none⟩, ⟨(some 4), (.mov (.t 17)), none⟩]) .ret) .skip)))) (.ops [⟨(some 18), (.bin .add (.t 8) (.c (.int .i64 1))), none⟩, ⟨(some 8), (.mov (.t 18)), none⟩]))))))) (.seq (.ops [⟨(some 4), (.mov (.c (.int .i64 (-1)))), none⟩]) .ret))), false⟩
theorem e227 : T 227 = some c227 := by kernel_rfl
/- 228: slices.IndexFunc[[]hopmesh/api.Fade,hopmesh/api.Fade] -/
def c228 : Fun1 := ⟨[(.tmp 4)], (.seq (.ops [⟨(some 4), (.mov (.c (.int .i64 0))), none⟩]) (.seq (.seq (.ops [⟨(some 6), (.mov (.t 0)), none⟩, ⟨(some 7), (.len (.t 6)), none⟩, ⟨(some 8), (.mov (.c (.int .i64 0))), none⟩]) (.block 0 (.loop ⟨[0, 1, 7, 8], []⟩ (.seq (.ops [⟨(some 9), (.bin .lss (.t 8) (.t 7)), none⟩]) (.seq (.cond (.t 9) .skip (.exit 0)) (.seq (.block 1 (.seq (.ops [⟨(some 10), (.mov (.t 8)), none⟩, ⟨(some 5), (.mov (.t 10)), none⟩]) (.seq (.ops [⟨(some 11), (.mov (.t 1)), none⟩, ⟨(some 12), (.mov (.t 0)), none⟩, ⟨(some 13), (.mov (.t 5)), none⟩, ⟨(some 14), (.iaddrS 6 (.t 12) (.t 13)), none⟩, ⟨(some 15), (.load true 6 (.t 14)), none⟩, ⟨(some 16), (.call (.t 11) [(.t 15)]), none⟩]) (.cond (.t 16) (.seq (.ops [⟨(some 17), (.mov (.t 5)), none⟩, ⟨(some 4), (.mov (.t 17)), none⟩]) .ret) .skip)))) (.ops [⟨(some 18), (.bin .add (.t 8) (.c (.int .i64 1))), none⟩, ⟨(some 8), (.mov (.t 18)), none⟩]))))))) (.seq (.ops [⟨(some 4), (.mov (.c (.int .i64 (-1)))), none⟩]) .ret))), false⟩
theorem e228 : T 228 = some c228 := by kernel_rfl
/- 229: hopmesh/spectrum.fade$1 -/
def c229 : Fun1 := ⟨[(.tmp 2)], (.seq (.ops [⟨(some 2), (.mov (.c (.bool false))), none⟩]) (.seq (.ops [⟨(some 3), (.mov (.t 0)), none⟩, ⟨(some 4), (.bin .eql (.t 3) (.c (.int .i64 (-1)))), none⟩, ⟨(some 5), (.mov (.t 4)), none⟩, ⟨(some 6), (.mov (.t 0)), (some (5, false))⟩, ⟨(some 7), (.call (.c (.fn 230 [])) [(.t 6)]), (some (5, false))⟩, ⟨(some 8), (.pick (.t 5) (.c (.bool true)) (.t 7)), none⟩, ⟨(some 2), (.mov (.t 8)), none⟩]) .ret)), false⟩
theorem e229 : T 229 = some c229 := by kernel_rfl
/- 230: hopmesh/spectrum.node -/
def c230 : Fun1 := ⟨[(.tmp 2)], (.seq (.ops [⟨(some 2), (.mov (.c (.bool false))), none⟩]) (.seq (.ops [⟨(some 3), (.mov (.t 0)), none⟩, ⟨(some 4), (.bin .geq (.t 3) (.c (.int .i64 0))), none⟩, ⟨(some 5), (.mov (.t 4)), none⟩, ⟨(some 6), (.mov (.t 0)), (some (5, true))⟩, ⟨(some 7), (.bin .lss (.t 6) (.c (.int .i64 32))), (some (5, true))⟩, ⟨(some 8), (.pick (.t 5) (.t 7) (.c (.bool false))), none⟩, ⟨(some 2), (.mov (.t 8)), none⟩]) .ret)), false⟩
theorem e230 : T 230 = some c230 := by kernel_rfl
/- 231: hopmesh/spectrum.interval -/
def c231 : Fun1 := ⟨[(.tmp 4)], (.seq (.ops [⟨(some 4), (.mov (.c (.bool false))), none⟩]) (.seq (.ops [⟨(some 5), (.mov (.t 0)), none⟩, ⟨(some 6), (.bin .geq (.t 5) (.c (.int .i64 0))), none⟩, ⟨(some 7), (.mov (.t 6)), none⟩, ⟨(some 8), (.mov (.t 0)), (some (7, true))⟩, ⟨(some 9), (.mov (.t 1)), (some (7, true))⟩, ⟨(some 10), (.bin .leq (.t 8) (.t 9)), (some (7, true))⟩, ⟨(some 11), (.pick (.t 7) (.t 10) (.c (.bool false))), none⟩, ⟨(some 12), (.mov (.t 11)), none⟩, ⟨(some 13), (.mov (.t 1)), (some (12, true))⟩, ⟨(some 14), (.bin .leq (.t 13) (.c (.int .i64 1099511627776))), (some (12, true))⟩, ⟨(some 15), (.pick (.t 12) (.t 14) (.c (.bool false))), none⟩, ⟨(some 4), (.mov (.t 15)), none⟩]) .ret)), false⟩
theorem e231 : T 231 = some c231 := by kernel_rfl
/- 232: hopmesh/geometry.Between -/
def c232 : Fun1 := ⟨[(.tmp 6), (.tmp 7)], (.seq (.ops [⟨(some 3), (.box (.t 0)), none⟩, ⟨(some 6), (.mov (.c (.int .i64 0))), none⟩, ⟨(some 7), (.mov (.c (.int .i64 0))), none⟩]) (.seq (.block 0 (.seq (.ops [⟨(some 9), (.load true 6 (.t 3)), none⟩, ⟨(some 10), (.call (.c (.fn 181 [])) [(.t 9)]), none⟩, ⟨(some 11), (.bin .neq (.t 10) (.c (.int .i64 0))), none⟩, ⟨(some 8), (.mov (.t 11)), none⟩]) (.cond (.t 8) (.seq (.ops [⟨(some 6), (.mov (.c (.int .i64 0))), none⟩, ⟨(some 7), (.mov (.c (.int .i64 1))), none⟩]) .ret) (.seq (.ops [⟨(some 13), (.mov (.t 1)), none⟩, ⟨(some 14), (.mov (.t 2)), none⟩, ⟨(some 15), (.minI [(.t 13), (.t 14)]), none⟩, ⟨(some 16), (.bin .lss (.t 15) (.c (.int .i64 0))), none⟩, ⟨(some 17), (.mov (.t 16)), none⟩, ⟨(some 18), (.mov (.t 1)), (some (17, false))⟩, ⟨(some 19), (.mov (.t 2)), (some (17, false))⟩, ⟨(some 20), (.maxI [(.t 18), (.t 19)]), (some (17, false))⟩, ⟨(some 21), (.faddr 0 (.t 3)), (some (17, false))⟩, ⟨(some 22), (.load false 1 (.t 21)), (some (17, false))⟩, ⟨(some 23), (.len (.t 22)), (some (17, false))⟩, ⟨(some 24), (.bin .geq (.t 20) (.t 23)), (some (17, false))⟩, ⟨(some 25), (.pick (.t 17) (.c (.bool true)) (.t 24)), none⟩, ⟨(some 12), (.mov (.t 25)), none⟩]) (.cond (.t 12) (.seq (.ops [⟨(some 6), (.mov (.c (.int .i64 0))), none⟩, ⟨(some 7), (.mov (.c (.int .i64 7))), none⟩]) .ret) .skip))))) (.seq (.ops [⟨(some 26), (.load true 6 (.t 3)), none⟩, ⟨(some 27), (.mov (.t 1)), none⟩, ⟨(some 28), (.mov (.t 2)), none⟩, ⟨(some 29), (.call (.c (.fn 241 [])) [(.t 26), (.t 27), (.t 28)]), none⟩, ⟨(some 6), (.mov (.t 29)), none⟩, ⟨(some 7), (.mov (.c (.int .i64 0))), none⟩]) .ret))), false⟩
theorem e232 : T 232 = some c232 := by kernel_rfl
/- 233: hopmesh/spectrum.factor$1 -/
def c233 : Fun1 := ⟨[(.tmp 6)], (.seq (.ops [⟨(some 5), (.box (.t 0)), none⟩, ⟨(some 6), (.mov (.c (.bool false))), none⟩]) (.seq (.ops [⟨(some 7), (.load true 6 (.t 5)), none⟩, ⟨(some 8), (.load false 1 (.t 1)), none⟩, ⟨(some 9), (.load false 1 (.t 2)), none⟩, ⟨(some 10), (.call (.c (.fn 234 [])) [(.t 7), (.t 8), (.t 9)]), none⟩, ⟨(some 11), (.mov (.t 10)), none⟩, ⟨(some 12), (.faddr 2 (.t 5)), (some (11, true))⟩, ⟨(some 13), (.load false 1 (.t 12)), (some (11, true))⟩, ⟨(some 14), (.bin .eql (.t 13) (.c (.int .i64 (-1)))), (some (11, true))⟩, ⟨(some 15), (.mov (.t 14)), (some (11, true))⟩, ⟨(some 16), (.faddr 2 (.t 5)), (some (15, false))⟩, ⟨(some 17), (.load false 1 (.t 16)), (some (15, false))⟩, ⟨(some 18), (.load false 1 (.t 3)), (some (15, false))⟩, ⟨(some 19), (.bin .eql (.t 17) (.t 18)), (some (15, false))⟩, ⟨(some 20), (.pick (.t 15) (.c (.bool true)) (.t 19)), (some (11, true))⟩, ⟨(some 21), (.pick (.t 11) (.t 20) (.c (.bool false))), none⟩, ⟨(some 22), (.mov (.t 21)), none⟩, ⟨(some 23), (.faddr 3 (.t 5)), (some (22, true))⟩, ⟨(some 24), (.load false 1 (.t 23)), (some (22, true))⟩, ⟨(some 25), (.load false 1 (.t 4)), (some (22, true))⟩, ⟨(some 26), (.bin .leq (.t 24) (.t 25)), (some (22, true))⟩, ⟨(some 27), (.pick (.t 22) (.t 26) (.c (.bool false))), none⟩, ⟨(some 28), (.mov (.t 27)), none⟩, ⟨(some 29), (.load false 1 (.t 4)), (some (28, true))⟩, ⟨(some 30), (.faddr 4 (.t 5)), (some (28, true))⟩, ⟨(some 31), (.load false 1 (.t 30)), (some (28, true))⟩, ⟨(some 32), (.bin .lss (.t 29) (.t 31)), (some (28, true))⟩, ⟨(some 33), (.pick (.t 28) (.t 32) (.c (.bool false))), none⟩, ⟨(some 6), (.mov (.t 33)), none⟩]) .ret)), false⟩
theorem e233 : T 233 = some c233 := by kernel_rfl
/- 234: hopmesh/spectrum.between -/
def c234 : Fun1 := ⟨[(.tmp 6)], (.seq (.ops [⟨(some 3), (.box (.t 0)), none⟩, ⟨(some 6), (.mov (.c (.bool false))), none⟩]) (.seq (.ops [⟨(some 7), (.faddr 0 (.t 3)), none⟩, ⟨(some 8), (.load false 1 (.t 7)), none⟩, ⟨(some 9), (.bin .eql (.t 8) (.c (.int .i64 (-1)))), none⟩, ⟨(some 10), (.mov (.t 9)), none⟩, ⟨(some 11), (.faddr 0 (.t 3)), (some (10, false))⟩, ⟨(some 12), (.load false 1 (.t 11)), (some (10, false))⟩, ⟨(some 13), (.mov (.t 1)), (some (10, false))⟩, ⟨(some 14), (.bin .eql (.t 12) (.t 13)), (some (10, false))⟩, ⟨(some 15), (.pick (.t 10) (.c (.bool true)) (.t 14)), none⟩, ⟨(some 16), (.mov (.t 15)), none⟩, ⟨(some 17), (.faddr 1 (.t 3)), (some (16, true))⟩, ⟨(some 18), (.load false 1 (.t 17)), (some (16, true))⟩, ⟨(some 19), (.bin .eql (.t 18) (.c (.int .i64 (-1)))), (some (16, true))⟩, ⟨(some 20), (.mov (.t 19)), (some (16, true))⟩, ⟨(some 21), (.faddr 1 (.t 3)), (some (20, false))⟩, ⟨(some 22), (.load false 1 (.t 21)), (some (20, false))⟩, ⟨(some 23), (.mov (.t 2)), (some (20, false))⟩, ⟨(some 24), (.bin .eql (.t 22) (.t 23)), (some (20, false))⟩, ⟨(some 25), (.pick (.t 20) (.c (.bool true)) (.t 24)), (some (16, true))⟩, ⟨(some 26), (.pick (.t 16) (.t 25) (.c (.bool false))), none⟩, ⟨(some 6), (.mov (.t 26)), none⟩]) .ret)), false⟩
theorem e234 : T 234 = some c234 := by kernel_rfl
/- 235: (hopmesh/spectrum.condition).least -/
def c235 : Fun1 := ⟨[(.tmp 4)], (.seq (.ops [⟨(some 2), (.box (.t 0)), none⟩, ⟨(some 4), (.mov (.c (.int .i64 0))), none⟩]) (.seq (.ops [⟨(some 5), (.mov (.c (.int .i64 1000))), none⟩]) (.seq (.seq (.ops [⟨(some 8), (.mov (.t 1)), none⟩, ⟨(some 9), (.len (.t 8)), none⟩, ⟨(some 10), (.mov (.c (.int .i64 0))), none⟩]) (.block 0 (.loop ⟨[2, 5, 8, 9, 10], []⟩ (.seq (.ops [⟨(some 11), (.bin .lss (.t 10) (.t 9)), none⟩]) (.seq (.cond (.t 11) .skip (.exit 0)) (.seq (.block 1 (.seq (.ops [⟨(some 12), (.iaddrS 6 (.t 8) (.t 10)), none⟩, ⟨(some 13), (.load true 6 (.t 12)), none⟩, ⟨(some 7), (.alloc [(.int .i64 0), (.int .i64 0), (.int .i64 0), (.int .i64 0), (.int .i64 0), (.int .i64 0)]), none⟩, ⟨none, (.store 6 (.t 7) (.t 13)), none⟩]) (.seq (.ops [⟨(some 14), (.faddr 0 (.t 2)), none⟩, ⟨(some 15), (.load false 1 (.t 14)), none⟩, ⟨(some 16), (.load true 6 (.t 7)), none⟩, ⟨(some 17), (.call (.t 15) [(.t 16)]), none⟩]) (.cond (.t 17) (.ops [⟨(some 18), (.mov (.t 5)), none⟩, ⟨(some 19), (.faddr 5 (.t 7)), none⟩, ⟨(some 20), (.load false 1 (.t 19)), none⟩, ⟨(some 21), (.minI [(.t 18), (.t 20)]), none⟩, ⟨(some 5), (.mov (.t 21)), none⟩]) .skip)))) (.ops [⟨(some 22), (.bin .add (.t 10) (.c (.int .i64 1))), none⟩, ⟨(some 10), (.mov (.t 22)), none⟩]))))))) (.seq (.ops [⟨(some 23), (.mov (.t 5)), none⟩, ⟨(some 4), (.mov (.t 23)), none⟩]) .ret)))), false⟩
theorem e235 : T 235 = some c235 := by kernel_rfl
/- 236: hopmesh/spectrum.active -/
def c236 : Fun1 := ⟨[(.tmp 8)], (.seq (.ops [⟨(some 4), (.box (.t 0)), none⟩, ⟨(some 5), (.box (.t 1)), none⟩, ⟨(some 6), (.box (.t 2)), none⟩, ⟨(some 7), (.box (.t 3)), none⟩, ⟨(some 8), (.mov (.c .nilFn)), none⟩]) (.seq (.ops [⟨(some 9), (.mkfn 242 [(.t 4), (.t 5), (.t 6), (.t 7)]), none⟩, ⟨(some 8), (.mov (.t 9)), none⟩]) .ret)), false⟩
theorem e236 : T 236 = some c236 := by kernel_rfl
/- 237: hopmesh/geometry.At -/
def c237 : Fun1 := ⟨[(.tmp 8), (.tmp 9)], (.seq (.ops [⟨(some 4), (.box (.t 0)), none⟩, ⟨(some 5), (.box (.t 1)), none⟩, ⟨(some 7), (.box (.t 3)), none⟩, ⟨(some 8), (.mov (.c (.int .i64 0))), none⟩, ⟨(some 9), (.mov (.c (.int .i64 0))), none⟩]) (.seq (.block 0 (.seq (.ops [⟨(some 11), (.load true 6 (.t 4)), none⟩, ⟨(some 12), (.call (.c (.fn 181 [])) [(.t 11)]), none⟩, ⟨(some 13), (.bin .neq (.t 12) (.c (.int .i64 0))), none⟩, ⟨(some 10), (.mov (.t 13)), none⟩]) (.cond (.t 10) (.seq (.ops [⟨(some 8), (.mov (.c (.int .i64 0))), none⟩, ⟨(some 9), (.mov (.c (.int .i64 1))), none⟩]) .ret) (.seq (.ops [⟨(some 15), (.load true 2 (.t 5)), none⟩, ⟨(some 16), (.call (.c (.fn 203 [])) [(.t 15)]), none⟩, ⟨(some 17), (.notB (.t 16)), none⟩, ⟨(some 18), (.mov (.t 17)), none⟩, ⟨(some 19), (.load true 2 (.t 7)), (some (18, false))⟩, ⟨(some 20), (.call (.c (.fn 203 [])) [(.t 19)]), (some (18, false))⟩, ⟨(some 21), (.notB (.t 20)), (some (18, false))⟩, ⟨(some 22), (.pick (.t 18) (.c (.bool true)) (.t 21)), none⟩, ⟨(some 23), (.mov (.t 22)), none⟩, ⟨(some 24), (.mov (.t 2)), (some (23, false))⟩, ⟨(some 25), (.call (.c (.fn 206 [])) [(.t 24)]), (some (23, false))⟩, ⟨(some 26), (.notB (.t 25)), (some (23, false))⟩, ⟨(some 27), (.pick (.t 23) (.c (.bool true)) (.t 26)), none⟩, ⟨(some 14), (.mov (.t 27)), none⟩]) (.cond (.t 14) (.seq (.ops [⟨(some 8), (.mov (.c (.int .i64 0))), none⟩, ⟨(some 9), (.mov (.c (.int .i64 2))), none⟩]) .ret) .skip))))) (.seq (.ops [⟨(some 28), (.load true 6 (.t 4)), none⟩, ⟨(some 29), (.load true 2 (.t 5)), none⟩, ⟨(some 30), (.mov (.t 2)), none⟩, ⟨(some 31), (.load true 2 (.t 7)), none⟩, ⟨(some 32), (.call (.c (.fn 244 [])) [(.t 28), (.t 29), (.t 30), (.t 31)]), none⟩, ⟨(some 8), (.mov (.t 32)), none⟩, ⟨(some 9), (.mov (.c (.int .i64 0))), none⟩]) .ret))), false⟩
theorem e237 : T 237 = some c237 := by kernel_rfl
/- 238: slices.swapRangeCmpFunc[int] -/
def c238 : Fun1 := ⟨[], (.seq (.ops [⟨(some 10), (.mov (.c (.int .i64 0))), none⟩]) (.block 0 (.loop ⟨[0, 1, 2, 3, 10], []⟩ (.seq (.seq (.ops [⟨(some 11), (.mov (.t 10)), none⟩, ⟨(some 12), (.mov (.t 3)), none⟩, ⟨(some 13), (.bin .lss (.t 11) (.t 12)), none⟩]) (.cond (.t 13) .skip (.exit 0))) (.seq (.block 1 (.drawn [(⟨(some 16), (.mov (.t 0)), none⟩, ⟨.pure, [], 0, 0⟩), (⟨(some 17), (.mov (.t 1)), none⟩, ⟨.pure, [], 0, 0⟩), (⟨(some 18), (.mov (.t 10)), none⟩, ⟨.pure, [], 0, 0⟩), (⟨(some 19), (.bin .add (.t 17) (.t 18)), none⟩, ⟨.pure, [], 0, 0⟩), (⟨(some 20), (.mov (.t 0)), none⟩, ⟨.pure, [], 0, 0⟩), (⟨(some 21), (.mov (.t 2)), none⟩, ⟨.pure, [], 0, 0⟩), (⟨(some 22), (.mov (.t 10)), none⟩, ⟨.pure, [], 0, 0⟩), (⟨(some 23), (.bin .add (.t 21) (.t 22)), none⟩, ⟨.pure, [], 0, 0⟩), (⟨(some 24), (.mov (.t 0)), none⟩, ⟨.pure, [], 0, 0⟩), (⟨(some 25), (.mov (.t 2)), none⟩, ⟨.pure, [], 0, 0⟩), (⟨(some 26), (.mov (.t 10)), none⟩, ⟨.pure, [], 0, 0⟩), (⟨(some 27), (.bin .add (.t 25) (.t 26)), none⟩, ⟨.pure, [], 0, 0⟩), (⟨(some 28), (.iaddrS 1 (.t 24) (.t 27)), none⟩, ⟨.seg, [], 0, 0⟩), (⟨(some 29), (.load false 1 (.t 28)), none⟩, ⟨.seg, [], 0, 0⟩), (⟨(some 30), (.mov (.t 0)), none⟩, ⟨.pure, [], 0, 0⟩), (⟨(some 31), (.mov (.t 1)), none⟩, ⟨.pure, [], 0, 0⟩), (⟨(some 32), (.mov (.t 10)), none⟩, ⟨.pure, [], 0, 0⟩), (⟨(some 33), (.bin .add (.t 31) (.t 32)), none⟩, ⟨.pure, [], 0, 0⟩), (⟨(some 34), (.iaddrS 1 (.t 30) (.t 33)), none⟩, ⟨.seg, [], 0, 0⟩), (⟨(some 35), (.load false 1 (.t 34)), none⟩, ⟨.seg, [], 0, 0⟩), (⟨(some 36), (.iaddrS 1 (.t 16) (.t 19)), none⟩, ⟨.bar, [], 0, 0⟩), (⟨none, (.store 1 (.t 36) (.t 29)), none⟩, ⟨.bar, [], 0, 0⟩), (⟨(some 37), (.iaddrS 1 (.t 20) (.t 23)), none⟩, ⟨.bar, [], 0, 0⟩), (⟨none, (.store 1 (.t 37) (.t 35)), none⟩, ⟨.bar, [], 0, 0⟩)])) (.ops [⟨(some 14), (.mov (.t 10)), none⟩, ⟨(some 15), (.bin .add (.t 14) (.c (.int .i64 1))), none⟩, ⟨(some 10), (.mov (.t 15)), none⟩])))))), false⟩
theorem e238 : T 238 = some c238 := by kernel_rfl
/- 239: hopmesh/crc.remainders$1 -/
def c239 : Fun1 := ⟨[], (.seq (.ops [⟨(some 4), (.mov (.t 0)), none⟩, ⟨(some 5), (.convI .u16 (.t 4)), none⟩, ⟨(some 6), (.bin .shl (.t 5) (.c (.int .u64 12))), none⟩, ⟨(some 3), (.mov (.t 6)), none⟩]) (.seq (.seq (.ops [⟨(some 7), (.mov (.c (.int .i64 0))), none⟩]) (.block 0 (.loop ⟨[0, 1, 3, 7], []⟩ (.seq (.ops [⟨(some 8), (.bin .lss (.t 7) (.c (.int .i64 4))), none⟩]) (.seq (.cond (.t 8) .skip (.exit 0)) (.seq (.block 1 (.ops [⟨(some 9), (.mov (.t 3)), none⟩, ⟨(some 10), (.call (.c (.fn 240 [])) [(.t 9)]), none⟩, ⟨(some 3), (.mov (.t 10)), none⟩])) (.ops [⟨(some 11), (.bin .add (.t 7) (.c (.int .i64 1))), none⟩, ⟨(some 7), (.mov (.t 11)), none⟩]))))))) (.ops [⟨(some 12), (.mov (.t 0)), none⟩, ⟨(some 13), (.mov (.t 3)), none⟩, ⟨(some 14), (.iaddrA 16 1 (.t 1) (.t 12)), none⟩, ⟨none, (.store 1 (.t 14) (.t 13)), none⟩]))), false⟩
theorem e239 : T 239 = some c239 := by kernel_rfl
/- 240: hopmesh/crc.times -/
def c240 : Fun1 := ⟨[(.tmp 2)], (.seq (.ops [⟨(some 2), (.mov (.c (.int .u16 0))), none⟩]) (.seq (.seq (.ops [⟨(some 3), (.mov (.t 0)), none⟩, ⟨(some 4), (.bin .and (.t 3) (.c (.int .u16 32768))), none⟩, ⟨(some 5), (.bin .neq (.t 4) (.c (.int .u16 0))), none⟩]) (.cond (.t 5) (.seq (.ops [⟨(some 6), (.mov (.t 0)), none⟩, ⟨(some 7), (.bin .shl (.t 6) (.c (.int .u64 1))), none⟩, ⟨(some 8), (.bin .xor (.t 7) (.c (.int .u16 4129))), none⟩, ⟨(some 2), (.mov (.t 8)), none⟩]) .ret) .skip)) (.seq (.ops [⟨(some 9), (.mov (.t 0)), none⟩, ⟨(some 10), (.bin .shl (.t 9) (.c (.int .u64 1))), none⟩, ⟨(some 2), (.mov (.t 10)), none⟩]) .ret))), false⟩
theorem e240 : T 240 = some c240 := by kernel_rfl
/- 241: hopmesh/geometry.between -/
def c241 : Fun1 := ⟨[(.tmp 6)], (.seq (.ops [⟨(some 3), (.box (.t 0)), none⟩, ⟨(some 6), (.mov (.c (.int .i64 0))), none⟩]) (.seq (.seq (.ops [⟨(some 7), (.mov (.t 1)), none⟩, ⟨(some 8), (.mov (.t 2)), none⟩, ⟨(some 9), (.bin .eql (.t 7) (.t 8)), none⟩]) (.cond (.t 9) (.seq (.ops [⟨(some 6), (.mov (.c (.int .i64 0))), none⟩]) .ret) .skip)) (.seq (.drawn [(⟨(some 10), (.load true 6 (.t 3)), none⟩, ⟨.seg, [], 0, 0⟩), (⟨(some 11), (.faddr 0 (.t 3)), none⟩, ⟨.seg, [], 0, 0⟩), (⟨(some 12), (.load false 1 (.t 11)), none⟩, ⟨.seg, [], 0, 0⟩), (⟨(some 13), (.mov (.t 1)), none⟩, ⟨.pure, [], 0, 0⟩), (⟨(some 14), (.iaddrS 2 (.t 12) (.t 13)), none⟩, ⟨.seg, [], 0, 0⟩), (⟨(some 15), (.load true 2 (.t 14)), none⟩, ⟨.seg, [], 0, 0⟩), (⟨(some 16), (.faddr 1 (.t 3)), none⟩, ⟨.seg, [], 0, 0⟩), (⟨(some 17), (.load false 1 (.t 16)), none⟩, ⟨.seg, [], 0, 0⟩), (⟨(some 18), (.mov (.t 1)), none⟩, ⟨.pure, [], 0, 0⟩), (⟨(some 19), (.iaddrS 1 (.t 17) (.t 18)), none⟩, ⟨.seg, [], 0, 0⟩), (⟨(some 20), (.load false 1 (.t 19)), none⟩, ⟨.seg, [], 0, 0⟩), (⟨(some 21), (.faddr 0 (.t 3)), none⟩, ⟨.seg, [], 0, 0⟩), (⟨(some 22), (.load false 1 (.t 21)), none⟩, ⟨.seg, [], 0, 0⟩), (⟨(some 23), (.mov (.t 2)), none⟩, ⟨.pure, [], 0, 0⟩), (⟨(some 24), (.iaddrS 2 (.t 22) (.t 23)), none⟩, ⟨.seg, [], 0, 0⟩), (⟨(some 25), (.load true 2 (.t 24)), none⟩, ⟨.seg, [], 0, 0⟩), (⟨(some 26), (.call (.c (.fn 244 [])) [(.t 10), (.t 15), (.t 20), (.t 25)]), none⟩, ⟨.bar, [], 0, 0⟩), (⟨(some 6), (.mov (.t 26)), none⟩, ⟨.pure, [], 0, 0⟩)]) .ret))), false⟩
theorem e241 : T 241 = some c241 := by kernel_rfl
/- 242: hopmesh/spectrum.active$1 -/
def c242 : Fun1 := ⟨[], (.seq (.ops [⟨(some 8), (.faddr 0 (.t 1)), none⟩, ⟨(some 9), (.load false 1 (.t 8)), none⟩, ⟨(some 10), (.len (.t 9)), none⟩, ⟨(some 11), (.mov (.c (.int .i64 0))), none⟩]) (.block 0 (.loop ⟨[0, 2, 3, 4, 9, 10, 11], []⟩ (.seq (.ops [⟨(some 12), (.bin .lss (.t 11) (.t 10)), none⟩]) (.seq (.cond (.t 12) .skip (.exit 0)) (.seq (.block 1 (.seq (.ops [⟨(some 13), (.iaddrS 7 (.t 9) (.t 11)), none⟩, ⟨(some 14), (.load true 7 (.t 13)), none⟩, ⟨(some 7), (.alloc [(.int .i64 0), (.int .i64 0), (.int .i64 0), (.lst 0 [] true), (.int .i64 0), (.int .i64 0), (.int .i64 0)]), none⟩, ⟨none, (.store 7 (.t 7) (.t 14)), none⟩]) (.seq (.ops [⟨(some 15), (.faddr 3 (.t 7)), none⟩, ⟨(some 16), (.load false 1 (.t 15)), none⟩, ⟨(some 17), (.load false 1 (.t 2)), none⟩, ⟨(some 18), (.call (.c (.fn 26 [])) [(.t 16), (.t 17)]), none⟩, ⟨(some 19), (.mov (.t 18)), none⟩, ⟨(some 20), (.load true 7 (.t 7)), (some (19, true))⟩, ⟨(some 21), (.load false 1 (.t 3)), (some (19, true))⟩, ⟨(some 22), (.load false 1 (.t 4)), (some (19, true))⟩, ⟨(some 23), (.call (.c (.fn 243 [])) [(.t 20), (.t 21), (.t 22)]), (some (19, true))⟩, ⟨(some 24), (.pick (.t 19) (.t 23) (.c (.bool false))), none⟩, ⟨(some 25), (.mov (.t 24)), none⟩, ⟨(some 26), (.mov (.t 0)), (some (25, true))⟩, ⟨(some 27), (.load true 7 (.t 7)), (some (25, true))⟩, ⟨(some 28), (.call (.t 26) [(.t 27)]), (some (25, true))⟩, ⟨(some 29), (.notB (.t 28)), (some (25, true))⟩, ⟨(some 30), (.pick (.t 25) (.t 29) (.c (.bool false))), none⟩]) (.cond (.t 30) .ret .skip)))) (.ops [⟨(some 31), (.bin .add (.t 11) (.c (.int .i64 1))), none⟩, ⟨(some 11), (.mov (.t 31)), none⟩]))))))), false⟩
theorem e242 : T 242 = some c242 := by kernel_rfl
/- 243: hopmesh/spectrum.on -/
def c243 : Fun1 := ⟨[(.tmp 6)], (.seq (.ops [⟨(some 3), (.box (.t 0)), none⟩, ⟨(some 6), (.mov (.c (.bool false))), none⟩]) (.seq (.seq (.ops [⟨(some 9), (.mov (.t 1)), none⟩, ⟨(some 10), (.mov (.t 2)), none⟩, ⟨(some 11), (.bin .eql (.t 9) (.t 10)), none⟩, ⟨(some 12), (.mov (.t 11)), none⟩, ⟨(some 13), (.faddr 5 (.t 3)), (some (12, false))⟩, ⟨(some 14), (.load false 1 (.t 13)), (some (12, false))⟩, ⟨(some 15), (.faddr 6 (.t 3)), (some (12, false))⟩, ⟨(some 16), (.load false 1 (.t 15)), (some (12, false))⟩, ⟨(some 17), (.bin .eql (.t 14) (.t 16)), (some (12, false))⟩, ⟨(some 18), (.pick (.t 12) (.c (.bool true)) (.t 17)), none⟩]) (.cond (.t 18) (.seq (.ops [⟨(some 6), (.mov (.c (.bool false))), none⟩]) .ret) .skip)) (.seq (.ops [⟨(some 19), (.mov (.t 1)), none⟩, ⟨(some 20), (.faddr 4 (.t 3)), none⟩, ⟨(some 21), (.load false 1 (.t 20)), none⟩, ⟨(some 22), (.bin .rem (.t 19) (.t 21)), none⟩, ⟨(some 7), (.mov (.t 22)), none⟩]) (.seq (.ops [⟨(some 23), (.mov (.t 7)), none⟩, ⟨(some 24), (.mov (.t 2)), none⟩, ⟨(some 25), (.bin .add (.t 23) (.t 24)), none⟩, ⟨(some 26), (.mov (.t 1)), none⟩, ⟨(some 27), (.bin .sub (.t 25) (.t 26)), none⟩, ⟨(some 8), (.mov (.t 27)), none⟩]) (.seq (.ops [⟨(some 28), (.mov (.t 7)), none⟩, ⟨(some 29), (.faddr 6 (.t 3)), none⟩, ⟨(some 30), (.load false 1 (.t 29)), none⟩, ⟨(some 31), (.bin .lss (.t 28) (.t 30)), none⟩, ⟨(some 32), (.mov (.t 31)), none⟩, ⟨(some 33), (.faddr 5 (.t 3)), (some (32, true))⟩, ⟨(some 34), (.load false 1 (.t 33)), (some (32, true))⟩, ⟨(some 35), (.mov (.t 8)), (some (32, true))⟩, ⟨(some 36), (.bin .lss (.t 34) (.t 35)), (some (32, true))⟩, ⟨(some 37), (.pick (.t 32) (.t 36) (.c (.bool false))), none⟩, ⟨(some 38), (.mov (.t 37)), none⟩, ⟨(some 39), (.faddr 5 (.t 3)), (some (38, false))⟩, ⟨(some 40), (.load false 1 (.t 39)), (some (38, false))⟩, ⟨(some 41), (.faddr 4 (.t 3)), (some (38, false))⟩, ⟨(some 42), (.load false 1 (.t 41)), (some (38, false))⟩, ⟨(some 43), (.bin .add (.t 40) (.t 42)), (some (38, false))⟩, ⟨(some 44), (.mov (.t 8)), (some (38, false))⟩, ⟨(some 45), (.bin .lss (.t 43) (.t 44)), (some (38, false))⟩, ⟨(some 46), (.pick (.t 38) (.c (.bool true)) (.t 45)), none⟩, ⟨(some 6), (.mov (.t 46)), none⟩]) .ret))))), false⟩
theorem e243 : T 243 = some c243 := by kernel_rfl
/- 244: hopmesh/geometry.at -/
def c244 : Fun1 := ⟨[(.tmp 8)], (.seq (.ops [⟨(some 4), (.box (.t 0)), none⟩, ⟨(some 5), (.box (.t 1)), none⟩, ⟨(some 6), (.box (.t 2)), none⟩, ⟨(some 7), (.box (.t 3)), none⟩, ⟨(some 8), (.mov (.c (.int .i64 0))), none⟩]) (.seq (.ops [⟨(some 11), (.load true 2 (.t 5)), none⟩, ⟨(some 12), (.load true 2 (.t 7)), none⟩, ⟨(some 13), (.call (.c (.fn 245 [])) [(.t 11), (.t 12)]), none⟩, ⟨(some 14), (.maxI [(.t 13), (.c (.int .i64 100))]), none⟩, ⟨(some 9), (.mov (.t 14)), none⟩]) (.seq (.ops [⟨(some 15), (.load false 1 (.t 6)), none⟩, ⟨(some 16), (.bin .mul (.t 15) (.c (.int .i64 100))), none⟩, ⟨(some 17), (.mov (.t 9)), none⟩, ⟨(some 18), (.bin .quo (.t 16) (.t 17)), none⟩, ⟨none, (.store 1 (.t 6) (.t 18)), none⟩]) (.seq (.seq (.ops [⟨(some 19), (.faddr 3 (.t 4)), none⟩, ⟨(some 20), (.load false 1 (.t 19)), none⟩, ⟨(some 21), (.bin .eql (.t 20) (.c (.int .i64 4))), none⟩]) (.cond (.t 21) (.ops [⟨(some 22), (.load false 1 (.t 6)), none⟩, ⟨(some 23), (.bin .mul (.t 22) (.c (.int .i64 100))), none⟩, ⟨(some 24), (.mov (.t 9)), none⟩, ⟨(some 25), (.bin .quo (.t 23) (.t 24)), none⟩, ⟨none, (.store 1 (.t 6) (.t 25)), none⟩]) .skip)) (.seq (.seq (.ops [⟨(some 26), (.load true 6 (.t 4)), none⟩, ⟨(some 27), (.load true 2 (.t 5)), none⟩, ⟨(some 28), (.load true 2 (.t 7)), none⟩, ⟨(some 29), (.call (.c (.fn 246 [])) [(.t 26), (.t 27), (.t 28)]), none⟩]) (.block 0 (.rangeF (.t 29) [30] (.ops [⟨(some 10), (.alloc [(.int .i64 0), (.int .i64 0), (.int .i64 0), (.int .i64 0), (.int .i64 0)]), none⟩, ⟨none, (.store 5 (.t 10) (.t 30)), none⟩]) (.block 1 (.ops [⟨(some 32), (.load false 1 (.t 6)), none⟩, ⟨(some 33), (.faddr 4 (.t 10)), none⟩, ⟨(some 34), (.load false 1 (.t 33)), none⟩, ⟨(some 35), (.call (.c (.fn 217 [])) [(.t 32), (.t 34)]), none⟩, ⟨(some 31), (.mov (.t 35)), none⟩, ⟨(some 36), (.extract (.t 31) 0), none⟩, ⟨(some 37), (.extract (.t 31) 1), none⟩, ⟨none, (.store 1 (.t 6) (.t 36)), none⟩]))))) (.seq (.ops [⟨(some 38), (.load false 1 (.t 6)), none⟩, ⟨(some 8), (.mov (.t 38)), none⟩]) .ret)))))), false⟩
theorem e244 : T 244 = some c244 := by kernel_rfl
/- 245: hopmesh/geometry.Square -/
def c245 : Fun1 := ⟨[(.tmp 4)], (.seq (.ops [⟨(some 2), (.box (.t 0)), none⟩, ⟨(some 3), (.box (.t 1)), none⟩, ⟨(some 4), (.mov (.c (.int .i64 0))), none⟩]) (.seq (.drawn [(⟨(some 7), (.faddr 0 (.t 2)), none⟩, ⟨.seg, [], 0, 0⟩), (⟨(some 8), (.load false 1 (.t 7)), none⟩, ⟨.seg, [], 0, 0⟩), (⟨(some 9), (.faddr 0 (.t 3)), none⟩, ⟨.seg, [], 0, 0⟩), (⟨(some 10), (.load false 1 (.t 9)), none⟩, ⟨.seg, [], 0, 0⟩), (⟨(some 11), (.bin .sub (.t 8) (.t 10)), none⟩, ⟨.pure, [], 0, 0⟩), (⟨(some 12), (.faddr 1 (.t 2)), none⟩, ⟨.seg, [], 0, 0⟩), (⟨(some 13), (.load false 1 (.t 12)), none⟩, ⟨.seg, [], 0, 0⟩), (⟨(some 14), (.faddr 1 (.t 3)), none⟩, ⟨.seg, [], 0, 0⟩), (⟨(some 15), (.load false 1 (.t 14)), none⟩, ⟨.seg, [], 0, 0⟩), (⟨(some 16), (.bin .sub (.t 13) (.t 15)), none⟩, ⟨.pure, [], 0, 0⟩), (⟨(some 5), (.mov (.t 11)), none⟩, ⟨.pure, [], 0, 0⟩), (⟨(some 6), (.mov (.t 16)), none⟩, ⟨.pure, [], 0, 0⟩)]) (.seq (.ops [⟨(some 17), (.mov (.t 5)), none⟩, ⟨(some 18), (.mov (.t 5)), none⟩, ⟨(some 19), (.bin .mul (.t 17) (.t 18)), none⟩, ⟨(some 20), (.mov (.t 6)), none⟩, ⟨(some 21), (.mov (.t 6)), none⟩, ⟨(some 22), (.bin .mul (.t 20) (.t 21)), none⟩, ⟨(some 23), (.bin .add (.t 19) (.t 22)), none⟩, ⟨(some 4), (.mov (.t 23)), none⟩]) .ret))), false⟩
theorem e245 : T 245 = some c245 := by kernel_rfl
/- 246: hopmesh/geometry.crossed -/
def c246 : Fun1 := ⟨[(.tmp 6)], (.seq (.ops [⟨(some 3), (.box (.t 0)), none⟩, ⟨(some 4), (.box (.t 1)), none⟩, ⟨(some 5), (.box (.t 2)), none⟩, ⟨(some 6), (.mov (.c .nilFn)), none⟩]) (.seq (.ops [⟨(some 7), (.mkfn 247 [(.t 3), (.t 4), (.t 5)]), none⟩, ⟨(some 6), (.mov (.t 7)), none⟩]) .ret)), true⟩
theorem e246 : T 246 = some c246 := by kernel_rfl
/- 247: hopmesh/geometry.crossed$1 -/
def c247 : Fun1 := ⟨[], (.seq (.ops [⟨(some 7), (.faddr 2 (.t 1)), none⟩, ⟨(some 8), (.load false 1 (.t 7)), none⟩, ⟨(some 9), (.len (.t 8)), none⟩, ⟨(some 10), (.mov (.c (.int .i64 0))), none⟩]) (.block 0 (.loop ⟨[0, 2, 3, 8, 9, 10], []⟩ (.seq (.ops [⟨(some 11), (.bin .lss (.t 10) (.t 9)), none⟩]) (.seq (.cond (.t 11) .skip (.exit 0)) (.seq (.block 1 (.seq (.ops [⟨(some 12), (.iaddrS 5 (.t 8) (.t 10)), none⟩, ⟨(some 13), (.load true 5 (.t 12)), none⟩, ⟨(some 6), (.alloc [(.int .i64 0), (.int .i64 0), (.int .i64 0), (.int .i64 0), (.int .i64 0)]), none⟩, ⟨none, (.store 5 (.t 6) (.t 13)), none⟩]) (.seq (.ops [⟨(some 14), (.load true 2 (.t 2)), none⟩, ⟨(some 15), (.load true 2 (.t 3)), none⟩, ⟨(some 16), (.load true 5 (.t 6)), none⟩, ⟨(some 17), (.call (.c (.fn 248 [])) [(.t 14), (.t 15), (.t 16)]), none⟩, ⟨(some 18), (.mov (.t 17)), none⟩, ⟨(some 19), (.mov (.t 0)), (some (18, true))⟩, ⟨(some 20), (.load true 5 (.t 6)), (some (18, true))⟩, ⟨(some 21), (.call (.t 19) [(.t 20)]), (some (18, true))⟩, ⟨(some 22), (.notB (.t 21)), (some (18, true))⟩, ⟨(some 23), (.pick (.t 18) (.t 22) (.c (.bool false))), none⟩]) (.cond (.t 23) .ret .skip)))) (.ops [⟨(some 24), (.bin .add (.t 10) (.c (.int .i64 1))), none⟩, ⟨(some 10), (.mov (.t 24)), none⟩]))))))), false⟩
theorem e247 : T 247 = some c247 := by kernel_rfl
/- 248: hopmesh/geometry.Crosses -/
def c248 : Fun1 := ⟨[(.tmp 6)], (.seq (.ops [⟨(some 3), (.box (.t 0)), none⟩, ⟨(some 4), (.box (.t 1)), none⟩, ⟨(some 5), (.box (.t 2)), none⟩, ⟨(some 6), (.mov (.c (.bool false))), none⟩]) (.seq (.seq (.ops [⟨(some 7), (.faddr 0 (.t 5)), none⟩, ⟨(some 8), (.load true 2 (.t 7)), none⟩, ⟨(some 9), (.load true 2 (.t 3)), none⟩, ⟨(some 10), (.load true 2 (.t 4)), none⟩, ⟨(some 11), (.call (.c (.fn 249 [])) [(.t 8), (.t 9), (.t 10)]), none⟩, ⟨(some 12), (.mov (.t 11)), none⟩, ⟨(some 13), (.faddr 2 (.t 5)), (some (12, false))⟩, ⟨(some 14), (.load true 2 (.t 13)), (some (12, false))⟩, ⟨(some 15), (.load true 2 (.t 3)), (some (12, false))⟩, ⟨(some 16), (.load true 2 (.t 4)), (some (12, false))⟩, ⟨(some 17), (.call (.c (.fn 249 [])) [(.t 14), (.t 15), (.t 16)]), (some (12, false))⟩, ⟨(some 18), (.pick (.t 12) (.c (.bool true)) (.t 17)), none⟩, ⟨(some 19), (.mov (.t 18)), none⟩, ⟨(some 20), (.load true 2 (.t 3)), (some (19, false))⟩, ⟨(some 21), (.faddr 0 (.t 5)), (some (19, false))⟩, ⟨(some 22), (.load true 2 (.t 21)), (some (19, false))⟩, ⟨(some 23), (.faddr 2 (.t 5)), (some (19, false))⟩, ⟨(some 24), (.load true 2 (.t 23)), (some (19, false))⟩, ⟨(some 25), (.call (.c (.fn 249 [])) [(.t 20), (.t 22), (.t 24)]), (some (19, false))⟩, ⟨(some 26), (.pick (.t 19) (.c (.bool true)) (.t 25)), none⟩, ⟨(some 27), (.mov (.t 26)), none⟩, ⟨(some 28), (.load true 2 (.t 4)), (some (27, false))⟩, ⟨(some 29), (.faddr 0 (.t 5)), (some (27, false))⟩, ⟨(some 30), (.load true 2 (.t 29)), (some (27, false))⟩, ⟨(some 31), (.faddr 2 (.t 5)), (some (27, false))⟩, ⟨(some 32), (.load true 2 (.t 31)), (some (27, false))⟩, ⟨(some 33), (.call (.c (.fn 249 [])) [(.t 28), (.t 30), (.t 32)]), (some (27, false))⟩, ⟨(some 34), (.pick (.t 27) (.c (.bool true)) (.t 33)), none⟩]) (.cond (.t 34) (.seq (.ops [⟨(some 6), (.mov (.c (.bool true))), none⟩]) .ret) .skip)) (.seq (.drawn [(⟨(some 35), (.load true 2 (.t 3)), none⟩, ⟨.seg, [], 0, 0⟩), (⟨(some 36), (.load true 2 (.t 4)), none⟩, ⟨.seg, [], 0, 0⟩), (⟨(some 37), (.faddr 0 (.t 5)), none⟩, ⟨.seg, [], 0, 0⟩), (⟨(some 38), (.load true 2 (.t 37)), none⟩, ⟨.seg, [], 0, 0⟩), (⟨(some 39), (.call (.c (.fn 250 [])) [(.t 35), (.t 36), (.t 38)]), none⟩, ⟨.seg, [], 0, 0⟩), (⟨(some 40), (.load true 2 (.t 3)), none⟩, ⟨.seg, [], 0, 0⟩), (⟨(some 41), (.load true 2 (.t 4)), none⟩, ⟨.seg, [], 0, 0⟩), (⟨(some 42), (.faddr 2 (.t 5)), none⟩, ⟨.seg, [], 0, 0⟩), (⟨(some 43), (.load true 2 (.t 42)), none⟩, ⟨.seg, [], 0, 0⟩), (⟨(some 44), (.call (.c (.fn 250 [])) [(.t 40), (.t 41), (.t 43)]), none⟩, ⟨.bar, [], 0, 0⟩), (⟨(some 45), (.bin .mul (.t 39) (.t 44)), none⟩, ⟨.pure, [], 0, 0⟩), (⟨(some 46), (.bin .lss (.t 45) (.c (.int .i64 0))), none⟩, ⟨.pure, [], 0, 0⟩), (⟨(some 47), (.mov (.t 46)), none⟩, ⟨.pure, [], 0, 0⟩), (⟨(some 48), (.faddr 0 (.t 5)), (some (47, true))⟩, ⟨.seg, [], 0, 0⟩), (⟨(some 49), (.load true 2 (.t 48)), (some (47, true))⟩, ⟨.seg, [], 0, 0⟩), (⟨(some 50), (.faddr 2 (.t 5)), (some (47, true))⟩, ⟨.seg, [], 0, 0⟩), (⟨(some 51), (.load true 2 (.t 50)), (some (47, true))⟩, ⟨.seg, [], 0, 0⟩), (⟨(some 52), (.load true 2 (.t 3)), (some (47, true))⟩, ⟨.seg, [], 0, 0⟩), (⟨(some 53), (.call (.c (.fn 250 [])) [(.t 49), (.t 51), (.t 52)]), (some (47, true))⟩, ⟨.seg, [], 0, 0⟩), (⟨(some 54), (.faddr 0 (.t 5)), (some (47, true))⟩, ⟨.seg, [], 0, 0⟩), (⟨(some 55), (.load true 2 (.t 54)), (some (47, true))⟩, ⟨.seg, [], 0, 0⟩), (⟨(some 56), (.faddr 2 (.t 5)), (some (47, true))⟩, ⟨.seg, [], 0, 0⟩), (⟨(some 57), (.load true 2 (.t 56)), (some (47, true))⟩, ⟨.seg, [], 0, 0⟩), (⟨(some 58), (.load true 2 (.t 4)), (some (47, true))⟩, ⟨.seg, [], 0, 0⟩), (⟨(some 59), (.call (.c (.fn 250 [])) [(.t 55), (.t 57), (.t 58)]), (some (47, true))⟩, ⟨.bar, [], 0, 0⟩), (⟨(some 60), (.bin .mul (.t 53) (.t 59)), (some (47, true))⟩, ⟨.pure, [], 0, 0⟩), (⟨(some 61), (.bin .lss (.t 60) (.c (.int .i64 0))), (some (47, true))⟩, ⟨.pure, [], 0, 0⟩), (⟨(some 62), (.pick (.t 47) (.t 61) (.c (.bool false))), none⟩, ⟨.pure, [], 0, 0⟩), (⟨(some 6), (.mov (.t 62)), none⟩, ⟨.pure, [], 0, 0⟩)]) .ret))), false⟩
theorem e248 : T 248 = some c248 := by kernel_rfl
/- 249: hopmesh/geometry.on -/
def c249 : Fun1 := ⟨[(.tmp 6)], (.seq (.ops [⟨(some 3), (.box (.t 0)), none⟩, ⟨(some 4), (.box (.t 1)), none⟩, ⟨(some 5), (.box (.t 2)), none⟩, ⟨(some 6), (.mov (.c (.bool false))), none⟩]) (.seq (.ops [⟨(some 7), (.load true 2 (.t 3)), none⟩, ⟨(some 8), (.load true 2 (.t 4)), none⟩, ⟨(some 9), (.eqAgg false [.i, .i] (.t 7) (.t 8)), none⟩, ⟨(some 10), (.mov (.t 9)), none⟩, ⟨(some 11), (.load true 2 (.t 3)), (some (10, false))⟩, ⟨(some 12), (.load true 2 (.t 5)), (some (10, false))⟩, ⟨(some 13), (.eqAgg false [.i, .i] (.t 11) (.t 12)), (some (10, false))⟩, ⟨(some 14), (.pick (.t 10) (.c (.bool true)) (.t 13)), none⟩, ⟨(some 15), (.mov (.t 14)), none⟩, ⟨(some 16), (.load true 2 (.t 4)), (some (15, false))⟩, ⟨(some 17), (.load true 2 (.t 5)), (some (15, false))⟩, ⟨(some 18), (.load true 2 (.t 3)), (some (15, false))⟩, ⟨(some 19), (.call (.c (.fn 250 [])) [(.t 16), (.t 17), (.t 18)]), (some (15, false))⟩, ⟨(some 20), (.bin .eql (.t 19) (.c (.int .i64 0))), (some (15, false))⟩, ⟨(some 21), (.mov (.t 20)), (some (15, false))⟩, ⟨(some 22), (.load true 2 (.t 3)), (some (21, true))⟩, ⟨(some 23), (.load true 2 (.t 4)), (some (21, true))⟩, ⟨(some 24), (.load true 2 (.t 5)), (some (21, true))⟩, ⟨(some 25), (.call (.c (.fn 251 [])) [(.t 22), (.t 23), (.t 24)]), (some (21, true))⟩, ⟨(some 26), (.pick (.t 21) (.t 25) (.c (.bool false))), (some (15, false))⟩, ⟨(some 27), (.pick (.t 15) (.c (.bool true)) (.t 26)), none⟩, ⟨(some 6), (.mov (.t 27)), none⟩]) .ret)), false⟩
theorem e249 : T 249 = some c249 := by kernel_rfl
/- 250: hopmesh/geometry.turn -/
def c250 : Fun1 := ⟨[(.tmp 6)], (.seq (.ops [⟨(some 3), (.box (.t 0)), none⟩, ⟨(some 4), (.box (.t 1)), none⟩, ⟨(some 5), (.box (.t 2)), none⟩, ⟨(some 6), (.mov (.c (.int .i64 0))), none⟩]) (.seq (.ops [⟨(some 7), (.faddr 0 (.t 4)), none⟩, ⟨(some 8), (.load false 1 (.t 7)), none⟩, ⟨(some 9), (.faddr 0 (.t 3)), none⟩, ⟨(some 10), (.load false 1 (.t 9)), none⟩, ⟨(some 11), (.bin .sub (.t 8) (.t 10)), none⟩, ⟨(some 12), (.faddr 1 (.t 5)), none⟩, ⟨(some 13), (.load false 1 (.t 12)), none⟩, ⟨(some 14), (.faddr 1 (.t 3)), none⟩, ⟨(some 15), (.load false 1 (.t 14)), none⟩, ⟨(some 16), (.bin .sub (.t 13) (.t 15)), none⟩, ⟨(some 17), (.bin .mul (.t 11) (.t 16)), none⟩, ⟨(some 18), (.faddr 1 (.t 4)), none⟩, ⟨(some 19), (.load false 1 (.t 18)), none⟩, ⟨(some 20), (.faddr 1 (.t 3)), none⟩, ⟨(some 21), (.load false 1 (.t 20)), none⟩, ⟨(some 22), (.bin .sub (.t 19) (.t 21)), none⟩, ⟨(some 23), (.faddr 0 (.t 5)), none⟩, ⟨(some 24), (.load false 1 (.t 23)), none⟩, ⟨(some 25), (.faddr 0 (.t 3)), none⟩, ⟨(some 26), (.load false 1 (.t 25)), none⟩, ⟨(some 27), (.bin .sub (.t 24) (.t 26)), none⟩, ⟨(some 28), (.bin .mul (.t 22) (.t 27)), none⟩, ⟨(some 29), (.call (.c (.fn 163 [])) [(.t 17), (.t 28)]), none⟩, ⟨(some 6), (.mov (.t 29)), none⟩]) .ret)), false⟩
theorem e250 : T 250 = some c250 := by kernel_rfl
/- 251: hopmesh/geometry.within -/
def c251 : Fun1 := ⟨[(.tmp 6)], (.seq (.ops [⟨(some 3), (.box (.t 0)), none⟩, ⟨(some 4), (.box (.t 1)), none⟩, ⟨(some 5), (.box (.t 2)), none⟩, ⟨(some 6), (.mov (.c (.bool false))), none⟩]) (.seq (.ops [⟨(some 7), (.faddr 0 (.t 3)), none⟩, ⟨(some 8), (.load false 1 (.t 7)), none⟩, ⟨(some 9), (.faddr 0 (.t 4)), none⟩, ⟨(some 10), (.load false 1 (.t 9)), none⟩, ⟨(some 11), (.faddr 0 (.t 5)), none⟩, ⟨(some 12), (.load false 1 (.t 11)), none⟩, ⟨(some 13), (.minI [(.t 10), (.t 12)]), none⟩, ⟨(some 14), (.bin .geq (.t 8) (.t 13)), none⟩, ⟨(some 15), (.mov (.t 14)), none⟩, ⟨(some 16), (.faddr 0 (.t 3)), (some (15, true))⟩, ⟨(some 17), (.load false 1 (.t 16)), (some (15, true))⟩, ⟨(some 18), (.faddr 0 (.t 4)), (some (15, true))⟩, ⟨(some 19), (.load false 1 (.t 18)), (some (15, true))⟩, ⟨(some 20), (.faddr 0 (.t 5)), (some (15, true))⟩, ⟨(some 21), (.load false 1 (.t 20)), (some (15, true))⟩, ⟨(some 22), (.maxI [(.t 19), (.t 21)]), (some (15, true))⟩, ⟨(some 23), (.bin .leq (.t 17) (.t 22)), (some (15, true))⟩, ⟨(some 24), (.pick (.t 15) (.t 23) (.c (.bool false))), none⟩, ⟨(some 25), (.mov (.t 24)), none⟩, ⟨(some 26), (.faddr 1 (.t 3)), (some (25, true))⟩, ⟨(some 27), (.load false 1 (.t 26)), (some (25, true))⟩, ⟨(some 28), (.faddr 1 (.t 4)), (some (25, true))⟩, ⟨(some 29), (.load false 1 (.t 28)), (some (25, true))⟩, ⟨(some 30), (.faddr 1 (.t 5)), (some (25, true))⟩, ⟨(some 31), (.load false 1 (.t 30)), (some (25, true))⟩, ⟨(some 32), (.minI [(.t 29), (.t 31)]), (some (25, true))⟩, ⟨(some 33), (.bin .geq (.t 27) (.t 32)), (some (25, true))⟩, ⟨(some 34), (.pick (.t 25) (.t 33) (.c (.bool false))), none⟩, ⟨(some 35), (.mov (.t 34)), none⟩, ⟨(some 36), (.faddr 1 (.t 3)), (some (35, true))⟩, ⟨(some 37), (.load false 1 (.t 36)), (some (35, true))⟩, ⟨(some 38), (.faddr 1 (.t 4)), (some (35, true))⟩, ⟨(some 39), (.load false 1 (.t 38)), (some (35, true))⟩, ⟨(some 40), (.faddr 1 (.t 5)), (some (35, true))⟩, ⟨(some 41), (.load false 1 (.t 40)), (some (35, true))⟩, ⟨(some 42), (.maxI [(.t 39), (.t 41)]), (some (35, true))⟩, ⟨(some 43), (.bin .leq (.t 37) (.t 42)), (some (35, true))⟩, ⟨(some 44), (.pick (.t 35) (.t 43) (.c (.bool false))), none⟩, ⟨(some 6), (.mov (.t 44)), none⟩]) .ret)), false⟩
theorem e251 : T 251 = some c251 := by kernel_rfl
end Go.Sh
namespace Go.Sh
set_option linter.unusedSectionVars false
set_option linter.unnecessarySimpa false
set_option linter.unusedVariables false
set_option linter.unusedSimpArgs false
set_option maxRecDepth 100000
set_option maxHeartbeats 4000000
theorem s6 (H : Heap) : call1 T 60 (.fn 6) [] H = some (.bool true, H) := pure_any e6 (by rfl) (callB_up (T := T) 100 60 (.fn 6) [] heap0 (.bool true, heap0) (by kernel_rfl))
end Go.Sh
namespace Go.Sh
set_option linter.unusedSectionVars false
set_option linter.unnecessarySimpa false
set_option linter.unusedVariables false
set_option linter.unusedSimpArgs false
set_option maxRecDepth 100000
set_option maxHeartbeats 4000000
namespace H11
theorem x36 : T 67 = some stdIdx := e67
theorem x13 : T 26 = some (stdCon 67) := e26
theorem x15 : T 8 = some (stdClone 1 8 [.int .i64 0]) := e8
theorem x51 : T 111 = some (stdIdxF false 1) := e111
theorem x47 : T 23 = some (stdIdxF true 4) := e23
theorem x38 : T 59 = some (stdCF 111) := e59
theorem x41 : T 62 = some (stdDel 111) := e62
theorem lvI {bl : List SBlk} {C : List Int} {f : Bool} : LV bl 1 (iS C) (.lst 1 (iS C) f) := .lst 1 f (.inl rfl)
def chanB (c : Int) : Bool := decide (0 ≤ c) && decide (c < 16)
theorem s61 (n : Nat) (H : Heap) (c : Int) : call1 T (n + 1) (.fn 61) [.int .i64 c] H = some (.bool (chanB c), H) := by
  refine call_pure e61 (by rfl) ?_
  simp only [c61, heap0, go_sem, Int.cast_ofNat_Int, Int.reduceToNat, Bool.true_xor, Bool.false_xor, Bool.xor_true, Bool.xor_false, Nat.reduceAdd, Nat.reduceBEq, Nat.reduceLeDiff, Nat.reduceLT, Nat.reduceMul, Nat.reduceSub, Int.reduceEq, Int.reduceLT, Int.reduceLE, Int.reduceNeg]
  repeat' (with_reducible refine fork_split (fun _ => ?_) (fun _ => ?_) <;> simp only [*, go_sem, Int.cast_ofNat_Int, Int.reduceToNat, Bool.true_xor, Bool.false_xor, Bool.xor_true, Bool.xor_false, Nat.reduceAdd, Nat.reduceBEq, Nat.reduceLeDiff, Nat.reduceLT, Nat.reduceMul, Nat.reduceSub, Int.reduceEq, Int.reduceLT, Int.reduceLE, Int.reduceNeg])
  all_goals (simp only [chanB]; refine congrArg some (congrArg SV.bool ?_); rw [Bool.eq_iff_iff]; grind)
def badAt (C : List Int) (i : Nat) : Bool := match C[i]? with
  | some c => !chanB c || decide (c ∈ C.take i)
  | none => false
theorem badAt_some {C : List Int} {i : Nat} {c : Int} (h : C[i]? = some c) : badAt C i = (!chanB c || decide (c ∈ C.take i)) := by simp [badAt, h]
def difB (C : List Int) : Bool := !((List.range C.length).any (badAt C)) && decide (0 < C.length)
theorem difB_bad {C : List Int} {i : Nat} {c : Int} (h : C[i]? = some c) (hb : badAt C i = true) : difB C = false := by
  have : (List.range C.length).any (badAt C) = true := List.any_eq_true.2 ⟨i, List.mem_range.2 (List.getElem?_eq_some_iff.1 h).1, hb⟩
  simp [difB, this]
theorem difB_good {C : List Int} (h : ∀ j, j < C.length → badAt C j = false) : difB C = decide (0 < C.length) := by
  have : (List.range C.length).any (badAt C) = false := by
    rw [List.any_eq_false]
    intro j hj
    rw [h j (List.mem_range.1 hj)]; simp
  simp [difB, this]
theorem s53 (n : Nat) (H : Heap) (C : List Int) (f : Bool) (hC : C.length ≤ maxLen) : call1 T (n + 3) (.fn 53) [.lst 1 (iS C) f] H = some (.bool (difB C), H) := by
  refine call_pure e53 (by rfl) ?_
  simp only [c53, heap0, go_sem, Int.cast_ofNat_Int, Int.reduceToNat, Bool.true_xor, Bool.false_xor, Bool.xor_true, Bool.xor_false, Nat.reduceAdd, Nat.reduceBEq, Nat.reduceLeDiff, Nat.reduceLT, Nat.reduceMul, Nat.reduceSub, Int.reduceEq, Int.reduceLT, Int.reduceLE, Int.reduceNeg]
  refine loop_rule (fun i => ([(0, .lst 1 (iS C) f), (5, .lst 1 (iS C) f), (6, .int .i64 C.length), (7, .int .i64 i)], ⟨[], [], 0⟩)) (fun i => ∀ (j : Nat), j < i → badAt C j = false) C.length ?_ (fun j h => by omega) ?_
  · simp only [go_sem, Int.cast_ofNat_Int, Int.reduceToNat, Bool.true_xor, Bool.false_xor, Bool.xor_true, Bool.xor_false, Nat.reduceAdd, Nat.reduceBEq, Nat.reduceLeDiff, Nat.reduceLT, Nat.reduceMul, Nat.reduceSub, Int.reduceEq, Int.reduceLT, Int.reduceLE, Int.reduceNeg] <;> rfl
  · intro i hi hP
    rcases Nat.lt_or_ge i C.length with hlt | hge
    · obtain ⟨c, hc⟩ := getS hlt
      have hw := w64_suc hlt hC
      have hb := badAt_some hc
      have hle : decide ((i : Int) ≤ (C.length : Int)) = true := decide_eq_true (by omega)
      have h13 := fun H => stdCon_ok (n := n) (H := H) (v := .lst 1 (iS (C.take i)) (f && i == C.length)) (M := C.take i) (x := c) x13 x36 (lvI) (by simp; omega)
      cases hx : chanB c with
      | false =>
        simp only [go_sem, Int.cast_ofNat_Int, Int.reduceToNat, Bool.true_xor, Bool.false_xor, Bool.xor_true, Bool.xor_false, Nat.reduceAdd, Nat.reduceBEq, Nat.reduceLeDiff, Nat.reduceLT, Nat.reduceMul, Nat.reduceSub, Int.reduceEq, Int.reduceLT, Int.reduceLE, Int.reduceNeg, hlt, hc, s61, hx]
        rw [difB_bad hc (by rw [hb, hx]; rfl)]
      | true =>
        simp only [go_sem, Int.cast_ofNat_Int, Int.reduceToNat, Bool.true_xor, Bool.false_xor, Bool.xor_true, Bool.xor_false, Nat.reduceAdd, Nat.reduceBEq, Nat.reduceLeDiff, Nat.reduceLT, Nat.reduceMul, Nat.reduceSub, Int.reduceEq, Int.reduceLT, Int.reduceLE, Int.reduceNeg, hlt, hc, s61, hx, hle, iS_take, h13]
        cases hm : decide (c ∈ C.take i) with
        | true =>
          simp only [go_sem, Int.cast_ofNat_Int, Int.reduceToNat, Bool.true_xor, Bool.false_xor, Bool.xor_true, Bool.xor_false, Nat.reduceAdd, Nat.reduceBEq, Nat.reduceLeDiff, Nat.reduceLT, Nat.reduceMul, Nat.reduceSub, Int.reduceEq, Int.reduceLT, Int.reduceLE, Int.reduceNeg]
          rw [difB_bad hc (by rw [hb, hm]; simp)]
        | false =>
          simp only [go_sem, Int.cast_ofNat_Int, Int.reduceToNat, Bool.true_xor, Bool.false_xor, Bool.xor_true, Bool.xor_false, Nat.reduceAdd, Nat.reduceBEq, Nat.reduceLeDiff, Nat.reduceLT, Nat.reduceMul, Nat.reduceSub, Int.reduceEq, Int.reduceLT, Int.reduceLE, Int.reduceNeg, hw]
          refine ⟨by first | trivial | omega, by first | trivial | rfl, ?_⟩
          intro j hj
          rcases Nat.lt_or_ge j i with h3 | h3
          · exact hP j h3
          · have : j = i := by omega
            subst this
            rw [hb, hx, hm]; rfl
    · have hlt : ¬ i < C.length := by omega
      have hd := difB_good (C := C) (fun j hj => hP j (by omega))
      simp only [go_sem, Int.cast_ofNat_Int, Int.reduceToNat, Bool.true_xor, Bool.false_xor, Bool.xor_true, Bool.xor_false, Nat.reduceAdd, Nat.reduceBEq, Nat.reduceLeDiff, Nat.reduceLT, Nat.reduceMul, Nat.reduceSub, Int.reduceEq, Int.reduceLT, Int.reduceLE, Int.reduceNeg, hlt, hd]
      refine congrArg some (congrArg SV.bool ?_)
      rw [Bool.eq_iff_iff, decide_eq_true_eq, decide_eq_true_eq]; omega
abbrev hl (v a b : Int) (z : Nat) (C : List Int) (f : Bool) : SV := .agg [.int .i64 v, .int .i64 a, .int .i64 b, .lst z (iS C) f]
def okH (v a b : Int) (C : List Int) : Bool := decide (0 ≤ v) && decide (v ≤ 255) && decide (0 ≤ a) && decide (a < b) && decide (b ≤ 109951163) && difB C
def ckH (v a b : Int) (C : List Int) : Int := bif okH v a b C then 0 else 1
theorem ckH_yes {v a b : Int} {C : List Int} (h : okH v a b C = true) : ckH v a b C = 0 := by simp [ckH, h]
theorem ckH_no {v a b : Int} {C : List Int} (h : okH v a b C = false) : ckH v a b C = 1 := by simp [ckH, h]
theorem s15 (n : Nat) (H : Heap) (v a b : Int) (C : List Int) (f : Bool) (hC : C.length ≤ maxLen) : call1 T (n + 4) (.fn 15) [hl v a b 1 C f] H = some (.int .i64 (ckH v a b C), H) := by
  refine call_pure e15 (by rfl) ?_
  have h37 := fun H => s53 n H C f hC
  simp only [c15, heap0, go_sem, Int.cast_ofNat_Int, Int.reduceToNat, Bool.true_xor, Bool.false_xor, Bool.xor_true, Bool.xor_false, Nat.reduceAdd, Nat.reduceBEq, Nat.reduceLeDiff, Nat.reduceLT, Nat.reduceMul, Nat.reduceSub, Int.reduceEq, Int.reduceLT, Int.reduceLE, Int.reduceNeg, h37]
  repeat' (with_reducible refine fork_split (fun _ => ?_) (fun _ => ?_) <;> simp only [*, go_sem, Int.cast_ofNat_Int, Int.reduceToNat, Bool.true_xor, Bool.false_xor, Bool.xor_true, Bool.xor_false, Nat.reduceAdd, Nat.reduceBEq, Nat.reduceLeDiff, Nat.reduceLT, Nat.reduceMul, Nat.reduceSub, Int.reduceEq, Int.reduceLT, Int.reduceLE, Int.reduceNeg, h37])
  all_goals
    clear h37
    refine congrArg some (congrArg (SV.int .i64) ?_)
    simp only [ckH]
    generalize hq : okH v a b C = q
    simp only [okH] at hq
    generalize difB C = D at *
    cases q <;> simp only [cond_true, cond_false] <;> grind
def smB (v a b : Int) (C : List Int) (v' a' b' : Int) (C' : List Int) : Bool := decide (v = v') && decide (a = a') && decide (b = b') && decide (C = C')
def newB (a b : Int) : Bool := decide (0 ≤ a) && decide (a ≤ 255) && decide (0 ≤ b) && decide (b ≤ 255) && decide (1 ≤ (a - b) % 256) && decide ((a - b) % 256 ≤ 127)
theorem w8 (x : Int) : IntKind.wrap .u8 x = x % 256 := by
  simp [IntKind.wrap, IntKind.bits, IntKind.signed]
def chnA (C : List Int) (s o : Int) : Int := C.getD ((s + o) % (C.length : Int)).toNat 0
def chE (v a b : Int) (C : List Int) (s o : Int) : Int := bif okH v a b C then (bif decide (a ≤ s) && decide (s < b) then (bif decide (0 ≤ o) && decide (o < (C.length : Int)) then 0 else 2) else 12) else 1
def chV (v a b : Int) (C : List Int) (s o : Int) : Int := bif decide (chE v a b C s o = 0) then chnA C s o else 0
theorem okH_spec {v a b : Int} {C : List Int} (h : okH v a b C = true) : (0 ≤ v ∧ v ≤ 255) ∧ 0 ≤ a ∧ a < b ∧ b ≤ 109951163 ∧ difB C = true := by
  simp only [okH, Bool.and_eq_true, decide_eq_true_eq] at h
  exact ⟨⟨h.1.1.1.1.1, h.1.1.1.1.2⟩, h.1.1.1.2, h.1.1.2, h.1.2, h.2⟩
theorem difB_pos {C : List Int} (h : difB C = true) : 0 < C.length := by
  simp only [difB, Bool.and_eq_true, decide_eq_true_eq] at h
  exact h.2
theorem chE_ok {v a b : Int} {C : List Int} {s o : Int} : chE v a b C s o = 0 ↔ okH v a b C = true ∧ (a ≤ s ∧ s < b) ∧ 0 ≤ o ∧ o < (C.length : Int) := by
  unfold chE
  cases okH v a b C with
  | false => simp
  | true =>
    simp only [cond_true, true_and]
    by_cases h1 : a ≤ s ∧ s < b
    · have : (decide (a ≤ s) && decide (s < b)) = true := by simp [h1]
      rw [this]
      simp only [cond_true, h1, true_and, and_self]
      by_cases h2 : 0 ≤ o ∧ o < (C.length : Int)
      · have : (decide (0 ≤ o) && decide (o < (C.length : Int))) = true := by simp [h2]
        rw [this]; simp [h2]
      · have : (decide (0 ≤ o) && decide (o < (C.length : Int))) = false := by
          rw [Bool.and_eq_false_iff]; simp only [decide_eq_false_iff_not]; omega
        rw [this]; simp only [cond_false, h2, iff_false]; omega
    · have : (decide (a ≤ s) && decide (s < b)) = false := by
        rw [Bool.and_eq_false_iff]; simp only [decide_eq_false_iff_not]; omega
      rw [this]; simp only [cond_false, h1, false_and, iff_false]; omega
def meE (v a b : Int) (C : List Int) (s x y : Int) : Int := bif decide (chE v a b C s x = 0) then chE v a b C s y else chE v a b C s x
def meB (v a b : Int) (C : List Int) (s x y : Int) : Bool := decide (meE v a b C s x y = 0) && decide (chV v a b C s x = chV v a b C s y)
theorem s66 (n : Nat) (bl es ro) (C : List Int) (f : Bool) (x : Int) : call1 T (n + 1) (.kfn 66) [.lst 1 (iS C) f, .int .i64 x] ⟨bl, es, ro⟩ =
    some (.fn 112 [.ptr bl.length 0 0 0, .ptr (bl.length + 1) 0 0 0], ⟨bl ++ [.box [.lst 1 (iS C) f], .box [.int .i64 x]], es, ro⟩) := by
  refine kcall_in e66 ?_
  simp only [c66, go_sem, Int.cast_ofNat_Int, Int.reduceToNat, Bool.true_xor, Bool.false_xor, Bool.xor_true, Bool.xor_false, Nat.reduceAdd, Nat.reduceBEq, Nat.reduceLeDiff, Nat.reduceLT, Nat.reduceMul, Nat.reduceSub, Int.reduceEq, Int.reduceLT, Int.reduceLE, Int.reduceNeg, List.append_assoc, List.length_append]
def rnd (C : List Int) (s : Int) (i : Nat) : Int := C.getD ((s + i) % (C.length : Int)).toNat 0
theorem s112 (n o : Nat) (q : LoopRec) (X0 : SBlk) (X1 X2 : Nat → SBlk) (C : List Int) (f : Bool) (s : Int) (hs : 0 ≤ s) (hs1 : s < C.length) (ho : o < C.length) (hC : C.length ≤ 1000)
    (hy : ∀ i, i < o → call1 T n (.yld 5) [.int .i64 (rnd C s i)] ⟨[X0, X1 i, X2 i, .box [.lst 1 (iS C) f], .box [.int .i64 s], .loop q .ready .normal], [], 0⟩ =
      some (.bool true, ⟨[X0, X1 (i + 1), X2 (i + 1), .box [.lst 1 (iS C) f], .box [.int .i64 s], .loop q .ready .normal], [], 0⟩))
    (Y1 Y2 : SBlk) (st : LoopState) (pe : SEx)
    (hyE : call1 T n (.yld 5) [.int .i64 (rnd C s o)] ⟨[X0, X1 o, X2 o, .box [.lst 1 (iS C) f], .box [.int .i64 s], .loop q .ready .normal], [], 0⟩ =
      some (.bool false, ⟨[X0, Y1, Y2, .box [.lst 1 (iS C) f], .box [.int .i64 s], .loop q st pe], [], 0⟩)) :
    call1 T (n + 1) (.fn 112) [.yld 5, .ptr 3 0 0 0, .ptr 4 0 0 0] ⟨[X0, X1 0, X2 0, .box [.lst 1 (iS C) f], .box [.int .i64 s], .loop q .ready .normal], [], 0⟩ =
      some (.tup [], ⟨[X0, Y1, Y2, .box [.lst 1 (iS C) f], .box [.int .i64 s], .loop q st pe], [], 0⟩) := by
  refine call_in e112 (by rfl) ?_
  simp only [c112, go_sem, Int.cast_ofNat_Int, Int.reduceToNat, Bool.true_xor, Bool.false_xor, Bool.xor_true, Bool.xor_false, Nat.reduceAdd, Nat.reduceBEq, Nat.reduceLeDiff, Nat.reduceLT, Nat.reduceMul, Nat.reduceSub, Int.reduceEq, Int.reduceLT, Int.reduceLE, Int.reduceNeg]
  refine loop_rule (fun i => ([(0, .yld 5), (1, .ptr 3 0 0 0), (2, .ptr 4 0 0 0), (6, .int .i64 C.length), (7, .int .i64 i)], ⟨[X0, X1 i, X2 i, .box [.lst 1 (iS C) f], .box [.int .i64 s], .loop q .ready .normal], [], 0⟩)) (fun _ => True) o ?_ trivial ?_
  · simp only [go_sem, Int.cast_ofNat_Int, Int.reduceToNat, Bool.true_xor, Bool.false_xor, Bool.xor_true, Bool.xor_false, Nat.reduceAdd, Nat.reduceBEq, Nat.reduceLeDiff, Nat.reduceLT, Nat.reduceMul, Nat.reduceSub, Int.reduceEq, Int.reduceLT, Int.reduceLE, Int.reduceNeg] <;> rfl
  · intro i hi _
    have hlt : i < C.length := by omega
    have hw : w64 (s + i) = s + i := w64_id (by omega) (by omega)
    have hw1 := w64_suc hlt (Nat.le_trans hC (by decide))
    have hn0 : decide ((C.length : Int) = 0) = false := decide_eq_false (by omega)
    have htm : (s + i).tmod (C.length : Int) = (s + i) % (C.length : Int) := Int.tmod_eq_emod_of_nonneg (by omega)
    have hm0 : 0 ≤ (s + i) % (C.length : Int) := Int.emod_nonneg _ (by omega)
    have hm1 : (s + i) % (C.length : Int) < C.length := Int.emod_lt_of_pos _ (by omega)
    have e9 : decide (0 ≤ (s + i) % (C.length : Int)) = true := decide_eq_true hm0
    have eq10 : decide ((s + i) % (C.length : Int) < C.length) = true := decide_eq_true hm1
    have hc : C[((s + i) % (C.length : Int)).toNat]? = some (rnd C s i) := by
      rw [rnd, List.getD_eq_getElem?_getD, List.getElem?_eq_getElem (by omega)]; rfl
    rcases Nat.lt_or_ge i o with hio | hio
    · simp only [go_sem, Int.cast_ofNat_Int, Int.reduceToNat, Bool.true_xor, Bool.false_xor, Bool.xor_true, Bool.xor_false, Nat.reduceAdd, Nat.reduceBEq, Nat.reduceLeDiff, Nat.reduceLT, Nat.reduceMul, Nat.reduceSub, Int.reduceEq, Int.reduceLT, Int.reduceLE, Int.reduceNeg, hlt, hw, hn0, htm, e9, eq10, hc, hy i hio, hw1]
      refine ⟨by first | trivial | omega, by first | trivial | rfl, ?_⟩
      trivial
    · obtain rfl : i = o := by omega
      simp only [go_sem, Int.cast_ofNat_Int, Int.reduceToNat, Bool.true_xor, Bool.false_xor, Bool.xor_true, Bool.xor_false, Nat.reduceAdd, Nat.reduceBEq, Nat.reduceLeDiff, Nat.reduceLT, Nat.reduceMul, Nat.reduceSub, Int.reduceEq, Int.reduceLT, Int.reduceLE, Int.reduceNeg, hlt, hw, hn0, htm, e9, eq10, hc, hyE]
def outc (C : List Int) (s : Int) : Nat → Int
  | 0 => 0
  | i + 1 => rnd C s i
def offc (o : Nat) : Nat → Int
  | 0 => (o : Int)
  | i + 1 => (o : Int) - ((i + 1 : Nat) : Int)
theorem offc_eq (o i : Nat) : offc o i = (o : Int) - i := by
  cases i with
  | zero => simp [offc]
  | succ i => rfl
theorem onSome_of {A R : Type} {v : Option A} {f : A → Option R} {t : Tok f} {r : Option R} (o : A) (h : v = some o) (k : f o = r) : onSome v f t = r := by rw [h]; exact k
theorem s25 (n : Nat) (H : Heap) (v a b : Int) (C : List Int) (f : Bool) (s o : Int) (hC : C.length ≤ 1000) : call1 T (n + 5) (.fn 25) [hl v a b 1 C f, .int .i64 s, .int .i64 o] H = some (.tup [.int .i64 (chV v a b C s o), .int .i64 (chE v a b C s o)], H) := by
  refine call_pure e25 (by rfl) ?_
  have h24 := fun H => s15 n H v a b C f (Nat.le_trans hC (by decide))
  cases hok : okH v a b C with
  | false =>
    rw [ckH_no hok] at h24
    simp only [c25, heap0, go_sem, Int.cast_ofNat_Int, Int.reduceToNat, Bool.true_xor, Bool.false_xor, Bool.xor_true, Bool.xor_false, Nat.reduceAdd, Nat.reduceBEq, Nat.reduceLeDiff, Nat.reduceLT, Nat.reduceMul, Nat.reduceSub, Int.reduceEq, Int.reduceLT, Int.reduceLE, Int.reduceNeg, h24, chV, chE, hok]
  | true =>
    rw [ckH_yes hok] at h24
    obtain ⟨hv, ha, hab, hb, hd⟩ := okH_spec hok
    have hpos := difB_pos hd
    simp only [c25, heap0, go_sem, Int.cast_ofNat_Int, Int.reduceToNat, Bool.true_xor, Bool.false_xor, Bool.xor_true, Bool.xor_false, Nat.reduceAdd, Nat.reduceBEq, Nat.reduceLeDiff, Nat.reduceLT, Nat.reduceMul, Nat.reduceSub, Int.reduceEq, Int.reduceLT, Int.reduceLE, Int.reduceNeg, h24, chV, chE, hok]
    by_cases h1 : s < a
    · have e1 : decide (s < a) = true := decide_eq_true h1
      have e2 : decide (a ≤ s) = false := decide_eq_false (by omega)
      simp only [e1, e2, go_sem, Int.cast_ofNat_Int, Int.reduceToNat, Bool.true_xor, Bool.false_xor, Bool.xor_true, Bool.xor_false, Nat.reduceAdd, Nat.reduceBEq, Nat.reduceLeDiff, Nat.reduceLT, Nat.reduceMul, Nat.reduceSub, Int.reduceEq, Int.reduceLT, Int.reduceLE, Int.reduceNeg]
    · have e1 : decide (s < a) = false := decide_eq_false h1
      have e2 : decide (a ≤ s) = true := decide_eq_true (by omega)
      by_cases h2 : b ≤ s
      · have e3 : decide (b ≤ s) = true := decide_eq_true h2
        have e4 : decide (s < b) = false := decide_eq_false (by omega)
        simp only [e1, e2, e3, e4, go_sem, Int.cast_ofNat_Int, Int.reduceToNat, Bool.true_xor, Bool.false_xor, Bool.xor_true, Bool.xor_false, Nat.reduceAdd, Nat.reduceBEq, Nat.reduceLeDiff, Nat.reduceLT, Nat.reduceMul, Nat.reduceSub, Int.reduceEq, Int.reduceLT, Int.reduceLE, Int.reduceNeg]
      · have e3 : decide (b ≤ s) = false := decide_eq_false h2
        have e4 : decide (s < b) = true := decide_eq_true (by omega)
        by_cases h3 : o < 0
        · have e5 : decide (o < 0) = true := decide_eq_true h3
          have e6 : decide (0 ≤ o) = false := decide_eq_false (by omega)
          simp only [e1, e2, e3, e4, e5, e6, go_sem, Int.cast_ofNat_Int, Int.reduceToNat, Bool.true_xor, Bool.false_xor, Bool.xor_true, Bool.xor_false, Nat.reduceAdd, Nat.reduceBEq, Nat.reduceLeDiff, Nat.reduceLT, Nat.reduceMul, Nat.reduceSub, Int.reduceEq, Int.reduceLT, Int.reduceLE, Int.reduceNeg]
        · have e5 : decide (o < 0) = false := decide_eq_false h3
          have e6 : decide (0 ≤ o) = true := decide_eq_true (by omega)
          by_cases h4 : (C.length : Int) ≤ o
          · have e7 : decide ((C.length : Int) ≤ o) = true := decide_eq_true h4
            have e8 : decide (o < (C.length : Int)) = false := decide_eq_false (by omega)
            simp only [e1, e2, e3, e4, e5, e6, e7, e8, go_sem, Int.cast_ofNat_Int, Int.reduceToNat, Bool.true_xor, Bool.false_xor, Bool.xor_true, Bool.xor_false, Nat.reduceAdd, Nat.reduceBEq, Nat.reduceLeDiff, Nat.reduceLT, Nat.reduceMul, Nat.reduceSub, Int.reduceEq, Int.reduceLT, Int.reduceLE, Int.reduceNeg]
          · have e7 : decide ((C.length : Int) ≤ o) = false := decide_eq_false h4
            have e8 : decide (o < (C.length : Int)) = true := decide_eq_true (by omega)
            have hn0 : decide ((C.length : Int) = 0) = false := decide_eq_false (by omega)
            have htm : s.tmod (C.length : Int) = s % (C.length : Int) := Int.tmod_eq_emod_of_nonneg (by omega)
            obtain ⟨o', rfl⟩ := Int.eq_ofNat_of_zero_le (show 0 ≤ o by omega)
            have hm0 : 0 ≤ s % (C.length : Int) := Int.emod_nonneg _ (by omega)
            have hm1 : s % (C.length : Int) < C.length := Int.emod_lt_of_pos _ (by omega)
            simp only [e1, e2, e3, e4, e5, e6, e7, e8, hn0, htm, go_sem, Int.cast_ofNat_Int, Int.reduceToNat, Bool.true_xor, Bool.false_xor, Bool.xor_true, Bool.xor_false, Nat.reduceAdd, Nat.reduceBEq, Nat.reduceLeDiff, Nat.reduceLT, Nat.reduceMul, Nat.reduceSub, Int.reduceEq, Int.reduceLT, Int.reduceLE, Int.reduceNeg, s66]
            refine onSome_of _ (s112 (n + 3) o' _ _ (fun i => .box [.int .i64 (offc o' i)]) (fun i => .box [.int .i64 (outc C (s % (C.length : Int)) i)]) C f (s % (C.length : Int)) hm0 hm1 (by omega) hC ?_
              (.box [.int .i64 0]) (.box [.int .i64 (rnd C (s % (C.length : Int)) o')]) .done (.exit 1) ?_) ?_
            · intro i hi
              refine yld_in rfl rfl ?_
              have g1 : decide (offc o' i = 0) = false := decide_eq_false (by rw [offc_eq]; omega)
              have g2 : w64 (offc o' i - 1) = offc o' (i + 1) := by rw [offc_eq, offc_eq, w64_id (by omega) (by omega)]; omega
              simp only [go_sem, Int.cast_ofNat_Int, Int.reduceToNat, Bool.true_xor, Bool.false_xor, Bool.xor_true, Bool.xor_false, Nat.reduceAdd, Nat.reduceBEq, Nat.reduceLeDiff, Nat.reduceLT, Nat.reduceMul, Nat.reduceSub, Int.reduceEq, Int.reduceLT, Int.reduceLE, Int.reduceNeg, put1, g1, g2, outc]
            · refine yld_in rfl rfl ?_
              have g1 : decide (offc o' o' = 0) = true := decide_eq_true (by rw [offc_eq]; omega)
              have g0 : offc o' o' = 0 := by rw [offc_eq]; omega
              simp only [go_sem, Int.cast_ofNat_Int, Int.reduceToNat, Bool.true_xor, Bool.false_xor, Bool.xor_true, Bool.xor_false, Nat.reduceAdd, Nat.reduceBEq, Nat.reduceLeDiff, Nat.reduceLT, Nat.reduceMul, Nat.reduceSub, Int.reduceEq, Int.reduceLT, Int.reduceLE, Int.reduceNeg, put1, g1, g0]
            · have hfin : chnA C s o' = rnd C (s % (C.length : Int)) o' := by
                unfold chnA rnd
                rw [Int.emod_add_emod]
              simp only [go_sem, Int.cast_ofNat_Int, Int.reduceToNat, Bool.true_xor, Bool.false_xor, Bool.xor_true, Bool.xor_false, Nat.reduceAdd, Nat.reduceBEq, Nat.reduceLeDiff, Nat.reduceLT, Nat.reduceMul, Nat.reduceSub, Int.reduceEq, Int.reduceLT, Int.reduceLE, Int.reduceNeg, hfin]
abbrev hopD : Bool × List DT := (true, [.int .i64, .int .i64, .int .i64, .lst [.int .i64]])
theorem ints_of : ∀ {L : List (List SV)}, (∀ q ∈ L, FitsL [.int .i64] q) → ∃ N, L = iS N
  | [], _ => ⟨[], rfl⟩
  | r :: L, h => by
    obtain ⟨N, rfl⟩ := ints_of (L := L) (fun q hq => h q (by simp [hq]))
    have h0 := h r (by simp)
    obtain ⟨a, _, rfl, _, h0⟩ := fitsL_i h0
    cases fitsL_nil' h0
    exact ⟨a :: N, rfl⟩
theorem hop_of {x : SV} (h : FitsA hopD x) : ∃ v a b C f, x = hl v a b 1 C f ∧ C.length ≤ maxLen := by
  obtain ⟨cs, rfl, k⟩ := fitsA_agg h
  obtain ⟨v, _, rfl, _, k⟩ := fitsL_i k
  obtain ⟨a, _, rfl, _, k⟩ := fitsL_i k
  obtain ⟨b, _, rfl, _, k⟩ := fitsL_i k
  obtain ⟨L1, f1, _, rfl, m1, a1, k⟩ := fitsL_l k
  cases fitsL_nil' k
  obtain ⟨N, rfl⟩ := ints_of a1
  exact ⟨v, a, b, N, f1, rfl, by simpa [iS] using m1⟩
theorem difB_at {C : List Int} (h : difB C = true) {i : Nat} (hi : i < C.length) : badAt C i = false := by
  simp only [difB, Bool.and_eq_true, Bool.not_eq_true', decide_eq_true_eq] at h
  have := List.any_eq_false.1 h.1 i (List.mem_range.2 hi)
  simpa using this
theorem difB_chan {C : List Int} (h : difB C = true) {i : Nat} {c : Int} (hi : C[i]? = some c) : chanB c = true := by
  have := difB_at h (List.getElem?_eq_some_iff.1 hi).1
  rw [badAt_some hi, Bool.or_eq_false_iff] at this
  simpa using this.1
theorem difB_ne {C : List Int} (h : difB C = true) {i j : Nat} {c d : Int} (hi : C[i]? = some c) (hj : C[j]? = some d) (hij : i < j) : c ≠ d := by
  intro e
  subst e
  have := difB_at h (List.getElem?_eq_some_iff.1 hj).1
  rw [badAt_some hj, Bool.or_eq_false_iff] at this
  have h2 := of_decide_eq_false this.2
  exact h2 (List.mem_of_getElem? (i := i) (by rw [List.getElem?_take, if_pos hij]; exact hi))
theorem difB_inj {C : List Int} (h : difB C = true) {i j : Nat} {c : Int} (hi : C[i]? = some c) (hj : C[j]? = some c) : i = j := by
  rcases Nat.lt_trichotomy i j with h1 | h1 | h1
  · exact absurd rfl (difB_ne h hi hj h1)
  · exact h1
  · exact absurd rfl (difB_ne h hj hi h1)
theorem chn_get {C : List Int} {s o : Int} (hp : 0 < C.length) (h : 0 ≤ s + o) : C[((s + o) % (C.length : Int)).toNat]? = some (chnA C s o) := by
  have h1 : (s + o) % (C.length : Int) < C.length := Int.emod_lt_of_pos _ (by omega)
  have h0 : 0 ≤ (s + o) % (C.length : Int) := Int.emod_nonneg _ (by omega)
  rw [chnA, List.getD_eq_getElem?_getD, List.getElem?_eq_getElem (by omega)]; rfl
theorem chn_inj {C : List Int} {s o s' o' : Int} (hd : difB C = true) (h : 0 ≤ s + o) (h' : 0 ≤ s' + o') (he : chnA C s o = chnA C s' o') : (s + o) % (C.length : Int) = (s' + o') % (C.length : Int) := by
  have hp := difB_pos hd
  have h1 := chn_get hp h
  have h2 := chn_get hp h'
  rw [← he] at h2
  have := difB_inj hd h1 h2
  have a1 : 0 ≤ (s + o) % (C.length : Int) := Int.emod_nonneg _ (by omega)
  have a2 : 0 ≤ (s' + o') % (C.length : Int) := Int.emod_nonneg _ (by omega)
  omega
theorem mod_near {n x y : Int} (hn : 0 < n) (h : x % n = y % n) (h1 : x - y < n) (h2 : y - x < n) : x = y := by
  have h3 := Int.emod_emod_of_dvd (x - y) (Int.dvd_refl n)
  have h4 : (x - y) % n = 0 := Int.emod_eq_emod_iff_emod_sub_eq_zero.1 h
  obtain ⟨k, hk⟩ := Int.dvd_of_emod_eq_zero h4
  have : k = 0 := by
    rcases Int.lt_trichotomy k 0 with h5 | h5 | h5
    · have := Int.mul_le_mul_of_nonneg_left (show k ≤ -1 by omega) (show 0 ≤ n by omega)
      omega
    · exact h5
    · have := Int.mul_le_mul_of_nonneg_left (show 1 ≤ k by omega) (show 0 ≤ n by omega)
      omega
  subst this
  omega
def sn1 (C : List Int) (s : Int) (k : Nat) : List Int := (List.range k).map fun (i : Nat) => chnA C s i
theorem sn1_len {C s k} : (sn1 C s k).length = k := by simp [sn1]
theorem sn1_succ (C s k) : sn1 C s (k + 1) = sn1 C s k ++ [chnA C s k] := by simp [sn1, List.range_succ]
theorem sn1_new {C : List Int} {s : Int} {k : Nat} (hd : difB C = true) (hs : 0 ≤ s) (hk : k < C.length) : ¬ chnA C s k ∈ sn1 C s k := by
  intro h
  simp only [sn1, List.mem_map, List.mem_range] at h
  obtain ⟨i, hi, he⟩ := h
  have := mod_near (by omega) (chn_inj hd (by omega) (by omega) he) (by omega) (by omega)
  omega
theorem room8 {n : Nat} (h : n ≤ 1000) : decide ((n + 1) * 8 ≤ mostLen) = true := by
  rw [decide_eq_true_eq]
  exact Nat.le_trans (show (n + 1) * 8 ≤ 10000 by omega) (by decide)
def sn2 (C : List Int) (s o : Int) (k : Nat) : List Int := (List.range k).map fun (i : Nat) => chnA C (s + i) o
theorem sn2_len {C s o k} : (sn2 C s o k).length = k := by simp [sn2]
theorem sn2_succ (C s o k) : sn2 C s o (k + 1) = sn2 C s o k ++ [chnA C (s + k) o] := by simp [sn2, List.range_succ]
theorem sn2_new {C : List Int} {s o : Int} {k : Nat} (hd : difB C = true) (hs : 0 ≤ s) (ho : 0 ≤ o) (hk : k < C.length) : ¬ chnA C (s + k) o ∈ sn2 C s o k := by
  intro h
  simp only [sn2, List.mem_map, List.mem_range] at h
  obtain ⟨i, hi, he⟩ := h
  have := mod_near (by omega) (chn_inj hd (by omega) (by omega) he) (by omega) (by omega)
  omega
structure Hp where
  v : Int
  a : Int
  b : Int
  C : List Int
  f : Bool
abbrev hpC (h : Hp) : List SV := [.int .i64 h.v, .int .i64 h.a, .int .i64 h.b, .lst 1 (iS h.C) h.f]
def hpsS (L : List Hp) : List (List SV) := L.map hpC
@[go_sem] theorem hpsS_len {L : List Hp} : (hpsS L).length = L.length := by simp [hpsS]
@[go_sem] theorem hpsS_get (L : List Hp) (i : Nat) : (hpsS L)[i]? = (L[i]?).map hpC := by simp [hpsS]
abbrev okP (h : Hp) : Bool := okH h.v h.a h.b h.C
def errAt (L : List Hp) (i : Nat) : Int := match L[i]? with
  | some h => bif okP h then (match i with
    | 0 => 0
    | j + 1 => match L[j]? with
      | some g => bif decide (h.a = g.b) then (bif decide (h.v = (w64 (g.v + 1)).tmod 256) then 0 else 23) else 5
      | none => 0) else 1
  | none => 0
def fstE (e : Nat → Int) (k : Nat) : Int := match (List.range k).find? (fun i => decide (e i ≠ 0)) with
  | some i => e i
  | none => 0
theorem fstE_none {e : Nat → Int} {k : Nat} (h : ∀ j, j < k → e j = 0) : fstE e k = 0 := by
  have : (List.range k).find? (fun i => decide (e i ≠ 0)) = none := by
    rw [List.find?_eq_none]
    intro i hi
    simp [h i (List.mem_range.1 hi)]
  unfold fstE; rw [this]
theorem fstE_at {e : Nat → Int} {k i : Nat} {x : Int} (hi : i < k) (h : ∀ j, j < i → e j = 0) (hx : e i = x) (h0 : x ≠ 0) : fstE e k = x := by
  have : (List.range k).find? (fun i => decide (e i ≠ 0)) = some i := by
    rw [List.find?_range_eq_some]
    refine ⟨by simp [hx, h0], by simpa using hi, fun j hj => by simp [h j hj]⟩
  unfold fstE; rw [this]; exact hx
def caE (L : List Hp) : Int := bif decide (1 ≤ L.length) && decide (L.length ≤ 1024) then fstE (errAt L) L.length else 1
def hopOK (L : List Hp) : Prop := ∀ h ∈ L, h.C.length ≤ 1000
theorem s64 (n : Nat) (H : Heap) (L : List Hp) (fl : Bool) (hm : L.length ≤ maxLen) (hC : hopOK L) : call1 T (n + 5) (.fn 64) [.lst 4 (hpsS L) fl] H = some (.int .i64 (caE L), H) := by
  refine call_pure e64 (by rfl) ?_
  simp only [c64, heap0, go_sem, Int.cast_ofNat_Int, Int.reduceToNat, Bool.true_xor, Bool.false_xor, Bool.xor_true, Bool.xor_false, Nat.reduceAdd, Nat.reduceBEq, Nat.reduceLeDiff, Nat.reduceLT, Nat.reduceMul, Nat.reduceSub, Int.reduceEq, Int.reduceLT, Int.reduceLE, Int.reduceNeg]
  by_cases hlen : 1 ≤ L.length ∧ L.length ≤ 1024
  rotate_left
  · have hca : caE L = 1 := by
      have : (decide (1 ≤ L.length) && decide (L.length ≤ 1024)) = false := by
        rw [Bool.and_eq_false_iff]; simp only [decide_eq_false_iff_not]; omega
      simp [caE, this]
    repeat' (with_reducible refine fork_split (fun _ => ?_) (fun _ => ?_) <;> simp only [*, go_sem, Int.cast_ofNat_Int, Int.reduceToNat, Bool.true_xor, Bool.false_xor, Bool.xor_true, Bool.xor_false, Nat.reduceAdd, Nat.reduceBEq, Nat.reduceLeDiff, Nat.reduceLT, Nat.reduceMul, Nat.reduceSub, Int.reduceEq, Int.reduceLT, Int.reduceLE, Int.reduceNeg, hca])
    all_goals (exfalso; apply hlen; simp only [decide_eq_false_iff_not] at *; omega)
  · have q1 : decide ((L.length : Int) < 1) = false := decide_eq_false (by omega)
    have q2 : decide (1024 < (L.length : Int)) = false := decide_eq_false (by omega)
    have hca : caE L = fstE (errAt L) L.length := by simp [caE, hlen]
    rw [hca]
    simp only [go_sem, Int.cast_ofNat_Int, Int.reduceToNat, Bool.true_xor, Bool.false_xor, Bool.xor_true, Bool.xor_false, Nat.reduceAdd, Nat.reduceBEq, Nat.reduceLeDiff, Nat.reduceLT, Nat.reduceMul, Nat.reduceSub, Int.reduceEq, Int.reduceLT, Int.reduceLE, Int.reduceNeg, q1, q2]
    refine loop_rule (fun i => ([(0, .lst 4 (hpsS L) fl), (13, .lst 4 (hpsS L) fl), (14, .int .i64 L.length), (15, .int .i64 i)], ⟨[], [], 0⟩)) (fun i => ∀ j : Nat, j < i → errAt L j = 0) L.length ?_ (fun j h => by omega) ?_
    · simp only [go_sem, Int.cast_ofNat_Int, Int.reduceToNat, Bool.true_xor, Bool.false_xor, Bool.xor_true, Bool.xor_false, Nat.reduceAdd, Nat.reduceBEq, Nat.reduceLeDiff, Nat.reduceLT, Nat.reduceMul, Nat.reduceSub, Int.reduceEq, Int.reduceLT, Int.reduceLE, Int.reduceNeg] <;> rfl
    · intro i hi hP
      rcases Nat.lt_or_ge i L.length with hlt | hge
      · obtain ⟨h, hh⟩ := getS hlt
        have hw := w64_suc hlt hm
        have h24 := fun H => s15 n H h.v h.a h.b h.C h.f (Nat.le_trans (hC h (List.mem_of_getElem? hh)) (by decide))
        cases hok : okP h with
        | false =>
          have he : errAt L i = 1 := by simp [errAt, hh, hok]
          rw [fstE_at hlt hP he (by decide)]
          rw [ckH_no hok] at h24
          simp only [go_sem, Int.cast_ofNat_Int, Int.reduceToNat, Bool.true_xor, Bool.false_xor, Bool.xor_true, Bool.xor_false, Nat.reduceAdd, Nat.reduceBEq, Nat.reduceLeDiff, Nat.reduceLT, Nat.reduceMul, Nat.reduceSub, Int.reduceEq, Int.reduceLT, Int.reduceLE, Int.reduceNeg, hlt, hh, put1, h24]
        | true =>
          rw [ckH_yes hok] at h24
          have nxt : errAt L i = 0 → ∀ j : Nat, j < i + 1 → errAt L j = 0 := fun h0 j hj => by
            rcases Nat.lt_or_ge j i with h3 | h3
            · exact hP j h3
            · obtain rfl : j = i := by omega
              exact h0
          cases i with
          | zero =>
            have he : errAt L 0 = 0 := by simp [errAt, hh, hok]
            have hw0 : w64 (0 + 1) = 1 := by decide
            have e0 : decide ((0 : Int) < (L.length : Int)) = true := decide_eq_true (by omega)
            simp only [go_sem, Int.cast_ofNat_Int, Int.reduceToNat, Bool.true_xor, Bool.false_xor, Bool.xor_true, Bool.xor_false, Nat.reduceAdd, Nat.reduceBEq, Nat.reduceLeDiff, Nat.reduceLT, Nat.reduceMul, Nat.reduceSub, Int.reduceEq, Int.reduceLT, Int.reduceLE, Int.reduceNeg, e0, hlt, hh, put1, h24, hw0]
            refine ⟨by first | trivial | omega, by first | trivial | rfl, ?_⟩
            exact nxt he
          | succ j =>
            obtain ⟨g, hg⟩ := getS (l := L) (i := j) (by omega)
            have hj1 : w64 (((j + 1 : Nat) : Int) - 1) = (j : Int) := by rw [w64_id (by omega) (by omega)]; omega
            have hpos : decide ((0 : Int) < ((j + 1 : Nat) : Int)) = true := decide_eq_true (by omega)
            have hjl : j < L.length := by omega
            simp only [go_sem, Int.cast_ofNat_Int, Int.reduceToNat, Bool.true_xor, Bool.false_xor, Bool.xor_true, Bool.xor_false, Nat.reduceAdd, Nat.reduceBEq, Nat.reduceLeDiff, Nat.reduceLT, Nat.reduceMul, Nat.reduceSub, Int.reduceEq, Int.reduceLT, Int.reduceLE, Int.reduceNeg, hlt, hh, put1, h24, hpos, hj1, hjl, hg]
            cases ha : decide (h.a = g.b) with
            | false =>
              have he : errAt L (j + 1) = 5 := by simp only [errAt, hh, hok, hg, ha, cond_true, cond_false]
              rw [fstE_at hlt hP he (by decide)]
              simp only [go_sem, Int.cast_ofNat_Int, Int.reduceToNat, Bool.true_xor, Bool.false_xor, Bool.xor_true, Bool.xor_false, Nat.reduceAdd, Nat.reduceBEq, Nat.reduceLeDiff, Nat.reduceLT, Nat.reduceMul, Nat.reduceSub, Int.reduceEq, Int.reduceLT, Int.reduceLE, Int.reduceNeg, ha]
            | true =>
              simp only [go_sem, Int.cast_ofNat_Int, Int.reduceToNat, Bool.true_xor, Bool.false_xor, Bool.xor_true, Bool.xor_false, Nat.reduceAdd, Nat.reduceBEq, Nat.reduceLeDiff, Nat.reduceLT, Nat.reduceMul, Nat.reduceSub, Int.reduceEq, Int.reduceLT, Int.reduceLE, Int.reduceNeg, ha, hpos, hj1, hjl, hg]
              cases hb : decide (h.v = (w64 (g.v + 1)).tmod 256) with
              | false =>
                have he : errAt L (j + 1) = 23 := by simp only [errAt, hh, hok, hg, ha, hb, cond_true, cond_false]
                rw [fstE_at hlt hP he (by decide)]
                simp only [go_sem, Int.cast_ofNat_Int, Int.reduceToNat, Bool.true_xor, Bool.false_xor, Bool.xor_true, Bool.xor_false, Nat.reduceAdd, Nat.reduceBEq, Nat.reduceLeDiff, Nat.reduceLT, Nat.reduceMul, Nat.reduceSub, Int.reduceEq, Int.reduceLT, Int.reduceLE, Int.reduceNeg, hb]
              | true =>
                have he : errAt L (j + 1) = 0 := by simp only [errAt, hh, hok, hg, ha, hb, cond_true]
                simp only [go_sem, Int.cast_ofNat_Int, Int.reduceToNat, Bool.true_xor, Bool.false_xor, Bool.xor_true, Bool.xor_false, Nat.reduceAdd, Nat.reduceBEq, Nat.reduceLeDiff, Nat.reduceLT, Nat.reduceMul, Nat.reduceSub, Int.reduceEq, Int.reduceLT, Int.reduceLE, Int.reduceNeg, hb, hw]
                refine ⟨by first | trivial | omega, by first | trivial | rfl, ?_⟩
                exact nxt he
      · obtain rfl : i = L.length := by omega
        rw [fstE_none hP]
        simp only [go_sem, Int.cast_ofNat_Int, Int.reduceToNat, Bool.true_xor, Bool.false_xor, Bool.xor_true, Bool.xor_false, Nat.reduceAdd, Nat.reduceBEq, Nat.reduceLeDiff, Nat.reduceLT, Nat.reduceMul, Nat.reduceSub, Int.reduceEq, Int.reduceLT, Int.reduceLE, Int.reduceNeg, Nat.lt_irrefl]
theorem hps_row {L : List Hp} : ∀ r ∈ hpsS L, r.length = 4 := by
  intro r hr
  simp only [hpsS, List.mem_map] at hr
  obtain ⟨h, _, rfl⟩ := hr
  rfl
theorem hps_still (L : List Hp) : Still (hpsS L) := by
  intro cs hcs c hc
  simp only [hpsS, List.mem_map] at hcs
  obtain ⟨h, _, rfl⟩ := hcs
  simp only [List.mem_cons, List.not_mem_nil, or_false] at hc
  rcases hc with rfl | rfl | rfl | rfl <;> exact ⟨by simp [SV.refs], fun N H d => by simp only [frz]⟩
def toHp (r : List SV) : Hp := match r with
  | [.int _ v, .int _ a, .int _ b, .lst _ L f] => ⟨v, a, b, L.map (fun c => match c with | [.int _ x] => x | _ => 0), f⟩
  | _ => ⟨0, 0, 0, [], true⟩
theorem toHp_of (h : Hp) : toHp (hpC h) = h := by
  obtain ⟨v, a, b, C, f⟩ := h
  simp [toHp, iS, Function.comp_def]
theorem any_hp (p : Hp → Bool) (L : List Hp) : (hpsS L).any (fun r => p (toHp r)) = L.any p := by
  simp only [hpsS, List.any_map]
  congr 1
  funext h
  exact congrArg p (toHp_of h)
theorem idx_hp (p : Hp → Bool) (L : List Hp) : idx1 (fun r => p (toHp r)) (hpsS L) = idx1 p L := by
  unfold hpsS
  rw [idx1_map]
  congr 1
  funext h
  exact congrArg p (toHp_of h)
def longB (h : Hp) : Bool := decide (20 < h.C.length)
def fewB (L : List Hp) : Bool := decide (L.length ≤ 10) && !L.any longB
def clr (h : Hp) : Hp := { h with f := false }
def cpk (L : List Hp) (k : Nat) : List Hp := (L.take k).map clr ++ L.drop k
theorem cpk_len (L : List Hp) (k : Nat) : (cpk L k).length = L.length := by simp [cpk]; omega
theorem cpk_get {L : List Hp} {k : Nat} {h : Hp} (hh : L[k]? = some h) : (cpk L k)[k]? = some h := by
  have := (List.getElem?_eq_some_iff.1 hh).1
  rw [cpk, List.getElem?_append_right (by simp; omega)]
  simp only [List.length_map, List.length_take]
  rw [List.getElem?_drop, show k + (k - min k L.length) = k by omega, hh]
theorem cpk_set {L : List Hp} {k : Nat} {h : Hp} (hh : L[k]? = some h) : (cpk L k).set k (clr h) = cpk L (k + 1) := by
  have hl := (List.getElem?_eq_some_iff.1 hh).1
  rw [cpk, cpk, take_snoc hh, List.set_append_right _ _ (by simp; omega)]
  simp only [List.length_map, List.length_take, List.map_append, List.map_cons, List.map_nil, List.append_assoc]
  rw [show k - min k L.length = 0 by omega]
  have : L.drop k = h :: L.drop (k + 1) := by
    rw [List.drop_eq_getElem_cons hl, (List.getElem?_eq_some_iff.1 hh).2]
  rw [this]
  rfl
theorem room48 {n : Nat} (h : n ≤ 1000) : n * 48 ≤ mostLen := Nat.le_trans (show n * 48 ≤ 100000 by omega) (by decide)
theorem room8' {n : Nat} (h : n ≤ 1000) : n * 8 ≤ mostLen := Nat.le_trans (show n * 8 ≤ 100000 by omega) (by decide)
theorem s8 (n : Nat) (H : Heap) (C : List Int) (f : Bool) (hC : C.length ≤ 1000) : call1 T (n + 1) (.fn 8) [.lst 1 (iS C) f] H = some (.lst 1 (iS C) false, H) :=
  stdClone_ok x15 (.inl rfl) (Still.ints C) (by rw [iS_len]; exact room8' hC)
theorem errAt_clr (L : List Hp) (i : Nat) : errAt (L.map clr) i = errAt L i := by
  simp only [errAt, List.getElem?_map]
  cases hi : L[i]? with
  | none => rfl
  | some h =>
    simp only [Option.map_some]
    cases i with
    | zero => rfl
    | succ j =>
      cases hj : L[j]? with
      | none => simp only [List.getElem?_map, hj, Option.map_none]; rfl
      | some g => simp only [List.getElem?_map, hj, Option.map_some]; rfl
theorem caE_clr (L : List Hp) : caE (L.map clr) = caE L := by
  have : errAt (L.map clr) = errAt L := by funext i; exact errAt_clr L i
  simp only [caE, List.length_map, this]
theorem hopOK_clr {L : List Hp} (h : hopOK L) : hopOK (L.map clr) := by
  intro x hx
  simp only [List.mem_map] at hx
  obtain ⟨y, hy, rfl⟩ := hx
  exact h y hy
def inP (s : Int) (h : Hp) : Bool := decide (h.a ≤ s) && decide (s < h.b)
theorem s65 (n : Nat) (bl : List SBlk) (ro : Nat) (h : Hp) (s : Int) (X1 : SBlk) (hb : bl = [.box [.int .i64 s], X1]) : call1 T (n + 1) (.fn 65) [.agg (hpC h), .ptr 0 0 0 0] ⟨bl, [], ro⟩ = some (.bool (inP s h), ⟨bl, [], ro⟩) := by
  subst hb
  refine call_in e65 (by rfl) ?_
  simp only [c65, go_sem, Int.cast_ofNat_Int, Int.reduceToNat, Bool.true_xor, Bool.false_xor, Bool.xor_true, Bool.xor_false, Nat.reduceAdd, Nat.reduceBEq, Nat.reduceLeDiff, Nat.reduceLT, Nat.reduceMul, Nat.reduceSub, Int.reduceEq, Int.reduceLT, Int.reduceLE, Int.reduceNeg]
  cases hx : decide (h.a ≤ s) with
  | false => simp only [go_sem, Int.cast_ofNat_Int, Int.reduceToNat, Bool.true_xor, Bool.false_xor, Bool.xor_true, Bool.xor_false, Nat.reduceAdd, Nat.reduceBEq, Nat.reduceLeDiff, Nat.reduceLT, Nat.reduceMul, Nat.reduceSub, Int.reduceEq, Int.reduceLT, Int.reduceLE, Int.reduceNeg, inP, hx]
  | true => simp only [go_sem, Int.cast_ofNat_Int, Int.reduceToNat, Bool.true_xor, Bool.false_xor, Bool.xor_true, Bool.xor_false, Nat.reduceAdd, Nat.reduceBEq, Nat.reduceLeDiff, Nat.reduceLT, Nat.reduceMul, Nat.reduceSub, Int.reduceEq, Int.reduceLT, Int.reduceLE, Int.reduceNeg, inP, hx]
def ifI (L : List Hp) (s : Int) : Int := idx1 (inP s) L
def ifE (L : List Hp) (s : Int) : Int := bif decide (caE L = 0) then (bif decide (0 ≤ ifI L s) then 0 else 7) else caE L
def ifH (L : List Hp) (s : Int) : Hp := (L[(ifI L s).toNat]?).getD ⟨0, 0, 0, [], true⟩
def ifV (cl : Bool) (L : List Hp) (s : Int) : SV := bif decide (ifE L s = 0) then hl (ifH L s).v (ifH L s).a (ifH L s).b 1 (ifH L s).C (bif cl then false else (ifH L s).f) else hl 0 0 0 0 [] true
theorem s22 (n : Nat) (H : Heap) (L : List Hp) (fl : Bool) (s : Int) (hm : L.length ≤ 1000) (hC : hopOK L) : call1 T (n + 6) (.fn 22) [.lst 4 (hpsS L) fl, .int .i64 s] H = some (.tup [ifV true L s, .int .i64 (ifE L s)], H) := by
  refine call_pure e22 (by rfl) ?_
  have hm' : L.length ≤ maxLen := Nat.le_trans hm (by decide)
  have h27 := fun H => s64 n H L fl hm' hC
  simp only [c22, heap0, go_sem, Int.cast_ofNat_Int, Int.reduceToNat, Bool.true_xor, Bool.false_xor, Bool.xor_true, Bool.xor_false, Nat.reduceAdd, Nat.reduceBEq, Nat.reduceLeDiff, Nat.reduceLT, Nat.reduceMul, Nat.reduceSub, Int.reduceEq, Int.reduceLT, Int.reduceLE, Int.reduceNeg, h27]
  cases hca : decide (caE L = 0) with
  | false =>
    have hne := of_decide_eq_false hca
    have h1 : ifE L s = caE L := by simp [ifE, hca]
    have h2 : decide (ifE L s = 0) = false := by rw [h1]; exact hca
    simp only [go_sem, Int.cast_ofNat_Int, Int.reduceToNat, Bool.true_xor, Bool.false_xor, Bool.xor_true, Bool.xor_false, Nat.reduceAdd, Nat.reduceBEq, Nat.reduceLeDiff, Nat.reduceLT, Nat.reduceMul, Nat.reduceSub, Int.reduceEq, Int.reduceLT, Int.reduceLE, Int.reduceNeg, put1, ifV, h1, hca, iS]
    rfl
  | true =>
    have h0 := of_decide_eq_true hca
    have h47 := fun X1 es ro => stdIdxF_ok (T := T) (f := 23) (n := n + 4) (H := ⟨[.box [.int .i64 s], X1], es, ro⟩) (ag := true) (z := 4) (id := 65) (caps := [.ptr 0 0 0 0]) (v := .lst 4 (hpsS L) fl) (L := hpsS L) (p := fun r => inP s (toHp r)) x47 (.lst 4 fl (.inl rfl)) hps_row (fun h => by cases h) (by simpa [hpsS] using hm')
      (fun r hr bl ro hbl => by
        simp only [hpsS, List.mem_map] at hr
        obtain ⟨h, _, rfl⟩ := hr
        rw [toHp_of]
        rcases hbl with ⟨_, _, h3⟩ | h3
        · simp [SV.refs.refsL, SV.refs] at h3
        · exact s65 (n + 3) bl ro h s X1 h3) (by simp [SV.refs.refsL, SV.refs])
    simp only [idx_hp] at h47
    have hge := idx1_ge (inP s) L
    simp only [go_sem, Int.cast_ofNat_Int, Int.reduceToNat, Bool.true_xor, Bool.false_xor, Bool.xor_true, Bool.xor_false, Nat.reduceAdd, Nat.reduceBEq, Nat.reduceLeDiff, Nat.reduceLT, Nat.reduceMul, Nat.reduceSub, Int.reduceEq, Int.reduceLT, Int.reduceLE, Int.reduceNeg, h0, h47]
    rcases Int.lt_or_le (idx1 (inP s) L) 0 with hneg | hpos
    · have q1 : decide (idx1 (inP s) L < 0) = true := decide_eq_true hneg
      have q2 : decide (0 ≤ ifI L s) = false := decide_eq_false (by unfold ifI; omega)
      have h1 : ifE L s = 7 := by simp [ifE, hca, q2]
      simp only [go_sem, Int.cast_ofNat_Int, Int.reduceToNat, Bool.true_xor, Bool.false_xor, Bool.xor_true, Bool.xor_false, Nat.reduceAdd, Nat.reduceBEq, Nat.reduceLeDiff, Nat.reduceLT, Nat.reduceMul, Nat.reduceSub, Int.reduceEq, Int.reduceLT, Int.reduceLE, Int.reduceNeg, q1, put1, ifV, h1, iS]
      rfl
    · have q1 : decide (idx1 (inP s) L < 0) = false := decide_eq_false (by omega)
      have q2 : decide (0 ≤ ifI L s) = true := decide_eq_true hpos
      have h1 : ifE L s = 0 := by simp [ifE, hca, q2]
      have q3 : decide (0 ≤ idx1 (inP s) L) = true := q2
      have q4 : decide (idx1 (inP s) L < (L.length : Int)) = true := decide_eq_true hge.2
      obtain ⟨h, hh⟩ := getS (l := L) (i := (idx1 (inP s) L).toNat) (by omega)
      have hif : ifH L s = h := by simp [ifH, ifI, hh]
      have h15 := fun H => s8 (n + 4) H h.C h.f (hC h (List.mem_of_getElem? hh))
      simp only [go_sem, Int.cast_ofNat_Int, Int.reduceToNat, Bool.true_xor, Bool.false_xor, Bool.xor_true, Bool.xor_false, Nat.reduceAdd, Nat.reduceBEq, Nat.reduceLeDiff, Nat.reduceLT, Nat.reduceMul, Nat.reduceSub, Int.reduceEq, Int.reduceLT, Int.reduceLE, Int.reduceNeg, q1, q3, q4, hh, put1, h15, ifV, h1, hif]
theorem ifI_clr (L : List Hp) (s : Int) : ifI (L.map clr) s = ifI L s := by
  unfold ifI
  rw [idx1_map]
  rfl
theorem ifE_clr (L : List Hp) (s : Int) : ifE (L.map clr) s = ifE L s := by simp only [ifE, caE_clr, ifI_clr]
theorem ifV_clr (L : List Hp) (s : Int) : ifV true (L.map clr) s = ifV true L s := by
  simp only [ifV, ifE_clr]
  cases decide (ifE L s = 0) with
  | false => rfl
  | true =>
    simp only [cond_true, ifH, ifI_clr, List.getElem?_map]
    cases L[(ifI L s).toNat]? <;> rfl
abbrev hpsD : Bool × List DT := (false, [.lst [.int .i64, .int .i64, .int .i64, .lst [.int .i64]]])
theorem few_ok {L : List Hp} (h : fewB L = true) : L.length ≤ 10 ∧ hopOK L := by
  simp only [fewB, Bool.and_eq_true, decide_eq_true_eq, Bool.not_eq_true'] at h
  refine ⟨h.1, fun x hx => ?_⟩
  have := List.any_eq_false.1 h.2 x hx
  simp only [longB, decide_eq_true_eq] at this
  omega
theorem fits_hps : ∀ {L : List (List SV)}, (∀ q ∈ L, FitsL [.int .i64, .int .i64, .int .i64, .lst [.int .i64]] q) → ∃ N, L = hpsS N
  | [], _ => ⟨[], rfl⟩
  | r :: L, h => by
    obtain ⟨N, rfl⟩ := fits_hps (L := L) (fun q hq => h q (by simp [hq]))
    have k := h r (by simp)
    obtain ⟨v, _, rfl, _, k⟩ := fitsL_i k
    obtain ⟨a, _, rfl, _, k⟩ := fitsL_i k
    obtain ⟨b, _, rfl, _, k⟩ := fitsL_i k
    obtain ⟨L1, f1, _, rfl, m1, a1, k⟩ := fitsL_l k
    cases fitsL_nil' k
    obtain ⟨M, rfl⟩ := ints_of a1
    exact ⟨⟨v, a, b, M, f1⟩ :: N, rfl⟩
theorem hps_of {x : SV} (h : FitsA hpsD x) : ∃ L fl, x = .lst 4 (hpsS L) fl ∧ L.length ≤ maxLen := by
  obtain ⟨L1, f1, rfl, m1, a1⟩ := fits_lst (fitsA_one h)
  obtain ⟨N, rfl⟩ := fits_hps a1
  exact ⟨N, f1, rfl, by simpa [hpsS] using m1⟩
theorem fstE_zero {e : Nat → Int} {k : Nat} (h : fstE e k = 0) : ∀ j, j < k → e j = 0 := by
  intro j
  induction j using Nat.strongRecOn with
  | _ j ih =>
    intro hj
    rcases Decidable.em (e j = 0) with h0 | h0
    · exact h0
    · have := fstE_at hj (fun i hi => ih i hi (by omega)) rfl h0
      omega
theorem errAt_zero {L : List Hp} {i : Nat} {h : Hp} (hh : L[i]? = some h) (he : errAt L i = 0) : okP h = true ∧ ∀ j g, i = j + 1 → L[j]? = some g → h.a = g.b := by
  simp only [errAt, hh] at he
  cases hok : okP h with
  | false => rw [hok] at he; cases he
  | true =>
    refine ⟨rfl, fun j g hij hg => ?_⟩
    subst hij
    rw [hok] at he
    simp only [cond_true, hg] at he
    cases ha : decide (h.a = g.b) with
    | true => exact of_decide_eq_true ha
    | false => rw [ha] at he; cases he
theorem ca_zero {L : List Hp} (h : caE L = 0) : 0 < L.length ∧ ∀ j, j < L.length → errAt L j = 0 := by
  unfold caE at h
  cases hl : (decide (1 ≤ L.length) && decide (L.length ≤ 1024)) with
  | false => rw [hl] at h; cases h
  | true =>
    rw [hl] at h
    simp only [Bool.and_eq_true, decide_eq_true_eq] at hl
    exact ⟨by omega, fstE_zero h⟩
theorem ca_chain {L : List Hp} (hz : ∀ j, j < L.length → errAt L j = 0) : ∀ (k i : Nat) h g, i ≤ k → L[i]? = some h → L[k]? = some g → h.a ≤ g.a ∧ h.b ≤ g.b := by
  intro k
  induction k with
  | zero =>
    intro i h g hi hh hg
    obtain rfl : i = 0 := by omega
    rw [hh] at hg; cases hg; exact ⟨Int.le_refl _, Int.le_refl _⟩
  | succ k ih =>
    intro i h g hi hh hg
    have hlt := (List.getElem?_eq_some_iff.1 hg).1
    rcases Nat.lt_or_ge k i with h1 | h1
    · obtain rfl : i = k + 1 := by omega
      rw [hh] at hg; cases hg; exact ⟨Int.le_refl _, Int.le_refl _⟩
    · obtain ⟨m, hmm⟩ := getS (l := L) (i := k) (by omega)
      have := ih i h m h1 hh hmm
      have e1 := (errAt_zero hg (hz _ hlt)).2 k m rfl hmm
      have e2 := okH_spec (errAt_zero hg (hz _ hlt)).1
      have e3 := okH_spec (errAt_zero hmm (hz k (by omega))).1
      omega
theorem ca_in {L : List Hp} (hz : ∀ j, j < L.length → errAt L j = 0) (s : Int) {h0 : Hp} (hh0 : L[0]? = some h0) (hs : h0.a ≤ s) : ∀ (k : Nat) (g : Hp), L[k]? = some g → s < g.b → ∃ (i : Nat) (h : Hp), L[i]? = some h ∧ inP s h = true := by
  intro k
  induction k with
  | zero =>
    intro g hg hsb
    rw [hh0] at hg; cases hg
    exact ⟨0, h0, hh0, by simp [inP, hs, hsb]⟩
  | succ k ih =>
    intro g hg hsb
    have hlt := (List.getElem?_eq_some_iff.1 hg).1
    obtain ⟨m, hmm⟩ := getS (l := L) (i := k) (by omega)
    rcases Int.lt_or_le s m.b with h1 | h1
    · exact ih m hmm h1
    · have e1 := (errAt_zero hg (hz _ hlt)).2 k m rfl hmm
      exact ⟨k + 1, g, hg, by simp only [inP, Bool.and_eq_true, decide_eq_true_eq]; omega⟩
def nxv (v : Int) : Int := (w64 (v + 1)).tmod 256
def nxE (v a b : Int) (C : List Int) (u : Int) (D : List Int) : Int := bif okH v a b C && okH (nxv v) b u D then 0 else 1
def nxV (v a b : Int) (C : List Int) (u : Int) (D : List Int) : SV := bif okH v a b C && okH (nxv v) b u D then hl (nxv v) b u 1 D false else hl 0 0 0 0 [] true
theorem s21 (n : Nat) (H : Heap) (v a b : Int) (C : List Int) (f : Bool) (u : Int) (D : List Int) (g : Bool) (hC : C.length ≤ 1000) (hD : D.length ≤ 1000) : call1 T (n + 5) (.fn 21) [hl v a b 1 C f, .int .i64 u, .lst 1 (iS D) g] H = some (.tup [nxV v a b C u D, .int .i64 (nxE v a b C u D)], H) := by
  refine call_pure e21 (by rfl) ?_
  have h15 := fun H => s8 (n + 3) H D g hD
  have h1 := fun H => s15 n H v a b C f (Nat.le_trans hC (by decide))
  have h2 := fun H => s15 n H (nxv v) b u D false (Nat.le_trans hD (by decide))
  have hn : (w64 (v + 1)).tmod 256 = nxv v := rfl
  simp only [c21, heap0, go_sem, Int.cast_ofNat_Int, Int.reduceToNat, Bool.true_xor, Bool.false_xor, Bool.xor_true, Bool.xor_false, Nat.reduceAdd, Nat.reduceBEq, Nat.reduceLeDiff, Nat.reduceLT, Nat.reduceMul, Nat.reduceSub, Int.reduceEq, Int.reduceLT, Int.reduceLE, Int.reduceNeg, h15, hn, put1, h1]
  cases hok : okH v a b C with
  | false => simp only [go_sem, Int.cast_ofNat_Int, Int.reduceToNat, Bool.true_xor, Bool.false_xor, Bool.xor_true, Bool.xor_false, Nat.reduceAdd, Nat.reduceBEq, Nat.reduceLeDiff, Nat.reduceLT, Nat.reduceMul, Nat.reduceSub, Int.reduceEq, Int.reduceLT, Int.reduceLE, Int.reduceNeg, ckH_no hok, put1, nxV, nxE, hok]; rfl
  | true =>
    simp only [go_sem, Int.cast_ofNat_Int, Int.reduceToNat, Bool.true_xor, Bool.false_xor, Bool.xor_true, Bool.xor_false, Nat.reduceAdd, Nat.reduceBEq, Nat.reduceLeDiff, Nat.reduceLT, Nat.reduceMul, Nat.reduceSub, Int.reduceEq, Int.reduceLT, Int.reduceLE, Int.reduceNeg, ckH_yes hok, h2]
    cases hok2 : okH (nxv v) b u D with
    | false => simp only [go_sem, Int.cast_ofNat_Int, Int.reduceToNat, Bool.true_xor, Bool.false_xor, Bool.xor_true, Bool.xor_false, Nat.reduceAdd, Nat.reduceBEq, Nat.reduceLeDiff, Nat.reduceLT, Nat.reduceMul, Nat.reduceSub, Int.reduceEq, Int.reduceLT, Int.reduceLE, Int.reduceNeg, ckH_no hok2, put1, nxV, nxE, hok, hok2]; rfl
    | true => simp only [go_sem, Int.cast_ofNat_Int, Int.reduceToNat, Bool.true_xor, Bool.false_xor, Bool.xor_true, Bool.xor_false, Nat.reduceAdd, Nat.reduceBEq, Nat.reduceLeDiff, Nat.reduceLT, Nat.reduceMul, Nat.reduceSub, Int.reduceEq, Int.reduceLT, Int.reduceLE, Int.reduceNeg, ckH_yes hok2, put1, nxV, nxE, hok, hok2]
theorem nxv_eq {v : Int} (h0 : 0 ≤ v) (h1 : v ≤ 255) : nxv v = (v + 1) % 256 := by
  unfold nxv
  rw [w64_id (by omega) (by omega), Int.tmod_eq_emod_of_nonneg (by omega)]
theorem iS_nil : iS [] = [] := rfl
theorem new_out {x y : Int} (h : ¬ ((0 ≤ x ∧ x ≤ 255) ∧ 0 ≤ y ∧ y ≤ 255)) : newB x y = false := by
  rw [Bool.eq_false_iff]
  intro hb
  simp only [newB, Bool.and_eq_true, decide_eq_true_eq] at hb
  exact h ⟨⟨hb.1.1.1.1.1, hb.1.1.1.1.2⟩, hb.1.1.1.2, hb.1.1.2⟩
theorem new_in {x y : Int} (h : (0 ≤ x ∧ x ≤ 255) ∧ 0 ≤ y ∧ y ≤ 255) : newB x y = decide (1 ≤ (x - y) % 256 ∧ (x - y) % 256 ≤ 127) := by
  rw [Bool.eq_iff_iff]
  simp only [newB, Bool.and_eq_true, decide_eq_true_eq]
  omega
theorem new_three {x y : Int} (h : (0 ≤ x ∧ x ≤ 255) ∧ 0 ≤ y ∧ y ≤ 255) : (newB x y = true ∧ newB y x = false ∧ max (x - y) (y - x) ≠ 0 ∧ max (x - y) (y - x) ≠ 128) ∨ (newB x y = false ∧ newB y x = true ∧ max (x - y) (y - x) ≠ 0 ∧ max (x - y) (y - x) ≠ 128) ∨
    (newB x y = false ∧ newB y x = false ∧ (max (x - y) (y - x) = 0 ∨ max (x - y) (y - x) = 128)) := by
  rw [new_in h, new_in ⟨h.2, h.1⟩]
  simp only [decide_eq_true_eq, decide_eq_false_iff_not]
  omega
theorem ca_two {v a b : Int} {C : List Int} {f : Bool} {u : Int} (h1 : okH v a b C = true) (h2 : okH (nxv v) b u C = true) : caE [⟨v, a, b, C, f⟩, ⟨nxv v, b, u, C, false⟩] = 0 := by
  have e0 : errAt [⟨v, a, b, C, f⟩, ⟨nxv v, b, u, C, false⟩] 0 = 0 := by simp [errAt, h1]
  have e1 : errAt [⟨v, a, b, C, f⟩, ⟨nxv v, b, u, C, false⟩] 1 = 0 := by
    show (bif okH (nxv v) b u C then (bif decide (b = b) then (bif decide (nxv v = nxv v) then 0 else 23) else 5) else 1 : Int) = 0
    simp [h2]
  have : fstE (errAt [⟨v, a, b, C, f⟩, ⟨nxv v, b, u, C, false⟩]) 2 = 0 := fstE_none (fun j hj => by
    rcases (show j = 0 ∨ j = 1 by omega) with rfl | rfl
    · exact e0
    · exact e1)
  simpa [caE] using this
def bx (f : Nat → Bool) : List SV := (List.range 16).map fun j => .bool (f j)
@[go_sem] theorem bx_len (f) : (bx f).length = 16 := by simp [bx]
theorem bx_get {f : Nat → Bool} {j : Nat} (h : j < 16) : (bx f)[j]? = some (.bool (f j)) := by simp [bx, h]
theorem put1_set {cs : List SV} {o : Nat} {x : SV} (h : o < cs.length) : put1 cs o 1 [x] = cs.set o x := by
  rw [put1, List.set_eq_take_append_cons_drop, if_pos h]
  simp
theorem bx_set {f : Nat → Bool} {c : Nat} (h : c < 16) : put1 (bx f) c 1 [.bool true] = bx (fun j => f j || j == c) := by
  rw [put1_set (by rw [bx_len]; exact h)]
  apply List.ext_getElem?
  intro j
  by_cases hj : j < 16
  · rw [bx_get hj]
    by_cases hjc : j = c
    · subst hjc
      rw [List.getElem?_set_self (by rw [bx_len]; exact hj)]
      simp
    · rw [List.getElem?_set_ne (fun e => hjc e.symm), bx_get hj]
      simp [hjc]
  · rw [List.getElem?_eq_none (by simp [bx_len]; omega), List.getElem?_eq_none (by rw [bx_len]; omega)]
theorem bx_set' {f : Nat → Bool} {c : Nat} (h : c < 16) : List.take c (bx f) ++ [SV.bool true] ++ List.drop (c + 1) (bx f) = bx (fun j => f j || j == c) := bx_set h
theorem bx_congr {f g : Nat → Bool} (h : ∀ j, f j = g j) : bx f = bx g := by rw [show f = g from funext h]
def st1 (C B : List Int) (i : Nat) (j : Nat) : Bool := decide ((j : Int) ∈ C.take i) && !decide ((j : Int) ∈ B)
def ct1 (C B : List Int) (i : Nat) : Nat := ((C.take i).filter (fun c => !decide (c ∈ B))).length
theorem ct1_le (C B i) : ct1 C B i ≤ i := Nat.le_trans (List.length_filter_le _ _) (by simp; omega)
theorem chan_nat {c : Int} (h : chanB c = true) : ∃ k : Nat, c = k ∧ k < 16 := by
  simp only [chanB, Bool.and_eq_true, decide_eq_true_eq] at h
  exact ⟨c.toNat, by omega, by omega⟩
theorem st1_yes {C B : List Int} {i k : Nat} (hc : C[i]? = some (k : Int)) (hb : ¬ (k : Int) ∈ B) (j : Nat) : (st1 C B i j || j == k) = st1 C B (i + 1) j := by
  simp only [st1, take_snoc hc, List.mem_append, List.mem_singleton]
  by_cases h : j = k
  · subst h; simp [hb]
  · have : ¬ (j : Int) = (k : Int) := by omega
    simp [h, this]
theorem st1_no {C B : List Int} {i : Nat} {c : Int} (hc : C[i]? = some c) (hb : c ∈ B) (j : Nat) : st1 C B (i + 1) j = st1 C B i j := by
  simp only [st1, take_snoc hc, List.mem_append, List.mem_singleton]
  by_cases h : (j : Int) = c
  · subst h; simp [hb]
  · simp [h]
theorem ct1_yes {C B : List Int} {i : Nat} {c : Int} (hc : C[i]? = some c) (hb : ¬ c ∈ B) : ct1 C B (i + 1) = ct1 C B i + 1 := by
  simp [ct1, take_snoc hc, List.filter_append, hb]
theorem ct1_no {C B : List Int} {i : Nat} {c : Int} (hc : C[i]? = some c) (hb : c ∈ B) : ct1 C B (i + 1) = ct1 C B i := by
  simp [ct1, take_snoc hc, List.filter_append, hb]
/-- What is kept of the blacklist's first channels. -/
def kp (C B : List Int) (least : Int) : Nat → List Int
  | 0 => []
  | i + 1 => match B[i]? with
    | some c => bif decide ((ct1 C B C.length : Int) + (kp C B least i).length < least) && (decide (c ∈ C) && !decide (c ∈ kp C B least i)) then kp C B least i ++ [c] else kp C B least i
    | none => kp C B least i
theorem kp_len (C B least) : ∀ i, (kp C B least i).length ≤ i
  | 0 => Nat.le_refl 0
  | i + 1 => by
    have ih := kp_len C B least i
    unfold kp
    split
    · rename_i c hc
      cases (decide ((ct1 C B C.length : Int) + (kp C B least i).length < least) && (decide (c ∈ C) && !decide (c ∈ kp C B least i))) <;> simp <;> omega
    · omega
theorem kp_step {C B : List Int} {least : Int} {i : Nat} {c : Int} (hc : B[i]? = some c) : kp C B least (i + 1) = bif decide ((ct1 C B C.length : Int) + (kp C B least i).length < least) && (decide (c ∈ C) && !decide (c ∈ kp C B least i)) then kp C B least i ++ [c] else kp C B least i := by
  simp [kp, hc]
theorem kp_stop {C B : List Int} {least : Int} {i : Nat} (h : ¬ (ct1 C B C.length : Int) + (kp C B least i).length < least) : ∀ k, kp C B least (i + k) = kp C B least i
  | 0 => rfl
  | k + 1 => by
    have ih := kp_stop h k
    show kp C B least ((i + k) + 1) = _
    cases hb : B[i + k]? with
    | none => rw [← ih]; simp [kp, hb]
    | some c => rw [kp_step hb, ih, decide_eq_false h]; rfl
def wl (C B : List Int) (least : Int) : List Int := C.filter fun y => !decide (y ∈ B) || decide (y ∈ kp C B least B.length)
def badB (B : List Int) : Bool := B.any fun c => !chanB c
def woE (C B : List Int) (least : Int) : Int := bif difB C && (decide (B.length ≤ 64) && !badB B) then (bif decide (1 ≤ least) && decide (least ≤ (C.length : Int)) then 0 else 2) else 1
def woV (C B : List Int) (least : Int) : SV := bif decide (woE C B least = 0) then .lst 1 (iS (wl C B least)) false else .lst 0 [] true
theorem s60 (n : Nat) (H : Heap) (c : Int) : call1 T (n + 2) (.fn 60) [.int .i64 c] H = some (.bool (!chanB c), H) := by
  refine call_pure e60 (by rfl) ?_
  simp only [c60, heap0, go_sem, Int.cast_ofNat_Int, Int.reduceToNat, Bool.true_xor, Bool.false_xor, Bool.xor_true, Bool.xor_false, Nat.reduceAdd, Nat.reduceBEq, Nat.reduceLeDiff, Nat.reduceLT, Nat.reduceMul, Nat.reduceSub, Int.reduceEq, Int.reduceLT, Int.reduceLE, Int.reduceNeg, s61]
def toI (r : List SV) : Int := match r with | [.int _ x] => x | _ => 0
theorem any_iS (p : Int → Bool) (L : List Int) : (iS L).any (fun r => p (toI r)) = L.any p := by
  simp only [iS, List.any_map]
  rfl
theorem s59 (n : Nat) (H : Heap) (B : List Int) (f : Bool) (hB : B.length ≤ maxLen) : call1 T (n + 4) (.fn 59) [.lst 1 (iS B) f, .fn 60 []] H = some (.bool (badB B), H) := by
  have := stdCF_ok (T := T) (f := 59) (n := n + 2) (H := H) (ag := false) (z := 1) (id := 60) (caps := []) (v := .lst 1 (iS B) f) (L := iS B) (p := fun r => !chanB (toI r)) x38 x51 lvI (iS_row B) (fun _ => rfl) (by rw [iS_len]; exact hB)
    (fun r hr bl ro _ => by
      simp only [iS, List.mem_map] at hr
      obtain ⟨c, _, rfl⟩ := hr
      exact s60 n ⟨bl, [], ro⟩ c) (by simp [SV.refs.refsL])
  rw [any_iS (fun c => !chanB c)] at this
  exact this
theorem s63 (n : Nat) (bl : List SBlk) (ro : Nat) (c : Int) (f : Nat → Bool) (X : SBlk) (hb : bl = [.box (bx f), X]) (hc : chanB c = true) : call1 T (n + 1) (.fn 63) [.int .i64 c, .ptr 0 0 0 0] ⟨bl, [], ro⟩ = some (.bool (!f c.toNat), ⟨bl, [], ro⟩) := by
  subst hb
  obtain ⟨k, rfl, hk⟩ := chan_nat hc
  refine call_in e63 (by rfl) ?_
  have hk' : decide ((k : Int) < 16) = true := decide_eq_true (by omega)
  simp only [c63, go_sem, Int.cast_ofNat_Int, Int.reduceToNat, Bool.true_xor, Bool.false_xor, Bool.xor_true, Bool.xor_false, Nat.reduceAdd, Nat.reduceBEq, Nat.reduceLeDiff, Nat.reduceLT, Nat.reduceMul, Nat.reduceSub, Int.reduceEq, Int.reduceLT, Int.reduceLE, Int.reduceNeg, hk', Nat.mul_one, bx_get hk]
theorem bad_chan {B : List Int} (h : badB B = false) {c : Int} (hc : c ∈ B) : chanB c = true := by
  have := List.any_eq_false.1 h c hc
  simpa using this
theorem dif_mem {C : List Int} (h : difB C = true) {c : Int} (hc : c ∈ C) : chanB c = true := by
  obtain ⟨i, hi⟩ := List.mem_iff_getElem?.1 hc
  exact difB_chan h hi
def st2 (C B : List Int) (least : Int) (i : Nat) (j : Nat) : Bool := st1 C B C.length j || decide ((j : Int) ∈ kp C B least i)
theorem fz_take {L : List (List SV)} (h : Still L) (N H d v n z) (hn : n ≤ L.length) : fzB N H (d + 1) v 0 n (some (.arr v z L false)) = some (.lst z (L.take n) false) := by
  have hs : Still (L.take n) := fun cs hcs c hc => h cs (List.mem_of_mem_take hcs) c hc
  simp only [fzB, List.drop_zero, Nat.zero_add, beq_self_eq_true, Bool.true_and, hn, decide_true, cond_true, Bool.false_and]
  rw [allS_id (fun cs hcs => allS_id (fun c hc => (hs cs hcs c hc).2 N H d))]
  simp [hs.zero]
theorem refs_bx (f : Nat → Bool) : SV.refs.refsL (bx f) = 0 := by
  have key : ∀ (l : List Nat), SV.refs.refsL (l.map fun j => SV.bool (f j)) = 0 := by
    intro l
    induction l with
    | nil => simp [SV.refs.refsL]
    | cons a l ih => simp [SV.refs.refsL, SV.refs, ih]
  exact key _
theorem s20 (n : Nat) (H : Heap) (C B : List Int) (f g : Bool) (least : Int) (hC : C.length ≤ 1000) (hB : B.length ≤ 1000) : call1 T (n + 5) (.fn 20) [.lst 1 (iS C) f, .lst 1 (iS B) g, .int .i64 least] H = some (.tup [woV C B least, .int .i64 (woE C B least)], H) := by
  refine call_pure e20 (by rfl) ?_
  have hCm : C.length ≤ maxLen := Nat.le_trans hC (by decide)
  have hBm : B.length ≤ maxLen := Nat.le_trans hB (by decide)
  have h37 := fun H => s53 (n + 1) H C f hCm
  have h38 := fun H => s59 n H B g hBm
  have hd64 : decide (64 < (B.length : Int)) = !decide (B.length ≤ 64) := by
    rw [Bool.eq_iff_iff, Bool.not_eq_true', decide_eq_true_eq, decide_eq_false_iff_not]; omega
  simp only [c20, heap0, go_sem, Int.cast_ofNat_Int, Int.reduceToNat, Bool.true_xor, Bool.false_xor, Bool.xor_true, Bool.xor_false, Nat.reduceAdd, Nat.reduceBEq, Nat.reduceLeDiff, Nat.reduceLT, Nat.reduceMul, Nat.reduceSub, Int.reduceEq, Int.reduceLT, Int.reduceLE, Int.reduceNeg, h37, hd64]
  cases hd : difB C with
  | false => simp only [go_sem, Int.cast_ofNat_Int, Int.reduceToNat, Bool.true_xor, Bool.false_xor, Bool.xor_true, Bool.xor_false, Nat.reduceAdd, Nat.reduceBEq, Nat.reduceLeDiff, Nat.reduceLT, Nat.reduceMul, Nat.reduceSub, Int.reduceEq, Int.reduceLT, Int.reduceLE, Int.reduceNeg, woV, woE, hd]
  | true =>
    cases h64 : decide (B.length ≤ 64) with
    | false => simp only [go_sem, Int.cast_ofNat_Int, Int.reduceToNat, Bool.true_xor, Bool.false_xor, Bool.xor_true, Bool.xor_false, Nat.reduceAdd, Nat.reduceBEq, Nat.reduceLeDiff, Nat.reduceLT, Nat.reduceMul, Nat.reduceSub, Int.reduceEq, Int.reduceLT, Int.reduceLE, Int.reduceNeg, woV, woE, hd, hd64, h64]
    | true =>
      simp only [go_sem, Int.cast_ofNat_Int, Int.reduceToNat, Bool.true_xor, Bool.false_xor, Bool.xor_true, Bool.xor_false, Nat.reduceAdd, Nat.reduceBEq, Nat.reduceLeDiff, Nat.reduceLT, Nat.reduceMul, Nat.reduceSub, Int.reduceEq, Int.reduceLT, Int.reduceLE, Int.reduceNeg, hd64, h64, h38]
      cases hbad : badB B with
      | true => simp only [go_sem, Int.cast_ofNat_Int, Int.reduceToNat, Bool.true_xor, Bool.false_xor, Bool.xor_true, Bool.xor_false, Nat.reduceAdd, Nat.reduceBEq, Nat.reduceLeDiff, Nat.reduceLT, Nat.reduceMul, Nat.reduceSub, Int.reduceEq, Int.reduceLT, Int.reduceLE, Int.reduceNeg, woV, woE, hd, h64, hbad]
      | false =>
        simp only [go_sem, Int.cast_ofNat_Int, Int.reduceToNat, Bool.true_xor, Bool.false_xor, Bool.xor_true, Bool.xor_false, Nat.reduceAdd, Nat.reduceBEq, Nat.reduceLeDiff, Nat.reduceLT, Nat.reduceMul, Nat.reduceSub, Int.reduceEq, Int.reduceLT, Int.reduceLE, Int.reduceNeg]
        by_cases hle : 1 ≤ least ∧ least ≤ (C.length : Int)
        rotate_left
        · have : (decide (1 ≤ least) && decide (least ≤ (C.length : Int))) = false := by
            rw [Bool.and_eq_false_iff]; simp only [decide_eq_false_iff_not]; omega
          by_cases h1 : least < 1
          · simp only [go_sem, Int.cast_ofNat_Int, Int.reduceToNat, Bool.true_xor, Bool.false_xor, Bool.xor_true, Bool.xor_false, Nat.reduceAdd, Nat.reduceBEq, Nat.reduceLeDiff, Nat.reduceLT, Nat.reduceMul, Nat.reduceSub, Int.reduceEq, Int.reduceLT, Int.reduceLE, Int.reduceNeg, decide_eq_true h1, woV, woE, hd, h64, hbad, this]
          · have h2 : decide ((C.length : Int) < least) = true := decide_eq_true (by omega)
            simp only [go_sem, Int.cast_ofNat_Int, Int.reduceToNat, Bool.true_xor, Bool.false_xor, Bool.xor_true, Bool.xor_false, Nat.reduceAdd, Nat.reduceBEq, Nat.reduceLeDiff, Nat.reduceLT, Nat.reduceMul, Nat.reduceSub, Int.reduceEq, Int.reduceLT, Int.reduceLE, Int.reduceNeg, decide_eq_false h1, h2, woV, woE, hd, h64, hbad, this]
        · have q1 : decide (least < 1) = false := decide_eq_false (by omega)
          have q2 : decide ((C.length : Int) < least) = false := decide_eq_false (by omega)
          have q3 : decide (1 ≤ least) = true := decide_eq_true hle.1
          have q4 : decide (least ≤ (C.length : Int)) = true := decide_eq_true hle.2
          have hwo : woE C B least = 0 := by simp [woE, hd, h64, hbad, q3, q4]
          have hwv : woV C B least = .lst 1 (iS (wl C B least)) false := by simp [woV, hwo]
          have hinit : ([.bool false, .bool false, .bool false, .bool false, .bool false, .bool false, .bool false, .bool false, .bool false, .bool false, .bool false, .bool false, .bool false, .bool false, .bool false, .bool false] : List SV) = bx (st1 C B 0) := by
            refine Eq.trans (b := bx (fun _ => false)) rfl (bx_congr (fun j => ?_))
            simp [st1]
          rw [hwo, hwv]
          simp only [go_sem, Int.cast_ofNat_Int, Int.reduceToNat, Bool.true_xor, Bool.false_xor, Bool.xor_true, Bool.xor_false, Nat.reduceAdd, Nat.reduceBEq, Nat.reduceLeDiff, Nat.reduceLT, Nat.reduceMul, Nat.reduceSub, Int.reduceEq, Int.reduceLT, Int.reduceLE, Int.reduceNeg, q1, q2, hinit]
          refine loop_rule (fun i => ([(0, .lst 1 (iS C) f), (1, .lst 1 (iS B) g), (2, .int .i64 least), (8, .ptr 0 0 0 0), (9, .int .i64 (ct1 C B i)), (34, .lst 1 (iS C) f), (35, .int .i64 C.length), (36, .int .i64 i)], ⟨[.box (bx (st1 C B i))], [], 0⟩)) (fun _ => True) C.length ?_ trivial ?_
          · simp only [go_sem, Int.cast_ofNat_Int, Int.reduceToNat, Bool.true_xor, Bool.false_xor, Bool.xor_true, Bool.xor_false, Nat.reduceAdd, Nat.reduceBEq, Nat.reduceLeDiff, Nat.reduceLT, Nat.reduceMul, Nat.reduceSub, Int.reduceEq, Int.reduceLT, Int.reduceLE, Int.reduceNeg] <;> rfl
          · intro i hi _
            rcases Nat.lt_or_ge i C.length with hlt | hge
            · obtain ⟨c, hc⟩ := getS hlt
              have hw := w64_suc hlt hCm
              obtain ⟨k, rfl, hk⟩ := chan_nat (difB_chan hd hc)
              have hk' : decide ((k : Int) < 16) = true := decide_eq_true (by omega)
              have hk16 : decide (k ≤ 15) = true := decide_eq_true (by omega)
              have h13 := fun H => stdCon_ok (n := n + 2) (H := H) (v := .lst 1 (iS B) g) (M := B) (x := (k : Int)) x13 x36 lvI hBm
              simp only [go_sem, Int.cast_ofNat_Int, Int.reduceToNat, Bool.true_xor, Bool.false_xor, Bool.xor_true, Bool.xor_false, Nat.reduceAdd, Nat.reduceBEq, Nat.reduceLeDiff, Nat.reduceLT, Nat.reduceMul, Nat.reduceSub, Int.reduceEq, Int.reduceLT, Int.reduceLE, Int.reduceNeg, hlt, hc, h13]
              cases hm : decide ((k : Int) ∈ B) with
              | true =>
                have hm' := of_decide_eq_true hm
                simp only [go_sem, Int.cast_ofNat_Int, Int.reduceToNat, Bool.true_xor, Bool.false_xor, Bool.xor_true, Bool.xor_false, Nat.reduceAdd, Nat.reduceBEq, Nat.reduceLeDiff, Nat.reduceLT, Nat.reduceMul, Nat.reduceSub, Int.reduceEq, Int.reduceLT, Int.reduceLE, Int.reduceNeg, hw, ct1_no hc hm', bx_congr (st1_no hc hm')]
                refine ⟨by first | trivial | omega, by first | trivial | rfl, ?_⟩
                trivial
              | false =>
                have hm' := of_decide_eq_false hm
                have hwn := w64_suc (n := C.length) (i := ct1 C B i) (by have := ct1_le C B i; omega) hCm
                simp only [go_sem, Int.cast_ofNat_Int, Int.reduceToNat, Bool.true_xor, Bool.false_xor, Bool.xor_true, Bool.xor_false, Nat.reduceAdd, Nat.reduceBEq, Nat.reduceLeDiff, Nat.reduceLT, Nat.reduceMul, Nat.reduceSub, Int.reduceEq, Int.reduceLT, Int.reduceLE, Int.reduceNeg, hk', hk16, Nat.mul_one, bx_set' hk, bx_congr (st1_yes hc hm'), hw, hwn, ct1_yes hc hm']
                refine ⟨by first | trivial | omega, by first | trivial | rfl, ?_⟩
                trivial
            · obtain rfl : i = C.length := by omega
              have hst : bx (st1 C B C.length) = bx (st2 C B least 0) := bx_congr (fun j => by simp [st2, kp])
              have hct : (ct1 C B C.length : Int) = ((ct1 C B C.length + (kp C B least 0).length : Nat) : Int) := by simp [kp]
              simp only [go_sem, Int.cast_ofNat_Int, Int.reduceToNat, Bool.true_xor, Bool.false_xor, Bool.xor_true, Bool.xor_false, Nat.reduceAdd, Nat.reduceBEq, Nat.reduceLeDiff, Nat.reduceLT, Nat.reduceMul, Nat.reduceSub, Int.reduceEq, Int.reduceLT, Int.reduceLE, Int.reduceNeg, Nat.lt_irrefl]
              rw [hst, hct]
              refine loop_rule (fun i => ([(0, .lst 1 (iS C) f), (2, .int .i64 least), (8, .ptr 0 0 0 0), (9, .int .i64 ((ct1 C B C.length + (kp C B least i).length : Nat) : Int)), (49, .lst 1 (iS B) g), (50, .int .i64 B.length), (51, .int .i64 i)], ⟨[.box (bx (st2 C B least i))], [], 0⟩)) (fun _ => True) B.length ?_ trivial ?_
              · simp only [go_sem, Int.cast_ofNat_Int, Int.reduceToNat, Bool.true_xor, Bool.false_xor, Bool.xor_true, Bool.xor_false, Nat.reduceAdd, Nat.reduceBEq, Nat.reduceLeDiff, Nat.reduceLT, Nat.reduceMul, Nat.reduceSub, Int.reduceEq, Int.reduceLT, Int.reduceLE, Int.reduceNeg] <;> rfl
              · intro i hi _
                rcases Nat.lt_or_ge i B.length with hlt | hge
                · obtain ⟨c, hc⟩ := getS hlt
                  have hw := w64_suc hlt hBm
                  have hcB := List.mem_of_getElem? hc
                  obtain ⟨k, rfl, hk⟩ := chan_nat (bad_chan hbad hcB)
                  have hk' : decide ((k : Int) < 16) = true := decide_eq_true (by omega)
                  have hk16 : decide (k ≤ 15) = true := decide_eq_true (by omega)
                  have h13 := fun H => stdCon_ok (n := n + 2) (H := H) (v := .lst 1 (iS C) f) (M := C) (x := (k : Int)) x13 x36 lvI hCm
                  have hst : st2 C B least i k = decide ((k : Int) ∈ kp C B least i) := by simp [st2, st1, hcB]
                  have hkl := kp_len C B least i
                  have hcl := ct1_le C B C.length
                  have hks := kp_step (C := C) (least := least) hc
                  have hcc : decide (((ct1 C B C.length + (kp C B least i).length : Nat) : Int) < least) = decide ((ct1 C B C.length : Int) + (kp C B least i).length < least) := by simp
                  have same : kp C B least (i + 1) = kp C B least i → bx (st2 C B least i) = bx (st2 C B least (i + 1)) := fun e => bx_congr (fun j => by simp only [st2, e])
                  simp only [go_sem, Int.cast_ofNat_Int, Int.reduceToNat, Bool.true_xor, Bool.false_xor, Bool.xor_true, Bool.xor_false, Nat.reduceAdd, Nat.reduceBEq, Nat.reduceLeDiff, Nat.reduceLT, Nat.reduceMul, Nat.reduceSub, Int.reduceEq, Int.reduceLT, Int.reduceLE, Int.reduceNeg, hlt, hc, hcc]
                  cases h1 : decide ((ct1 C B C.length : Int) + (kp C B least i).length < least) with
                  | false =>
                    have hk1 : kp C B least (i + 1) = kp C B least i := by rw [hks, h1]; rfl
                    simp only [go_sem, Int.cast_ofNat_Int, Int.reduceToNat, Bool.true_xor, Bool.false_xor, Bool.xor_true, Bool.xor_false, Nat.reduceAdd, Nat.reduceBEq, Nat.reduceLeDiff, Nat.reduceLT, Nat.reduceMul, Nat.reduceSub, Int.reduceEq, Int.reduceLT, Int.reduceLE, Int.reduceNeg, hw, hk1, same hk1]
                    refine ⟨by first | trivial | omega, by first | trivial | rfl, ?_⟩
                    trivial
                  | true =>
                    simp only [go_sem, Int.cast_ofNat_Int, Int.reduceToNat, Bool.true_xor, Bool.false_xor, Bool.xor_true, Bool.xor_false, Nat.reduceAdd, Nat.reduceBEq, Nat.reduceLeDiff, Nat.reduceLT, Nat.reduceMul, Nat.reduceSub, Int.reduceEq, Int.reduceLT, Int.reduceLE, Int.reduceNeg, hk', Nat.mul_one, bx_get hk, hst]
                    cases h2 : decide ((k : Int) ∈ kp C B least i) with
                    | true =>
                      have hk1 : kp C B least (i + 1) = kp C B least i := by rw [hks, h1, h2]; simp
                      simp only [go_sem, Int.cast_ofNat_Int, Int.reduceToNat, Bool.true_xor, Bool.false_xor, Bool.xor_true, Bool.xor_false, Nat.reduceAdd, Nat.reduceBEq, Nat.reduceLeDiff, Nat.reduceLT, Nat.reduceMul, Nat.reduceSub, Int.reduceEq, Int.reduceLT, Int.reduceLE, Int.reduceNeg, hw, hk1, same hk1]
                      refine ⟨by first | trivial | omega, by first | trivial | rfl, ?_⟩
                      trivial
                    | false =>
                      simp only [go_sem, Int.cast_ofNat_Int, Int.reduceToNat, Bool.true_xor, Bool.false_xor, Bool.xor_true, Bool.xor_false, Nat.reduceAdd, Nat.reduceBEq, Nat.reduceLeDiff, Nat.reduceLT, Nat.reduceMul, Nat.reduceSub, Int.reduceEq, Int.reduceLT, Int.reduceLE, Int.reduceNeg, h13]
                      cases h3 : decide ((k : Int) ∈ C) with
                      | false =>
                        have hk1 : kp C B least (i + 1) = kp C B least i := by rw [hks, h1, h2, h3]; rfl
                        simp only [go_sem, Int.cast_ofNat_Int, Int.reduceToNat, Bool.true_xor, Bool.false_xor, Bool.xor_true, Bool.xor_false, Nat.reduceAdd, Nat.reduceBEq, Nat.reduceLeDiff, Nat.reduceLT, Nat.reduceMul, Nat.reduceSub, Int.reduceEq, Int.reduceLT, Int.reduceLE, Int.reduceNeg, hw, hk1, same hk1]
                        refine ⟨by first | trivial | omega, by first | trivial | rfl, ?_⟩
                        trivial
                      | true =>
                        have hk1 : kp C B least (i + 1) = kp C B least i ++ [(k : Int)] := by rw [hks, h1, h2, h3]; rfl
                        have hbx : bx (fun j => st2 C B least i j || j == k) = bx (st2 C B least (i + 1)) := bx_congr (fun j => by
                          simp only [st2, hk1, List.mem_append, List.mem_singleton]
                          by_cases hjk : j = k
                          · subst hjk; simp
                          · have : ¬ (j : Int) = (k : Int) := by omega
                            simp [hjk, this])
                        have hwn := w64_suc (n := 3000) (i := ct1 C B C.length + (kp C B least i).length) (by omega) (by decide)
                        have hln : (kp C B least (i + 1)).length = (kp C B least i).length + 1 := by rw [hk1]; simp
                        simp only [go_sem, Int.cast_ofNat_Int, Int.reduceToNat, Bool.true_xor, Bool.false_xor, Bool.xor_true, Bool.xor_false, Nat.reduceAdd, Nat.reduceBEq, Nat.reduceLeDiff, Nat.reduceLT, Nat.reduceMul, Nat.reduceSub, Int.reduceEq, Int.reduceLT, Int.reduceLE, Int.reduceNeg, hk', hk16, Nat.mul_one, bx_set' hk, hbx, hw, hwn, hln, Nat.add_assoc]
                        refine ⟨by first | trivial | omega, by first | trivial | rfl, ?_⟩
                        trivial
                · obtain rfl : i = B.length := by omega
                  have h15 := stdCloneK_ok (T := T) (f := 8) (n := n + 3) (z := 1) (z' := 1) (L := iS C) (fl := f) x15 (.inl rfl) (by rw [iS_len]; exact room8' hC) [.box (bx (st2 C B least B.length))] [] 0
                  obtain ⟨W, hW, h41⟩ := stdDel_ok (T := T) (f := 62) (n := n + 2) (id := 63) (caps := [.ptr 0 0 0 0]) (M := C) (p := fun y => !st2 C B least B.length y.toNat) (bl := [.box (bx (st2 C B least B.length)), .arr 0 1 (iS C) false]) (ro := 0) (b := 1) (ex := false) x41 x51 rfl (by omega) hCm
                    (fun y hy X ro m hm => by
                      have h42 := fun m => s63 m [.box (bx (st2 C B least B.length)), X] ro y (st2 C B least B.length) X rfl (dif_mem hd hy)
                      rcases hm with rfl | rfl
                      · exact h42 (n + 1)
                      · exact h42 (n + 2)) (by simp [SV.refs.refsL, SV.refs])
                  have hWw : W = wl C B least := by
                    rw [hW, wl]
                    refine List.filter_congr (fun y hy => ?_)
                    obtain ⟨k, rfl, hk⟩ := chan_nat (dif_mem hd hy)
                    simp [st2, st1, hy]
                  subst hWw
                  simp only [iS_len] at h15
                  have hfz := fun H v => fz_take (Still.ints (wl C B least ++ List.replicate (C.length - (wl C B least).length) 0)) 0 H 5 v (wl C B least).length 1 (by rw [iS_len]; simp)
                  have htk : (iS (wl C B least ++ List.replicate (C.length - (wl C B least).length) 0)).take (wl C B least).length = iS (wl C B least) := by rw [iS_take]; simp
                  simp only [go_sem, Int.cast_ofNat_Int, Int.reduceToNat, Bool.true_xor, Bool.false_xor, Bool.xor_true, Bool.xor_false, Nat.reduceAdd, Nat.reduceBEq, Nat.reduceLeDiff, Nat.reduceLT, Nat.reduceMul, Nat.reduceSub, Int.reduceEq, Int.reduceLT, Int.reduceLE, Int.reduceNeg, Nat.lt_irrefl, h15, h41, hfz, htk]
abbrev blD : Bool × List DT := (true, [.lst [.int .i64], .lst [.int .i64], .int .i64])
abbrev bk (C : List Int) (f : Bool) (B : List Int) (g : Bool) (least : Int) : SV := .agg [.lst 1 (iS C) f, .lst 1 (iS B) g, .int .i64 least]
theorem bk_of {x : SV} (h : FitsA blD x) : ∃ C f B g least, x = bk C f B g least := by
  obtain ⟨cs, rfl, k⟩ := fitsA_agg h
  obtain ⟨L1, f1, _, rfl, m1, a1, k⟩ := fitsL_l k
  obtain ⟨L2, f2, _, rfl, m2, a2, k⟩ := fitsL_l k
  obtain ⟨n, _, rfl, _, k⟩ := fitsL_i k
  cases fitsL_nil' k
  obtain ⟨N, rfl⟩ := ints_of a1
  obtain ⟨M, rfl⟩ := ints_of a2
  exact ⟨N, f1, M, f2, n, rfl⟩
theorem wo_len {C B : List Int} {least : Int} : (wl C B least).length ≤ C.length := List.length_filter_le _ _
theorem dif_nodup {C : List Int} (h : difB C = true) : C.Nodup := by
  rw [List.Nodup, List.pairwise_iff_getElem]
  intro i j hi hj hij
  exact difB_ne h (List.getElem?_eq_getElem hi) (List.getElem?_eq_getElem hj) hij
theorem filter_one {P : Int → Bool} {c : Int} : ∀ {C : List Int}, C.Nodup → c ∈ C → P c = false → (C.filter fun x => P x || decide (x = c)).length = (C.filter P).length + 1
  | [], _, h, _ => by simp at h
  | a :: C, hn, hc, hP => by
    rw [List.nodup_cons] at hn
    by_cases ha : a = c
    · subst ha
      have : C.filter (fun x => P x || decide (x = a)) = C.filter P := List.filter_congr (fun x hx => by
        have : ¬ x = a := fun e => hn.1 (e ▸ hx)
        simp [this])
      simp [List.filter_cons, hP, this]
    · have hc' : c ∈ C := by simpa [Ne.symm ha] using hc
      have ih := filter_one hn.2 hc' hP
      simp only [List.filter_cons, ha, decide_false, Bool.or_false]
      cases P a <;> simp [ih]
def wlp (C B : List Int) (least : Int) (i : Nat) : List Int := C.filter fun y => !decide (y ∈ B) || decide (y ∈ kp C B least i)
theorem wlp_len {C B : List Int} {least : Int} (hn : C.Nodup) : ∀ i, (wlp C B least i).length = ct1 C B C.length + (kp C B least i).length
  | 0 => by simp [wlp, kp, ct1]
  | i + 1 => by
    have ih := wlp_len (B := B) (least := least) hn i
    cases hb : B[i]? with
    | none => simp only [wlp, kp, hb] at ih ⊢; exact ih
    | some c =>
      have hks := kp_step (C := C) (least := least) hb
      cases h1 : (decide ((ct1 C B C.length : Int) + (kp C B least i).length < least) && (decide (c ∈ C) && !decide (c ∈ kp C B least i))) with
      | false => rw [h1] at hks; simp only [wlp, hks, cond_false] at ih ⊢; exact ih
      | true =>
        rw [h1] at hks
        simp only [Bool.and_eq_true, decide_eq_true_eq, Bool.not_eq_true', decide_eq_false_iff_not] at h1
        have hcB := List.mem_of_getElem? hb
        have := filter_one (P := fun y => !decide (y ∈ B) || decide (y ∈ kp C B least i)) hn h1.2.1 (by simp [hcB, h1.2.2])
        simp only [wlp, hks, cond_true, List.mem_append, List.mem_singleton, List.length_append, List.length_singleton] at ih ⊢
        have e : (C.filter fun y => !decide (y ∈ B) || decide (y ∈ kp C B least i ∨ y = c)) = C.filter fun x => (!decide (x ∈ B) || decide (x ∈ kp C B least i)) || decide (x = c) :=
          List.filter_congr (fun x _ => by rw [Bool.decide_or, Bool.or_assoc])
        rw [e, this, ih]
        omega
theorem kp_most {C B : List Int} {least : Int} : ∀ i, (ct1 C B C.length : Int) + (kp C B least i).length ≤ max (ct1 C B C.length : Int) least
  | 0 => by simp only [kp, List.length_nil]; omega
  | i + 1 => by
    have ih := kp_most (C := C) (B := B) (least := least) i
    cases hb : B[i]? with
    | none => simp only [kp, hb]; exact ih
    | some c =>
      rw [kp_step hb]
      cases h1 : (decide ((ct1 C B C.length : Int) + (kp C B least i).length < least) && (decide (c ∈ C) && !decide (c ∈ kp C B least i))) with
      | false => exact ih
      | true =>
        simp only [Bool.and_eq_true, decide_eq_true_eq] at h1
        simp only [cond_true, List.length_append, List.length_singleton]
        omega
theorem kp_sub {C B : List Int} {least : Int} (i : Nat) : ∀ k, ∀ x ∈ kp C B least i, x ∈ kp C B least (i + k)
  | 0, x, hx => hx
  | k + 1, x, hx => by
    have ih := kp_sub i k x hx
    show x ∈ kp C B least (i + k + 1)
    cases hb : B[i + k]? with
    | none => simpa only [kp, hb] using ih
    | some c =>
      rw [kp_step hb]
      cases (decide ((ct1 C B C.length : Int) + (kp C B least (i + k)).length < least) && (decide (c ∈ C) && !decide (c ∈ kp C B least (i + k)))) <;> simp [ih]
theorem kp_all {C B : List Int} {least : Int} (h : (ct1 C B C.length : Int) + (kp C B least B.length).length < least) {c : Int} (hc : c ∈ C) (hb : c ∈ B) : c ∈ kp C B least B.length := by
  obtain ⟨i, hi⟩ := List.mem_iff_getElem?.1 hb
  have hil := (List.getElem?_eq_some_iff.1 hi).1
  have key : c ∈ kp C B least (i + 1) := by
    by_cases hlt : (ct1 C B C.length : Int) + (kp C B least i).length < least
    · rw [kp_step hi]
      by_cases hm : c ∈ kp C B least i
      · cases (decide ((ct1 C B C.length : Int) + (kp C B least i).length < least) && (decide (c ∈ C) && !decide (c ∈ kp C B least i))) <;> simp [hm]
      · simp [hlt, hc, hm]
    · have := kp_stop hlt (B.length - i)
      rw [show i + (B.length - i) = B.length by omega] at this
      rw [this] at h
      exact absurd h hlt
  have := kp_sub (i + 1) (B.length - (i + 1)) c key
  rwa [show i + 1 + (B.length - (i + 1)) = B.length by omega] at this
theorem wl_len_eq {C B : List Int} {least : Int} (hn : C.Nodup) (hl : least ≤ C.length) : ((wl C B least).length : Int) = max (ct1 C B C.length : Int) least := by
  have h1 := wlp_len (B := B) (least := least) hn B.length
  have h2 := kp_most (C := C) (B := B) (least := least) B.length
  have hw : wl C B least = wlp C B least B.length := rfl
  rw [hw]
  by_cases h : (ct1 C B C.length : Int) + (kp C B least B.length).length < least
  · have hall : wlp C B least B.length = C := by
      unfold wlp
      rw [List.filter_eq_self]
      intro y hy
      by_cases hb : y ∈ B
      · simp [kp_all h hy hb]
      · simp [hb]
    rw [hall] at h1
    omega
  · omega
end H11
end Go.Sh
