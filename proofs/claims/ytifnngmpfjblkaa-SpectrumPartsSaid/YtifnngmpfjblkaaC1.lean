/-
  THE CODE OF THE FUNCTIONS THAT ARE REACHED, AS THE SHADOW MACHINE READS IT (written by a program of this work, checked by the kernel).
-/
import Derived.Test.YtifnngmpfjblkaaProg
import Derived.KernelRfl
import Derived.Test.YtifnngmpfjblkaaB3
namespace Go.Sh
def pol : Pol := { keep := fun _ => none, lit := fun _ _ => true, frz := (fun _ _ => []), vrt := (fun f r => match f, r with | 22, 2 => [(2, 7)] | 32, 2 => [(2, 6)] | _, _ => []), keepAt := (fun f r => match f, r with | 21, 26 => some 4 | 19, 51 => some 4 | _, _ => none), viewAt := (fun _ _ => false), loop := (fun f r => match f, r with
  | 8, 20 => ⟨[3, 4, 7, 8, 9, 14, 16, 60, 61, 62, 66], []⟩
  | 8, 17 => ⟨[3, 4, 7, 8, 9, 14, 60, 61, 62], []⟩
  | 8, 11 => ⟨[3, 4, 7, 8, 9, 11, 48, 49, 50], []⟩
  | 10, 4 => ⟨[1, 2, 19, 20, 21], []⟩
  | 11, 4 => ⟨[1, 3], []⟩
  | 13, 9 => ⟨[1, 4], []⟩
  | 13, 4 => ⟨[1, 3], []⟩
  | 21, 5 => ⟨[1, 2, 3, 6, 7, 19], [(7, 1)]⟩
  | 23, 8 => ⟨[2, 3, 4, 5, 6, 7, 15, 16], []⟩
  | 24, 4 => ⟨[0, 1, 12, 13], []⟩
  | 25, 9 => ⟨[1, 2, 3, 7, 8, 9, 10], []⟩
  | 25, 5 => ⟨[1, 2, 3, 7, 8], []⟩
  | 31, 6 => ⟨[2, 3, 4, 5, 11, 12], []⟩
  | 35, 4 => ⟨[1, 34, 35, 36], []⟩
  | 39, 2 => ⟨[1, 3], []⟩
  | 48, 2 => ⟨[0, 1, 7, 8], []⟩
  | 51, 2 => ⟨[0, 1, 5], []⟩
  | 56, 3 => ⟨[1, 2, 3, 4, 5, 11, 12], []⟩
  | 62, 3 => ⟨[2, 5, 8, 9, 10], []⟩
  | 63, 2 => ⟨[0, 1, 7, 8], []⟩
  | 64, 2 => ⟨[0, 1, 7, 8], []⟩
  | 76, 1 => ⟨[0, 2, 3, 4, 9, 10, 11], []⟩
  | 78, 10 => ⟨[1, 5], []⟩
  | 78, 5 => ⟨[1, 3, 4], []⟩
  | 79, 6 => ⟨[4, 5, 7, 10, 11], []⟩
  | 83, 2 => ⟨[0, 1, 7, 8], []⟩
  | 84, 2 => ⟨[0, 1, 7, 8], []⟩
  | 85, 2 => ⟨[0, 1, 7, 8], []⟩
  | 92, 1 => ⟨[0, 2, 3, 8, 9, 10], []⟩
  | _, _ => ⟨[], []⟩) }
noncomputable def T : FuncId → Option Fun1 := cfun Go.Proofs.Try.prog pol
set_option maxRecDepth 100000
/- 3: hopmesh/hopmeshlaw06.SpectrumSources -/
def c3 : Fun1 := ⟨[(.tmp 6)], (.seq (.ops [⟨(some 3), (.box (.t 0)), none⟩, ⟨(some 4), (.box (.t 1)), none⟩, ⟨(some 5), (.box (.t 2)), none⟩, ⟨(some 6), (.mov (.c (.bool false))), none⟩]) (.seq (.seq (.ops [⟨(some 7), (.call (.c (.fn 10 [])) []), none⟩, ⟨(some 8), (.notB (.t 7)), none⟩]) (.cond (.t 8) (.seq (.ops [⟨(some 6), (.mov (.c (.bool false))), none⟩]) .ret) .skip)) (.seq (.seq (.ops [⟨(some 9), (.load true 2 (.t 3)), none⟩, ⟨(some 10), (.call (.c (.fn 11 [])) [(.t 9)]), none⟩, ⟨(some 11), (.notB (.t 10)), none⟩, ⟨(some 12), (.mov (.t 11)), none⟩, ⟨(some 13), (.faddr 3 (.t 4)), (some (12, false))⟩, ⟨(some 14), (.load false 1 (.t 13)), (some (12, false))⟩, ⟨(some 15), (.len (.t 14)), (some (12, false))⟩, ⟨(some 16), (.bin .gtr (.t 15) (.c (.int .i64 20))), (some (12, false))⟩, ⟨(some 17), (.pick (.t 12) (.c (.bool true)) (.t 16)), none⟩]) (.cond (.t 17) (.seq (.ops [⟨(some 6), (.mov (.c (.bool true))), none⟩]) .ret) .skip)) (.seq (.drawn [(⟨(some 18), (.load true 2 (.t 3)), none⟩, ⟨.seg, [], 0, 0⟩), (⟨(some 19), (.call (.c (.fn 12 [])) [(.t 18)]), none⟩, ⟨.seg, [], 0, 0⟩), (⟨(some 20), (.load true 2 (.t 3)), none⟩, ⟨.seg, [], 0, 0⟩), (⟨(some 21), (.call (.c (.fn 13 [])) [(.t 20)]), none⟩, ⟨.bar, [], 0, 0⟩), (⟨(some 22), (.bin .eql (.t 19) (.t 21)), none⟩, ⟨.pure, [], 0, 0⟩), (⟨(some 23), (.mov (.t 22)), none⟩, ⟨.pure, [], 0, 0⟩), (⟨(some 24), (.load true 7 (.t 4)), (some (23, true))⟩, ⟨.seg, [], 0, 0⟩), (⟨(some 25), (.faddr 3 (.t 5)), (some (23, true))⟩, ⟨.seg, [], 0, 0⟩), (⟨(some 26), (.load false 1 (.t 25)), (some (23, true))⟩, ⟨.seg, [], 0, 0⟩), (⟨(some 27), (.faddr 4 (.t 5)), (some (23, true))⟩, ⟨.seg, [], 0, 0⟩), (⟨(some 28), (.load false 1 (.t 27)), (some (23, true))⟩, ⟨.seg, [], 0, 0⟩), (⟨(some 29), (.call (.c (.fn 14 [])) [(.t 24), (.t 26), (.t 28)]), (some (23, true))⟩, ⟨.seg, [], 0, 0⟩), (⟨(some 30), (.load true 7 (.t 4)), (some (23, true))⟩, ⟨.seg, [], 0, 0⟩), (⟨(some 31), (.faddr 3 (.t 5)), (some (23, true))⟩, ⟨.seg, [], 0, 0⟩), (⟨(some 32), (.load false 1 (.t 31)), (some (23, true))⟩, ⟨.seg, [], 0, 0⟩), (⟨(some 33), (.faddr 4 (.t 5)), (some (23, true))⟩, ⟨.seg, [], 0, 0⟩), (⟨(some 34), (.load false 1 (.t 33)), (some (23, true))⟩, ⟨.seg, [], 0, 0⟩), (⟨(some 35), (.call (.c (.fn 15 [])) [(.t 30), (.t 32), (.t 34)]), (some (23, true))⟩, ⟨.bar, [], 0, 0⟩), (⟨(some 36), (.binB .eql (.t 29) (.t 35)), (some (23, true))⟩, ⟨.pure, [], 0, 0⟩), (⟨(some 37), (.pick (.t 23) (.t 36) (.c (.bool false))), none⟩, ⟨.pure, [], 0, 0⟩), (⟨(some 38), (.mov (.t 37)), none⟩, ⟨.pure, [], 0, 0⟩), (⟨(some 39), (.load true 7 (.t 4)), (some (38, true))⟩, ⟨.seg, [], 0, 0⟩), (⟨(some 40), (.call (.c (.fn 16 [])) [(.t 39)]), (some (38, true))⟩, ⟨.seg, [], 0, 0⟩), (⟨(some 41), (.load true 7 (.t 4)), (some (38, true))⟩, ⟨.seg, [], 0, 0⟩), (⟨(some 42), (.call (.c (.fn 17 [])) [(.t 41)]), (some (38, true))⟩, ⟨.bar, [], 0, 0⟩), (⟨(some 43), (.bin .eql (.t 40) (.t 42)), (some (38, true))⟩, ⟨.pure, [], 0, 0⟩), (⟨(some 44), (.pick (.t 38) (.t 43) (.c (.bool false))), none⟩, ⟨.pure, [], 0, 0⟩), (⟨(some 6), (.mov (.t 44)), none⟩, ⟨.pure, [], 0, 0⟩)]) .ret)))), false⟩
theorem e3 : T 3 = some c3 := by kernel_rfl
/- 4: hopmesh/hopmeshlaw06.SpectrumParts -/
def c4 : Fun1 := ⟨[(.tmp 4)], (.seq (.ops [⟨(some 2), (.box (.t 0)), none⟩, ⟨(some 3), (.box (.t 1)), none⟩, ⟨(some 4), (.mov (.c (.bool false))), none⟩]) (.seq (.seq (.ops [⟨(some 9), (.call (.c (.fn 10 [])) []), none⟩, ⟨(some 10), (.notB (.t 9)), none⟩]) (.cond (.t 10) (.seq (.ops [⟨(some 4), (.mov (.c (.bool false))), none⟩]) .ret) .skip)) (.seq (.drawn [(⟨(some 11), (.iaddrA 3 1 (.t 3) (.c (.int .i64 0))), none⟩, ⟨.seg, [], 0, 0⟩), (⟨(some 12), (.load false 1 (.t 11)), none⟩, ⟨.seg, [], 0, 0⟩), (⟨(some 13), (.iaddrA 3 1 (.t 3) (.c (.int .i64 1))), none⟩, ⟨.seg, [], 0, 0⟩), (⟨(some 14), (.load false 1 (.t 13)), none⟩, ⟨.seg, [], 0, 0⟩), (⟨(some 15), (.iaddrA 3 1 (.t 3) (.c (.int .i64 2))), none⟩, ⟨.seg, [], 0, 0⟩), (⟨(some 16), (.load false 1 (.t 15)), none⟩, ⟨.seg, [], 0, 0⟩), (⟨(some 5), (.mov (.t 12)), none⟩, ⟨.pure, [], 0, 0⟩), (⟨(some 6), (.mov (.t 14)), none⟩, ⟨.pure, [], 0, 0⟩), (⟨(some 7), (.mov (.t 16)), none⟩, ⟨.pure, [], 0, 0⟩)]) (.seq (.seq (.ops [⟨(some 17), (.faddr 3 (.t 2)), none⟩, ⟨(some 18), (.load false 1 (.t 17)), none⟩, ⟨(some 19), (.len (.t 18)), none⟩, ⟨(some 20), (.bin .gtr (.t 19) (.c (.int .i64 20))), none⟩, ⟨(some 21), (.mov (.t 20)), none⟩, ⟨(some 22), (.mov (.t 5)), (some (21, false))⟩, ⟨(some 23), (.bin .lss (.t 22) (.c (.int .i64 0))), (some (21, false))⟩, ⟨(some 24), (.pick (.t 21) (.c (.bool true)) (.t 23)), none⟩, ⟨(some 25), (.mov (.t 24)), none⟩, ⟨(some 26), (.mov (.t 5)), (some (25, false))⟩, ⟨(some 27), (.mov (.t 6)), (some (25, false))⟩, ⟨(some 28), (.bin .gtr (.t 26) (.t 27)), (some (25, false))⟩, ⟨(some 29), (.pick (.t 25) (.c (.bool true)) (.t 28)), none⟩, ⟨(some 30), (.mov (.t 29)), none⟩, ⟨(some 31), (.mov (.t 6)), (some (30, false))⟩, ⟨(some 32), (.mov (.t 7)), (some (30, false))⟩, ⟨(some 33), (.bin .gtr (.t 31) (.t 32)), (some (30, false))⟩, ⟨(some 34), (.pick (.t 30) (.c (.bool true)) (.t 33)), none⟩, ⟨(some 35), (.mov (.t 34)), none⟩, ⟨(some 36), (.mov (.t 7)), (some (35, false))⟩, ⟨(some 37), (.bin .geq (.t 36) (.c (.int .i64 1099511627776))), (some (35, false))⟩, ⟨(some 38), (.pick (.t 35) (.c (.bool true)) (.t 37)), none⟩]) (.cond (.t 38) (.seq (.ops [⟨(some 4), (.mov (.c (.bool true))), none⟩]) .ret) .skip)) (.seq (.seq (.drawn [(⟨(some 39), (.load true 7 (.t 2)), none⟩, ⟨.seg, [], 0, 0⟩), (⟨(some 40), (.mov (.t 5)), none⟩, ⟨.pure, [], 0, 0⟩), (⟨(some 41), (.mov (.t 7)), none⟩, ⟨.pure, [], 0, 0⟩), (⟨(some 42), (.call (.c (.fn 14 [])) [(.t 39), (.t 40), (.t 41)]), none⟩, ⟨.seg, [], 0, 0⟩), (⟨(some 43), (.load true 7 (.t 2)), none⟩, ⟨.seg, [], 0, 0⟩), (⟨(some 44), (.mov (.t 5)), none⟩, ⟨.pure, [], 0, 0⟩), (⟨(some 45), (.mov (.t 6)), none⟩, ⟨.pure, [], 0, 0⟩), (⟨(some 46), (.call (.c (.fn 14 [])) [(.t 43), (.t 44), (.t 45)]), none⟩, ⟨.bar, [], 0, 0⟩), (⟨(some 47), (.mov (.t 46)), none⟩, ⟨.pure, [], 0, 0⟩), (⟨(some 48), (.load true 7 (.t 2)), (some (47, false))⟩, ⟨.bar, [], 0, 0⟩), (⟨(some 49), (.mov (.t 6)), (some (47, false))⟩, ⟨.pure, [], 0, 0⟩), (⟨(some 50), (.mov (.t 7)), (some (47, false))⟩, ⟨.pure, [], 0, 0⟩), (⟨(some 51), (.call (.c (.fn 14 [])) [(.t 48), (.t 49), (.t 50)]), (some (47, false))⟩, ⟨.bar, [], 0, 0⟩), (⟨(some 52), (.pick (.t 47) (.c (.bool true)) (.t 51)), none⟩, ⟨.pure, [], 0, 0⟩), (⟨(some 53), (.binB .neq (.t 42) (.t 52)), none⟩, ⟨.pure, [], 0, 0⟩), (⟨(some 54), (.mov (.t 53)), none⟩, ⟨.pure, [], 0, 0⟩), (⟨(some 55), (.load true 7 (.t 2)), (some (54, false))⟩, ⟨.bar, [], 0, 0⟩), (⟨(some 56), (.mov (.t 5)), (some (54, false))⟩, ⟨.pure, [], 0, 0⟩), (⟨(some 57), (.mov (.t 5)), (some (54, false))⟩, ⟨.pure, [], 0, 0⟩), (⟨(some 58), (.call (.c (.fn 14 [])) [(.t 55), (.t 56), (.t 57)]), (some (54, false))⟩, ⟨.bar, [], 0, 0⟩), (⟨(some 59), (.pick (.t 54) (.c (.bool true)) (.t 58)), none⟩, ⟨.pure, [], 0, 0⟩)]) (.cond (.t 59) (.seq (.ops [⟨(some 4), (.mov (.c (.bool false))), none⟩]) .ret) .skip)) (.seq (.seq (.ops [⟨(some 60), (.load true 7 (.t 2)), none⟩, ⟨(some 61), (.blist 7 [(.int .i64 0), (.int .i64 0), (.int .i64 0), (.lst 0 [] true), (.int .i64 0), (.int .i64 0), (.int .i64 0)] 1 [(0, (.t 60))]), none⟩, ⟨(some 62), (.build [(.lst 0 [] true), (.lst 0 [] true)] [(0, (1, (.t 61)))]), none⟩, ⟨(some 63), (.call (.c (.fn 12 [])) [(.t 62)]), none⟩, ⟨(some 64), (.bin .neq (.t 63) (.c (.int .i64 0))), none⟩]) (.cond (.t 64) (.seq (.ops [⟨(some 65), (.load true 7 (.t 2)), none⟩, ⟨(some 66), (.mov (.t 5)), none⟩, ⟨(some 67), (.mov (.t 7)), none⟩, ⟨(some 68), (.call (.c (.fn 14 [])) [(.t 65), (.t 66), (.t 67)]), none⟩, ⟨(some 69), (.notB (.t 68)), none⟩, ⟨(some 70), (.mov (.t 69)), none⟩, ⟨(some 71), (.load true 7 (.t 2)), (some (70, true))⟩, ⟨(some 72), (.call (.c (.fn 16 [])) [(.t 71)]), (some (70, true))⟩, ⟨(some 73), (.bin .eql (.t 72) (.c (.int .i64 0))), (some (70, true))⟩, ⟨(some 74), (.pick (.t 70) (.t 73) (.c (.bool false))), none⟩, ⟨(some 4), (.mov (.t 74)), none⟩]) .ret) .skip)) (.seq (.seq (.ops [⟨(some 75), (.faddr 4 (.t 2)), none⟩, ⟨(some 76), (.load false 1 (.t 75)), none⟩, ⟨(some 77), (.bin .lss (.t 76) (.c (.int .i64 1))), none⟩]) (.cond (.t 77) (.seq (.ops [⟨(some 4), (.mov (.c (.bool false))), none⟩]) .ret) .skip)) (.seq (.ops [⟨(some 78), (.mov (.t 5)), none⟩, ⟨(some 79), (.faddr 4 (.t 2)), none⟩, ⟨(some 80), (.load false 1 (.t 79)), none⟩, ⟨(some 81), (.bin .rem (.t 78) (.t 80)), none⟩, ⟨(some 8), (.mov (.t 81)), none⟩]) (.seq (.drawn [(⟨(some 82), (.load true 7 (.t 2)), none⟩, ⟨.seg, [], 0, 0⟩), (⟨(some 83), (.mov (.t 5)), none⟩, ⟨.pure, [], 0, 0⟩), (⟨(some 84), (.mov (.t 5)), none⟩, ⟨.pure, [], 0, 0⟩), (⟨(some 85), (.bin .add (.t 84) (.c (.int .i64 1))), none⟩, ⟨.pure, [], 0, 0⟩), (⟨(some 86), (.call (.c (.fn 14 [])) [(.t 82), (.t 83), (.t 85)]), none⟩, ⟨.seg, [], 0, 0⟩), (⟨(some 87), (.faddr 5 (.t 2)), none⟩, ⟨.seg, [], 0, 0⟩), (⟨(some 88), (.load false 1 (.t 87)), none⟩, ⟨.seg, [], 0, 0⟩), (⟨(some 89), (.mov (.t 8)), none⟩, ⟨.pure, [], 0, 0⟩), (⟨(some 90), (.bin .leq (.t 88) (.t 89)), none⟩, ⟨.pure, [], 0, 0⟩), (⟨(some 91), (.mov (.t 90)), none⟩, ⟨.pure, [], 0, 0⟩), (⟨(some 92), (.mov (.t 8)), (some (91, true))⟩, ⟨.pure, [], 0, 0⟩), (⟨(some 93), (.faddr 6 (.t 2)), (some (91, true))⟩, ⟨.bar, [], 0, 0⟩), (⟨(some 94), (.load false 1 (.t 93)), (some (91, true))⟩, ⟨.bar, [], 0, 0⟩), (⟨(some 95), (.bin .lss (.t 92) (.t 94)), (some (91, true))⟩, ⟨.pure, [], 0, 0⟩), (⟨(some 96), (.pick (.t 91) (.t 95) (.c (.bool false))), none⟩, ⟨.pure, [], 0, 0⟩), (⟨(some 97), (.binB .eql (.t 86) (.t 96)), none⟩, ⟨.pure, [], 0, 0⟩), (⟨(some 98), (.mov (.t 97)), none⟩, ⟨.pure, [], 0, 0⟩), (⟨(some 99), (.load true 7 (.t 2)), (some (98, true))⟩, ⟨.seg, [], 0, 0⟩), (⟨(some 100), (.mov (.t 5)), (some (98, true))⟩, ⟨.pure, [], 0, 0⟩), (⟨(some 101), (.mov (.t 5)), (some (98, true))⟩, ⟨.pure, [], 0, 0⟩), (⟨(some 102), (.faddr 4 (.t 2)), (some (98, true))⟩, ⟨.seg, [], 0, 0⟩), (⟨(some 103), (.load false 1 (.t 102)), (some (98, true))⟩, ⟨.seg, [], 0, 0⟩), (⟨(some 104), (.bin .add (.t 101) (.t 103)), (some (98, true))⟩, ⟨.pure, [], 0, 0⟩), (⟨(some 105), (.minI [(.t 104), (.c (.int .i64 1099511627776))]), (some (98, true))⟩, ⟨.pure, [], 0, 0⟩), (⟨(some 106), (.call (.c (.fn 14 [])) [(.t 99), (.t 100), (.t 105)]), (some (98, true))⟩, ⟨.seg, [], 0, 0⟩), (⟨(some 107), (.faddr 5 (.t 2)), (some (98, true))⟩, ⟨.seg, [], 0, 0⟩), (⟨(some 108), (.load false 1 (.t 107)), (some (98, true))⟩, ⟨.seg, [], 0, 0⟩), (⟨(some 109), (.faddr 6 (.t 2)), (some (98, true))⟩, ⟨.seg, [], 0, 0⟩), (⟨(some 110), (.load false 1 (.t 109)), (some (98, true))⟩, ⟨.seg, [], 0, 0⟩), (⟨(some 111), (.bin .lss (.t 108) (.t 110)), (some (98, true))⟩, ⟨.pure, [], 0, 0⟩), (⟨(some 112), (.mov (.t 111)), (some (98, true))⟩, ⟨.pure, [], 0, 0⟩), (⟨(some 113), (.mov (.t 5)), (some (112, true))⟩, ⟨.pure, [], 0, 0⟩), (⟨(some 114), (.faddr 4 (.t 2)), (some (112, true))⟩, ⟨.bar, [], 0, 0⟩), (⟨(some 115), (.load false 1 (.t 114)), (some (112, true))⟩, ⟨.bar, [], 0, 0⟩), (⟨(some 116), (.bin .add (.t 113) (.t 115)), (some (112, true))⟩, ⟨.pure, [], 0, 0⟩), (⟨(some 117), (.bin .leq (.t 116) (.c (.int .i64 1099511627776))), (some (112, true))⟩, ⟨.pure, [], 0, 0⟩), (⟨(some 118), (.mov (.t 117)), (some (112, true))⟩, ⟨.pure, [], 0, 0⟩), (⟨(some 119), (.load true 7 (.t 2)), (some (118, false))⟩, ⟨.bar, [], 0, 0⟩), (⟨(some 120), (.mov (.t 5)), (some (118, false))⟩, ⟨.pure, [], 0, 0⟩), (⟨(some 121), (.call (.c (.fn 14 [])) [(.t 119), (.t 120), (.c (.int .i64 1099511627776))]), (some (118, false))⟩, ⟨.bar, [], 0, 0⟩), (⟨(some 122), (.pick (.t 118) (.c (.bool true)) (.t 121)), (some (112, true))⟩, ⟨.pure, [], 0, 0⟩), (⟨(some 123), (.pick (.t 112) (.t 122) (.c (.bool false))), (some (98, true))⟩, ⟨.pure, [], 0, 0⟩), (⟨(some 124), (.binB .eql (.t 106) (.t 123)), (some (98, true))⟩, ⟨.pure, [], 0, 0⟩), (⟨(some 125), (.pick (.t 98) (.t 124) (.c (.bool false))), none⟩, ⟨.pure, [], 0, 0⟩), (⟨(some 4), (.mov (.t 125)), none⟩, ⟨.pure, [], 0, 0⟩)]) .ret))))))))), false⟩
theorem e4 : T 4 = some c4 := by kernel_rfl
/- 10: hopmesh/hopmeshlaw06.awake -/
def c10 : Fun1 := ⟨[(.tmp 0)], (.seq (.ops [⟨(some 0), (.mov (.c (.bool false))), none⟩]) (.seq (.ops [⟨(some 7), (.blist 1 [(.int .i64 0)] 1 [(0, (.c (.int .i64 3)))]), none⟩, ⟨(some 8), (.build [(.int .i64 0), (.int .i64 0), (.int .i64 0), (.lst 0 [] true), (.int .i64 0), (.int .i64 0), (.int .i64 0)] [(3, (1, (.t 7))), (4, (1, (.c (.int .i64 100)))), (5, (1, (.c (.int .i64 20)))), (6, (1, (.c (.int .i64 30))))]), none⟩, ⟨(some 1), (.alloc [(.int .i64 0), (.int .i64 0), (.int .i64 0), (.lst 0 [] true), (.int .i64 0), (.int .i64 0), (.int .i64 0)]), none⟩, ⟨none, (.store 7 (.t 1) (.t 8)), none⟩]) (.seq (.ops [⟨(some 9), (.load true 7 (.t 1)), none⟩, ⟨(some 10), (.blist 7 [(.int .i64 0), (.int .i64 0), (.int .i64 0), (.lst 0 [] true), (.int .i64 0), (.int .i64 0), (.int .i64 0)] 1 [(0, (.t 9))]), none⟩, ⟨(some 11), (.build [(.int .i64 0), (.int .i64 0), (.int .i64 0), (.int .i64 0), (.int .i64 0), (.int .i64 0)] [(0, (1, (.c (.int .i64 (-1))))), (1, (1, (.c (.int .i64 (-1))))), (2, (1, (.c (.int .i64 (-1))))), (4, (1, (.c (.int .i64 50)))), (5, (1, (.c (.int .i64 500))))]), none⟩, ⟨(some 12), (.build [(.int .i64 0), (.int .i64 0), (.int .i64 0), (.int .i64 0), (.int .i64 0), (.int .i64 0)] [(0, (1, (.c (.int .i64 1)))), (1, (1, (.c (.int .i64 (-1))))), (2, (1, (.c (.int .i64 (-1))))), (3, (1, (.c (.int .i64 10)))), (4, (1, (.c (.int .i64 20)))), (5, (1, (.c (.int .i64 200))))]), none⟩, ⟨(some 13), (.blist 6 [(.int .i64 0), (.int .i64 0), (.int .i64 0), (.int .i64 0), (.int .i64 0), (.int .i64 0)] 2 [(0, (.t 11)), (1, (.t 12))]), none⟩, ⟨(some 14), (.build [(.lst 0 [] true), (.lst 0 [] true)] [(0, (1, (.t 10))), (1, (1, (.t 13)))]), none⟩, ⟨(some 2), (.alloc [(.lst 0 [] true), (.lst 0 [] true)]), none⟩, ⟨none, (.store 2 (.t 2) (.t 14)), none⟩]) (.seq (.seq (.ops [⟨(some 15), (.build [(.int .i64 0), (.int .i64 0)] [(0, (1, (.c (.int .i64 5)))), (1, (1, (.c (.int .i64 500))))]), none⟩, ⟨(some 16), (.build [(.int .i64 0), (.int .i64 0)] [(0, (1, (.c (.int .i64 10)))), (1, (1, (.c (.int .i64 200))))]), none⟩, ⟨(some 17), (.build [(.int .i64 0), (.int .i64 0)] [(0, (1, (.c (.int .i64 20)))), (1, (1, (.c (.int .i64 500))))]), none⟩, ⟨(some 18), (.build [(.int .i64 0), (.int .i64 0)] [(0, (1, (.c (.int .i64 50)))), (1, (1, (.c (.int .i64 1000))))]), none⟩, ⟨(some 19), (.blist 2 [(.int .i64 0), (.int .i64 0)] 4 [(0, (.t 15)), (1, (.t 16)), (2, (.t 17)), (3, (.t 18))]), none⟩, ⟨(some 20), (.len (.t 19)), none⟩, ⟨(some 21), (.mov (.c (.int .i64 0))), none⟩]) (.block 0 (.loop ⟨[1, 2, 19, 20, 21], []⟩ (.seq (.ops [⟨(some 22), (.bin .lss (.t 21) (.t 20)), none⟩]) (.seq (.cond (.t 22) .skip (.exit 0)) (.seq (.block 1 (.seq (.ops [⟨(some 23), (.iaddrS 2 (.t 19) (.t 21)), none⟩, ⟨(some 24), (.load true 2 (.t 23)), none⟩, ⟨(some 4), (.alloc [(.int .i64 0), (.int .i64 0)]), none⟩, ⟨none, (.store 2 (.t 4) (.t 24)), none⟩]) (.seq (.ops [⟨(some 26), (.load true 2 (.t 2)), none⟩, ⟨(some 27), (.iaddrA 2 1 (.t 4) (.c (.int .i64 0))), none⟩, ⟨(some 28), (.load false 1 (.t 27)), none⟩, ⟨(some 29), (.call (.c (.fn 26 [])) [(.t 26), (.c (.int .i64 1)), (.c (.int .i64 0)), (.c (.int .i64 3)), (.t 28)]), none⟩, ⟨(some 25), (.mov (.t 29)), none⟩, ⟨(some 30), (.extract (.t 25) 0), none⟩, ⟨(some 31), (.extract (.t 25) 1), none⟩, ⟨(some 5), (.mov (.t 30)), none⟩, ⟨(some 6), (.mov (.t 31)), none⟩]) (.seq (.ops [⟨(some 32), (.mov (.t 5)), none⟩, ⟨(some 33), (.iaddrA 2 1 (.t 4) (.c (.int .i64 1))), none⟩, ⟨(some 34), (.load false 1 (.t 33)), none⟩, ⟨(some 35), (.bin .neq (.t 32) (.t 34)), none⟩, ⟨(some 36), (.mov (.t 35)), none⟩, ⟨(some 37), (.mov (.t 6)), (some (36, false))⟩, ⟨(some 38), (.bin .neq (.t 37) (.c (.int .i64 0))), (some (36, false))⟩, ⟨(some 39), (.pick (.t 36) (.c (.bool true)) (.t 38)), none⟩]) (.cond (.t 39) (.seq (.ops [⟨(some 0), (.mov (.c (.bool false))), none⟩]) .ret) .skip))))) (.ops [⟨(some 40), (.bin .add (.t 21) (.c (.int .i64 1))), none⟩, ⟨(some 21), (.mov (.t 40)), none⟩]))))))) (.seq (.ops [⟨(some 41), (.load true 2 (.t 2)), none⟩, ⟨(some 42), (.call (.c (.fn 12 [])) [(.t 41)]), none⟩, ⟨(some 43), (.bin .eql (.t 42) (.c (.int .i64 0))), none⟩, ⟨(some 44), (.mov (.t 43)), none⟩, ⟨(some 45), (.load true 7 (.t 1)), (some (44, true))⟩, ⟨(some 46), (.call (.c (.fn 14 [])) [(.t 45), (.c (.int .i64 95)), (.c (.int .i64 121))]), (some (44, true))⟩, ⟨(some 47), (.pick (.t 44) (.t 46) (.c (.bool false))), none⟩, ⟨(some 48), (.mov (.t 47)), none⟩, ⟨(some 49), (.load true 7 (.t 1)), (some (48, true))⟩, ⟨(some 50), (.call (.c (.fn 14 [])) [(.t 49), (.c (.int .i64 30)), (.c (.int .i64 120))]), (some (48, true))⟩, ⟨(some 51), (.notB (.t 50)), (some (48, true))⟩, ⟨(some 52), (.pick (.t 48) (.t 51) (.c (.bool false))), none⟩, ⟨(some 53), (.mov (.t 52)), none⟩, ⟨(some 54), (.load true 7 (.t 1)), (some (53, true))⟩, ⟨(some 55), (.call (.c (.fn 16 [])) [(.t 54)]), (some (53, true))⟩, ⟨(some 56), (.bin .eql (.t 55) (.c (.int .i64 100))), (some (53, true))⟩, ⟨(some 57), (.pick (.t 53) (.t 56) (.c (.bool false))), none⟩, ⟨(some 58), (.mov (.t 57)), none⟩, ⟨(some 59), (.load true 2 (.t 2)), (some (58, true))⟩, ⟨(some 60), (.call (.c (.fn 21 [])) [(.t 59), (.c (.int .i64 0)), (.c (.int .i64 21))]), (some (58, true))⟩, ⟨(some 61), (.len (.t 60)), (some (58, true))⟩, ⟨(some 62), (.bin .eql (.t 61) (.c (.int .i64 15))), (some (58, true))⟩, ⟨(some 63), (.pick (.t 58) (.t 62) (.c (.bool false))), none⟩, ⟨(some 0), (.mov (.t 63)), none⟩]) .ret))))), false⟩
theorem e10 : T 10 = some c10 := by kernel_rfl
/- 11: hopmesh/hopmeshref06.Few -/
def c11 : Fun1 := ⟨[(.tmp 2)], (.seq (.ops [⟨(some 1), (.box (.t 0)), none⟩, ⟨(some 2), (.mov (.c (.bool false))), none⟩]) (.seq (.seq (.ops [⟨(some 4), (.faddr 0 (.t 1)), none⟩, ⟨(some 5), (.load false 1 (.t 4)), none⟩, ⟨(some 6), (.len (.t 5)), none⟩, ⟨(some 7), (.bin .gtr (.t 6) (.c (.int .i64 20))), none⟩, ⟨(some 8), (.mov (.t 7)), none⟩, ⟨(some 9), (.faddr 1 (.t 1)), (some (8, false))⟩, ⟨(some 10), (.load false 1 (.t 9)), (some (8, false))⟩, ⟨(some 11), (.len (.t 10)), (some (8, false))⟩, ⟨(some 12), (.bin .gtr (.t 11) (.c (.int .i64 70))), (some (8, false))⟩, ⟨(some 13), (.pick (.t 8) (.c (.bool true)) (.t 12)), none⟩]) (.cond (.t 13) (.seq (.ops [⟨(some 2), (.mov (.c (.bool false))), none⟩]) .ret) .skip)) (.seq (.seq (.ops [⟨(some 3), (.mov (.c (.int .i64 0))), none⟩]) (.block 0 (.loop ⟨[1, 3], []⟩ (.seq (.seq (.ops [⟨(some 14), (.mov (.t 3)), none⟩, ⟨(some 15), (.faddr 0 (.t 1)), none⟩, ⟨(some 16), (.load false 1 (.t 15)), none⟩, ⟨(some 17), (.len (.t 16)), none⟩, ⟨(some 18), (.bin .lss (.t 14) (.t 17)), none⟩]) (.cond (.t 18) .skip (.exit 0))) (.seq (.block 1 (.seq (.ops [⟨(some 21), (.faddr 0 (.t 1)), none⟩, ⟨(some 22), (.load false 1 (.t 21)), none⟩, ⟨(some 23), (.mov (.t 3)), none⟩, ⟨(some 24), (.iaddrS 7 (.t 22) (.t 23)), none⟩, ⟨(some 25), (.faddr 3 (.t 24)), none⟩, ⟨(some 26), (.load false 1 (.t 25)), none⟩, ⟨(some 27), (.len (.t 26)), none⟩, ⟨(some 28), (.bin .gtr (.t 27) (.c (.int .i64 20))), none⟩]) (.cond (.t 28) (.seq (.ops [⟨(some 2), (.mov (.c (.bool false))), none⟩]) .ret) .skip))) (.ops [⟨(some 19), (.mov (.t 3)), none⟩, ⟨(some 20), (.bin .add (.t 19) (.c (.int .i64 1))), none⟩, ⟨(some 3), (.mov (.t 20)), none⟩])))))) (.seq (.ops [⟨(some 2), (.mov (.c (.bool true))), none⟩]) .ret)))), false⟩
theorem e11 : T 11 = some c11 := by kernel_rfl
/- 12: hopmesh/spectrum.Check -/
def c12 : Fun1 := ⟨[(.tmp 2)], (.seq (.ops [⟨(some 1), (.box (.t 0)), none⟩, ⟨(some 2), (.mov (.c (.int .i64 0))), none⟩]) (.seq (.seq (.ops [⟨(some 3), (.faddr 0 (.t 1)), none⟩, ⟨(some 4), (.load false 1 (.t 3)), none⟩, ⟨(some 5), (.len (.t 4)), none⟩, ⟨(some 6), (.bin .gtr (.t 5) (.c (.int .i64 16))), none⟩, ⟨(some 7), (.mov (.t 6)), none⟩, ⟨(some 8), (.faddr 1 (.t 1)), (some (7, false))⟩, ⟨(some 9), (.load false 1 (.t 8)), (some (7, false))⟩, ⟨(some 10), (.len (.t 9)), (some (7, false))⟩, ⟨(some 11), (.bin .gtr (.t 10) (.c (.int .i64 64))), (some (7, false))⟩, ⟨(some 12), (.pick (.t 7) (.c (.bool true)) (.t 11)), none⟩]) (.cond (.t 12) (.seq (.ops [⟨(some 2), (.mov (.c (.int .i64 1))), none⟩]) .ret) .skip)) (.seq (.seq (.ops [⟨(some 13), (.faddr 0 (.t 1)), none⟩, ⟨(some 14), (.load false 1 (.t 13)), none⟩, ⟨(some 15), (.call (.c (.fn 33 [])) [(.t 14), (.c (.fn 34 []))]), none⟩, ⟨(some 16), (.mov (.t 15)), none⟩, ⟨(some 17), (.faddr 1 (.t 1)), (some (16, false))⟩, ⟨(some 18), (.load false 1 (.t 17)), (some (16, false))⟩, ⟨(some 19), (.call (.c (.fn 36 [])) [(.t 18), (.c (.fn 37 []))]), (some (16, false))⟩, ⟨(some 20), (.pick (.t 16) (.c (.bool true)) (.t 19)), none⟩]) (.cond (.t 20) (.seq (.ops [⟨(some 2), (.mov (.c (.int .i64 1))), none⟩]) .ret) .skip)) (.seq (.ops [⟨(some 2), (.mov (.c (.int .i64 0))), none⟩]) .ret)))), false⟩
theorem e12 : T 12 = some c12 := by kernel_rfl
/- 13: hopmesh/hopmeshref06.Check -/
def c13 : Fun1 := ⟨[(.tmp 2)], (.seq (.ops [⟨(some 1), (.box (.t 0)), none⟩, ⟨(some 2), (.mov (.c (.int .i64 0))), none⟩]) (.seq (.seq (.ops [⟨(some 5), (.faddr 0 (.t 1)), none⟩, ⟨(some 6), (.load false 1 (.t 5)), none⟩, ⟨(some 7), (.len (.t 6)), none⟩, ⟨(some 8), (.bin .gtr (.t 7) (.c (.int .i64 16))), none⟩, ⟨(some 9), (.mov (.t 8)), none⟩, ⟨(some 10), (.faddr 1 (.t 1)), (some (9, false))⟩, ⟨(some 11), (.load false 1 (.t 10)), (some (9, false))⟩, ⟨(some 12), (.len (.t 11)), (some (9, false))⟩, ⟨(some 13), (.bin .gtr (.t 12) (.c (.int .i64 64))), (some (9, false))⟩, ⟨(some 14), (.pick (.t 9) (.c (.bool true)) (.t 13)), none⟩]) (.cond (.t 14) (.seq (.ops [⟨(some 2), (.mov (.c (.int .i64 1))), none⟩]) .ret) .skip)) (.seq (.seq (.ops [⟨(some 3), (.mov (.c (.int .i64 0))), none⟩]) (.block 0 (.loop ⟨[1, 3], []⟩ (.seq (.seq (.ops [⟨(some 15), (.mov (.t 3)), none⟩, ⟨(some 16), (.faddr 0 (.t 1)), none⟩, ⟨(some 17), (.load false 1 (.t 16)), none⟩, ⟨(some 18), (.len (.t 17)), none⟩, ⟨(some 19), (.bin .lss (.t 15) (.t 18)), none⟩]) (.cond (.t 19) .skip (.exit 0))) (.seq (.block 1 (.seq (.ops [⟨(some 22), (.faddr 0 (.t 1)), none⟩, ⟨(some 23), (.load false 1 (.t 22)), none⟩, ⟨(some 24), (.mov (.t 3)), none⟩, ⟨(some 25), (.iaddrS 7 (.t 23) (.t 24)), none⟩, ⟨(some 26), (.load true 7 (.t 25)), none⟩, ⟨(some 27), (.call (.c (.fn 39 [])) [(.t 26)]), none⟩, ⟨(some 28), (.notB (.t 27)), none⟩]) (.cond (.t 28) (.seq (.ops [⟨(some 2), (.mov (.c (.int .i64 1))), none⟩]) .ret) .skip))) (.ops [⟨(some 20), (.mov (.t 3)), none⟩, ⟨(some 21), (.bin .add (.t 20) (.c (.int .i64 1))), none⟩, ⟨(some 3), (.mov (.t 21)), none⟩])))))) (.seq (.seq (.ops [⟨(some 4), (.mov (.c (.int .i64 0))), none⟩]) (.block 2 (.loop ⟨[1, 4], []⟩ (.seq (.seq (.ops [⟨(some 29), (.mov (.t 4)), none⟩, ⟨(some 30), (.faddr 1 (.t 1)), none⟩, ⟨(some 31), (.load false 1 (.t 30)), none⟩, ⟨(some 32), (.len (.t 31)), none⟩, ⟨(some 33), (.bin .lss (.t 29) (.t 32)), none⟩]) (.cond (.t 33) .skip (.exit 2))) (.seq (.block 3 (.seq (.ops [⟨(some 36), (.faddr 1 (.t 1)), none⟩, ⟨(some 37), (.load false 1 (.t 36)), none⟩, ⟨(some 38), (.mov (.t 4)), none⟩, ⟨(some 39), (.iaddrS 6 (.t 37) (.t 38)), none⟩, ⟨(some 40), (.load true 6 (.t 39)), none⟩, ⟨(some 41), (.call (.c (.fn 40 [])) [(.t 40)]), none⟩, ⟨(some 42), (.notB (.t 41)), none⟩]) (.cond (.t 42) (.seq (.ops [⟨(some 2), (.mov (.c (.int .i64 1))), none⟩]) .ret) .skip))) (.ops [⟨(some 34), (.mov (.t 4)), none⟩, ⟨(some 35), (.bin .add (.t 34) (.c (.int .i64 1))), none⟩, ⟨(some 4), (.mov (.t 35)), none⟩])))))) (.seq (.ops [⟨(some 2), (.mov (.c (.int .i64 0))), none⟩]) .ret))))), false⟩
theorem e13 : T 13 = some c13 := by kernel_rfl
/- 14: hopmesh/spectrum.On -/
def c14 : Fun1 := ⟨[(.tmp 6)], (.seq (.ops [⟨(some 3), (.box (.t 0)), none⟩, ⟨(some 6), (.mov (.c (.bool false))), none⟩]) (.seq (.ops [⟨(some 7), (.load true 7 (.t 3)), none⟩, ⟨(some 8), (.call (.c (.fn 35 [])) [(.t 7)]), none⟩, ⟨(some 9), (.mov (.t 8)), none⟩, ⟨(some 10), (.mov (.t 1)), (some (9, true))⟩, ⟨(some 11), (.mov (.t 2)), (some (9, true))⟩, ⟨(some 12), (.call (.c (.fn 41 [])) [(.t 10), (.t 11)]), (some (9, true))⟩, ⟨(some 13), (.pick (.t 9) (.t 12) (.c (.bool false))), none⟩, ⟨(some 14), (.mov (.t 13)), none⟩, ⟨(some 15), (.load true 7 (.t 3)), (some (14, true))⟩, ⟨(some 16), (.mov (.t 1)), (some (14, true))⟩, ⟨(some 17), (.mov (.t 2)), (some (14, true))⟩, ⟨(some 18), (.call (.c (.fn 42 [])) [(.t 15), (.t 16), (.t 17)]), (some (14, true))⟩, ⟨(some 19), (.pick (.t 14) (.t 18) (.c (.bool false))), none⟩, ⟨(some 6), (.mov (.t 19)), none⟩]) .ret)), false⟩
theorem e14 : T 14 = some c14 := by kernel_rfl
/- 15: hopmesh/hopmeshref06.On -/
def c15 : Fun1 := ⟨[(.tmp 6)], (.seq (.ops [⟨(some 3), (.box (.t 0)), none⟩, ⟨(some 6), (.mov (.c (.bool false))), none⟩]) (.seq (.seq (.ops [⟨(some 9), (.load true 7 (.t 3)), none⟩, ⟨(some 10), (.call (.c (.fn 39 [])) [(.t 9)]), none⟩, ⟨(some 11), (.notB (.t 10)), none⟩, ⟨(some 12), (.mov (.t 11)), none⟩, ⟨(some 13), (.mov (.t 1)), (some (12, false))⟩, ⟨(some 14), (.mov (.t 2)), (some (12, false))⟩, ⟨(some 15), (.call (.c (.fn 43 [])) [(.t 13), (.t 14)]), (some (12, false))⟩, ⟨(some 16), (.notB (.t 15)), (some (12, false))⟩, ⟨(some 17), (.pick (.t 12) (.c (.bool true)) (.t 16)), none⟩, ⟨(some 18), (.mov (.t 17)), none⟩, ⟨(some 19), (.faddr 5 (.t 3)), (some (18, false))⟩, ⟨(some 20), (.load false 1 (.t 19)), (some (18, false))⟩, ⟨(some 21), (.faddr 6 (.t 3)), (some (18, false))⟩, ⟨(some 22), (.load false 1 (.t 21)), (some (18, false))⟩, ⟨(some 23), (.bin .eql (.t 20) (.t 22)), (some (18, false))⟩, ⟨(some 24), (.pick (.t 18) (.c (.bool true)) (.t 23)), none⟩, ⟨(some 25), (.mov (.t 24)), none⟩, ⟨(some 26), (.mov (.t 1)), (some (25, false))⟩, ⟨(some 27), (.mov (.t 2)), (some (25, false))⟩, ⟨(some 28), (.bin .eql (.t 26) (.t 27)), (some (25, false))⟩, ⟨(some 29), (.pick (.t 25) (.c (.bool true)) (.t 28)), none⟩]) (.cond (.t 29) (.seq (.ops [⟨(some 6), (.mov (.c (.bool false))), none⟩]) .ret) .skip)) (.seq (.ops [⟨(some 30), (.mov (.t 1)), none⟩, ⟨(some 31), (.faddr 4 (.t 3)), none⟩, ⟨(some 32), (.load false 1 (.t 31)), none⟩, ⟨(some 33), (.bin .rem (.t 30) (.t 32)), none⟩, ⟨(some 7), (.mov (.t 33)), none⟩]) (.seq (.ops [⟨(some 34), (.mov (.t 1)), none⟩, ⟨(some 8), (.mov (.t 34)), none⟩]) (.seq (.seq (.ops [⟨(some 35), (.mov (.t 7)), none⟩, ⟨(some 36), (.faddr 5 (.t 3)), none⟩, ⟨(some 37), (.load false 1 (.t 36)), none⟩, ⟨(some 38), (.bin .lss (.t 35) (.t 37)), none⟩]) (.cond (.t 38) (.ops [⟨(some 39), (.mov (.t 1)), none⟩, ⟨(some 40), (.faddr 5 (.t 3)), none⟩, ⟨(some 41), (.load false 1 (.t 40)), none⟩, ⟨(some 42), (.bin .add (.t 39) (.t 41)), none⟩, ⟨(some 43), (.mov (.t 7)), none⟩, ⟨(some 44), (.bin .sub (.t 42) (.t 43)), none⟩, ⟨(some 8), (.mov (.t 44)), none⟩]) (.seq (.ops [⟨(some 45), (.mov (.t 7)), none⟩, ⟨(some 46), (.faddr 6 (.t 3)), none⟩, ⟨(some 47), (.load false 1 (.t 46)), none⟩, ⟨(some 48), (.bin .geq (.t 45) (.t 47)), none⟩]) (.cond (.t 48) (.ops [⟨(some 49), (.mov (.t 1)), none⟩, ⟨(some 50), (.faddr 4 (.t 3)), none⟩, ⟨(some 51), (.load false 1 (.t 50)), none⟩, ⟨(some 52), (.bin .add (.t 49) (.t 51)), none⟩, ⟨(some 53), (.mov (.t 7)), none⟩, ⟨(some 54), (.bin .sub (.t 52) (.t 53)), none⟩, ⟨(some 55), (.faddr 5 (.t 3)), none⟩, ⟨(some 56), (.load false 1 (.t 55)), none⟩, ⟨(some 57), (.bin .add (.t 54) (.t 56)), none⟩, ⟨(some 8), (.mov (.t 57)), none⟩]) .skip)))) (.seq (.ops [⟨(some 58), (.mov (.t 8)), none⟩, ⟨(some 59), (.mov (.t 2)), none⟩, ⟨(some 60), (.bin .lss (.t 58) (.t 59)), none⟩, ⟨(some 6), (.mov (.t 60)), none⟩]) .ret)))))), false⟩
theorem e15 : T 15 = some c15 := by kernel_rfl
/- 16: hopmesh/spectrum.Duty -/
def c16 : Fun1 := ⟨[(.tmp 2)], (.seq (.ops [⟨(some 1), (.box (.t 0)), none⟩, ⟨(some 2), (.mov (.c (.int .i64 0))), none⟩]) (.seq (.seq (.ops [⟨(some 3), (.load true 7 (.t 1)), none⟩, ⟨(some 4), (.call (.c (.fn 35 [])) [(.t 3)]), none⟩, ⟨(some 5), (.notB (.t 4)), none⟩]) (.cond (.t 5) (.seq (.ops [⟨(some 2), (.mov (.c (.int .i64 0))), none⟩]) .ret) .skip)) (.seq (.ops [⟨(some 6), (.faddr 6 (.t 1)), none⟩, ⟨(some 7), (.load false 1 (.t 6)), none⟩, ⟨(some 8), (.faddr 5 (.t 1)), none⟩, ⟨(some 9), (.load false 1 (.t 8)), none⟩, ⟨(some 10), (.bin .sub (.t 7) (.t 9)), none⟩, ⟨(some 11), (.bin .mul (.t 10) (.c (.int .i64 1000))), none⟩, ⟨(some 12), (.faddr 4 (.t 1)), none⟩, ⟨(some 13), (.load false 1 (.t 12)), none⟩, ⟨(some 14), (.bin .quo (.t 11) (.t 13)), none⟩, ⟨(some 2), (.mov (.t 14)), none⟩]) .ret))), false⟩
theorem e16 : T 16 = some c16 := by kernel_rfl
/- 17: hopmesh/hopmeshref06.Duty -/
def c17 : Fun1 := ⟨[(.tmp 2)], (.seq (.ops [⟨(some 1), (.box (.t 0)), none⟩, ⟨(some 2), (.mov (.c (.int .i64 0))), none⟩]) (.seq (.seq (.ops [⟨(some 3), (.load true 7 (.t 1)), none⟩, ⟨(some 4), (.call (.c (.fn 39 [])) [(.t 3)]), none⟩, ⟨(some 5), (.notB (.t 4)), none⟩]) (.cond (.t 5) (.seq (.ops [⟨(some 2), (.mov (.c (.int .i64 0))), none⟩]) .ret) .skip)) (.seq (.ops [⟨(some 6), (.faddr 6 (.t 1)), none⟩, ⟨(some 7), (.load false 1 (.t 6)), none⟩, ⟨(some 8), (.faddr 5 (.t 1)), none⟩, ⟨(some 9), (.load false 1 (.t 8)), none⟩, ⟨(some 10), (.bin .sub (.t 7) (.t 9)), none⟩, ⟨(some 11), (.bin .mul (.c (.int .i64 1000)) (.t 10)), none⟩, ⟨(some 12), (.faddr 4 (.t 1)), none⟩, ⟨(some 13), (.load false 1 (.t 12)), none⟩, ⟨(some 14), (.bin .quo (.t 11) (.t 13)), none⟩, ⟨(some 2), (.mov (.t 14)), none⟩]) .ret))), false⟩
theorem e17 : T 17 = some c17 := by kernel_rfl
/- 21: hopmesh/spectrum.Clear -/
def c21 : Fun1 := ⟨[(.tmp 6)], (.seq (.ops [⟨(some 3), (.box (.t 0)), none⟩, ⟨(some 6), (.mov (.c (.lst 0 [] true))), none⟩]) (.seq (.seq (.ops [⟨(some 10), (.load true 2 (.t 3)), none⟩, ⟨(some 11), (.call (.c (.fn 12 [])) [(.t 10)]), none⟩, ⟨(some 12), (.bin .neq (.t 11) (.c (.int .i64 0))), none⟩, ⟨(some 13), (.mov (.t 12)), none⟩, ⟨(some 14), (.mov (.t 1)), (some (13, false))⟩, ⟨(some 15), (.mov (.t 2)), (some (13, false))⟩, ⟨(some 16), (.call (.c (.fn 41 [])) [(.t 14), (.t 15)]), (some (13, false))⟩, ⟨(some 17), (.notB (.t 16)), (some (13, false))⟩, ⟨(some 18), (.pick (.t 13) (.c (.bool true)) (.t 17)), none⟩]) (.cond (.t 18) (.seq (.ops [⟨(some 6), (.mov (.c (.lst 0 [] true))), none⟩]) .ret) .skip)) (.seq (.ops [⟨(some 7), (.mov (.c (.lst 0 [] true))), none⟩]) (.seq (.seq (.ops [⟨(some 19), (.mov (.c (.int .i64 0))), none⟩]) (.block 0 (.loop ⟨[1, 2, 3, 6, 7, 19], [(7, 1)]⟩ (.seq (.ops [⟨(some 20), (.bin .lss (.t 19) (.c (.int .i64 16))), none⟩]) (.seq (.cond (.t 20) .skip (.exit 0)) (.seq (.block 1 (.seq (.ops [⟨(some 21), (.mov (.t 19)), none⟩, ⟨(some 8), (.mov (.t 21)), none⟩]) (.seq (.ops [⟨(some 9), (.alloc [(.bool false)]), none⟩, ⟨none, (.store 1 (.t 9) (.c (.bool true))), none⟩]) (.seq (.seq (.ops [⟨(some 22), (.load true 2 (.t 3)), none⟩, ⟨(some 23), (.mov (.t 8)), none⟩, ⟨(some 24), (.mov (.t 1)), none⟩, ⟨(some 25), (.mov (.t 2)), none⟩, ⟨(some 26), (.callK 46 4 [(.t 22), (.t 23), (.t 24), (.t 25)]), none⟩]) (.block 2 (.rangeF (.t 26) [27] .skip (.block 3 (.ops [⟨none, (.store 1 (.t 9) (.c (.bool false))), none⟩]))))) (.seq (.ops [⟨(some 28), (.load false 1 (.t 9)), none⟩]) (.cond (.t 28) (.ops [⟨(some 29), (.mov (.t 7)), none⟩, ⟨(some 30), (.mov (.t 8)), none⟩, ⟨(some 31), (.blist 1 [(.int .i64 0)] 1 [(0, (.t 30))]), none⟩, ⟨(some 32), (.append 1 8 (.t 29) (.t 31)), none⟩, ⟨(some 7), (.mov (.t 32)), none⟩]) .skip)))))) (.ops [⟨(some 33), (.bin .add (.t 19) (.c (.int .i64 1))), none⟩, ⟨(some 19), (.mov (.t 33)), none⟩]))))))) (.seq (.ops [⟨(some 34), (.mov (.t 7)), none⟩, ⟨(some 6), (.mov (.t 34)), none⟩]) .ret))))), false⟩
theorem e21 : T 21 = some c21 := by kernel_rfl
/- 26: hopmesh/spectrum.Factor -/
def c26 : Fun1 := ⟨[(.tmp 10), (.tmp 11)], (.seq (.ops [⟨(some 5), (.box (.t 0)), none⟩, ⟨(some 10), (.mov (.c (.int .i64 0))), none⟩, ⟨(some 11), (.mov (.c (.int .i64 0))), none⟩]) (.seq (.block 0 (.seq (.ops [⟨(some 13), (.load true 2 (.t 5)), none⟩, ⟨(some 14), (.call (.c (.fn 12 [])) [(.t 13)]), none⟩, ⟨(some 15), (.bin .neq (.t 14) (.c (.int .i64 0))), none⟩, ⟨(some 12), (.mov (.t 15)), none⟩]) (.cond (.t 12) (.seq (.ops [⟨(some 10), (.mov (.c (.int .i64 0))), none⟩, ⟨(some 11), (.mov (.c (.int .i64 1))), none⟩]) .ret) (.seq (.ops [⟨(some 17), (.mov (.t 1)), none⟩, ⟨(some 18), (.call (.c (.fn 53 [])) [(.t 17)]), none⟩, ⟨(some 19), (.notB (.t 18)), none⟩, ⟨(some 20), (.mov (.t 19)), none⟩, ⟨(some 21), (.mov (.t 2)), (some (20, false))⟩, ⟨(some 22), (.call (.c (.fn 53 [])) [(.t 21)]), (some (20, false))⟩, ⟨(some 23), (.notB (.t 22)), (some (20, false))⟩, ⟨(some 24), (.pick (.t 20) (.c (.bool true)) (.t 23)), none⟩, ⟨(some 25), (.mov (.t 24)), none⟩, ⟨(some 26), (.mov (.t 3)), (some (25, false))⟩, ⟨(some 27), (.call (.c (.fn 45 [])) [(.t 26)]), (some (25, false))⟩, ⟨(some 28), (.notB (.t 27)), (some (25, false))⟩, ⟨(some 29), (.pick (.t 25) (.c (.bool true)) (.t 28)), none⟩, ⟨(some 30), (.mov (.t 29)), none⟩, ⟨(some 31), (.mov (.t 4)), (some (30, false))⟩, ⟨(some 32), (.bin .lss (.t 31) (.c (.int .i64 0))), (some (30, false))⟩, ⟨(some 33), (.pick (.t 30) (.c (.bool true)) (.t 32)), none⟩, ⟨(some 34), (.mov (.t 33)), none⟩, ⟨(some 35), (.mov (.t 4)), (some (34, false))⟩, ⟨(some 36), (.bin .gtr (.t 35) (.c (.int .i64 1099511627776))), (some (34, false))⟩, ⟨(some 37), (.pick (.t 34) (.c (.bool true)) (.t 36)), none⟩, ⟨(some 16), (.mov (.t 37)), none⟩]) (.cond (.t 16) (.seq (.ops [⟨(some 10), (.mov (.c (.int .i64 0))), none⟩, ⟨(some 11), (.mov (.c (.int .i64 2))), none⟩]) .ret) .skip))))) (.seq (.ops [⟨(some 38), (.load true 2 (.t 5)), none⟩, ⟨(some 39), (.mov (.t 1)), none⟩, ⟨(some 40), (.mov (.t 2)), none⟩, ⟨(some 41), (.mov (.t 3)), none⟩, ⟨(some 42), (.mov (.t 4)), none⟩, ⟨(some 43), (.call (.c (.fn 54 [])) [(.t 38), (.t 39), (.t 40), (.t 41), (.t 42)]), none⟩, ⟨(some 10), (.mov (.t 43)), none⟩, ⟨(some 11), (.mov (.c (.int .i64 0))), none⟩]) .ret))), false⟩
theorem e26 : T 26 = some c26 := by kernel_rfl
/- 28: hopmesh/spectrum.Signal -/
def c28 : Fun1 := ⟨[(.tmp 12), (.tmp 13)], (.seq (.ops [⟨(some 6), (.box (.t 0)), none⟩, ⟨(some 7), (.box (.t 1)), none⟩, ⟨(some 12), (.mov (.c (.int .i64 0))), none⟩, ⟨(some 13), (.mov (.c (.int .i64 0))), none⟩]) (.seq (.ops [⟨(some 17), (.load true 6 (.t 6)), none⟩, ⟨(some 18), (.load true 2 (.t 7)), none⟩, ⟨(some 19), (.mov (.t 2)), none⟩, ⟨(some 20), (.mov (.t 3)), none⟩, ⟨(some 21), (.call (.c (.fn 57 [])) [(.t 17), (.t 18), (.t 19), (.t 20)]), none⟩, ⟨(some 16), (.mov (.t 21)), none⟩, ⟨(some 22), (.extract (.t 16) 0), none⟩, ⟨(some 23), (.extract (.t 16) 1), none⟩, ⟨(some 14), (.mov (.t 22)), none⟩, ⟨(some 15), (.mov (.t 23)), none⟩]) (.seq (.block 0 (.seq (.ops [⟨(some 25), (.mov (.t 15)), none⟩, ⟨(some 26), (.bin .neq (.t 25) (.c (.int .i64 0))), none⟩, ⟨(some 24), (.mov (.t 26)), none⟩]) (.cond (.t 24) (.seq (.ops [⟨(some 27), (.mov (.t 15)), none⟩, ⟨(some 12), (.mov (.c (.int .i64 0))), none⟩, ⟨(some 13), (.mov (.t 27)), none⟩]) .ret) (.seq (.ops [⟨(some 29), (.mov (.t 4)), none⟩, ⟨(some 30), (.call (.c (.fn 45 [])) [(.t 29)]), none⟩, ⟨(some 31), (.notB (.t 30)), none⟩, ⟨(some 32), (.mov (.t 31)), none⟩, ⟨(some 33), (.mov (.t 5)), (some (32, false))⟩, ⟨(some 34), (.bin .lss (.t 33) (.c (.int .i64 0))), (some (32, false))⟩, ⟨(some 35), (.pick (.t 32) (.c (.bool true)) (.t 34)), none⟩, ⟨(some 36), (.mov (.t 35)), none⟩, ⟨(some 37), (.mov (.t 5)), (some (36, false))⟩, ⟨(some 38), (.bin .gtr (.t 37) (.c (.int .i64 1099511627776))), (some (36, false))⟩, ⟨(some 39), (.pick (.t 36) (.c (.bool true)) (.t 38)), none⟩, ⟨(some 28), (.mov (.t 39)), none⟩]) (.cond (.t 28) (.seq (.ops [⟨(some 12), (.mov (.c (.int .i64 0))), none⟩, ⟨(some 13), (.mov (.c (.int .i64 2))), none⟩]) .ret) .skip))))) (.seq (.ops [⟨(some 40), (.mov (.t 14)), none⟩, ⟨(some 41), (.load true 2 (.t 7)), none⟩, ⟨(some 42), (.mov (.t 2)), none⟩, ⟨(some 43), (.mov (.t 3)), none⟩, ⟨(some 44), (.mov (.t 4)), none⟩, ⟨(some 45), (.mov (.t 5)), none⟩, ⟨(some 46), (.call (.c (.fn 54 [])) [(.t 41), (.t 42), (.t 43), (.t 44), (.t 45)]), none⟩, ⟨(some 47), (.call (.c (.fn 58 [])) [(.t 40), (.t 46)]), none⟩, ⟨(some 48), (.extract (.t 47) 0), none⟩, ⟨(some 49), (.extract (.t 47) 1), none⟩, ⟨(some 12), (.mov (.t 48)), none⟩, ⟨(some 13), (.mov (.t 49)), none⟩]) .ret)))), false⟩
theorem e28 : T 28 = some c28 := by kernel_rfl
/- 33: slices.ContainsFunc[[]hopmesh/api.Source,hopmesh/api.Source] -/
def c33 : Fun1 := ⟨[(.tmp 4)], (.seq (.ops [⟨(some 4), (.mov (.c (.bool false))), none⟩]) (.seq (.ops [⟨(some 5), (.mov (.t 0)), none⟩, ⟨(some 6), (.mov (.t 1)), none⟩, ⟨(some 7), (.call (.c (.fn 63 [])) [(.t 5), (.t 6)]), none⟩, ⟨(some 8), (.bin .geq (.t 7) (.c (.int .i64 0))), none⟩, ⟨(some 4), (.mov (.t 8)), none⟩]) .ret)), false⟩
theorem e33 : T 33 = some c33 := by kernel_rfl
/- 34: hopmesh/spectrum.Check$1 -/
def c34 : Fun1 := ⟨[(.tmp 2)], (.seq (.ops [⟨(some 1), (.box (.t 0)), none⟩, ⟨(some 2), (.mov (.c (.bool false))), none⟩]) (.seq (.ops [⟨(some 3), (.load true 7 (.t 1)), none⟩, ⟨(some 4), (.call (.c (.fn 35 [])) [(.t 3)]), none⟩, ⟨(some 5), (.notB (.t 4)), none⟩, ⟨(some 2), (.mov (.t 5)), none⟩]) .ret)), false⟩
theorem e34 : T 34 = some c34 := by kernel_rfl
/- 35: hopmesh/spectrum.source -/
def c35 : Fun1 := ⟨[(.tmp 2)], (.seq (.ops [⟨(some 1), (.box (.t 0)), none⟩, ⟨(some 2), (.mov (.c (.bool false))), none⟩]) (.seq (.seq (.ops [⟨(some 5), (.faddr 0 (.t 1)), none⟩, ⟨(some 6), (.faddr 0 (.t 5)), none⟩, ⟨(some 7), (.load false 1 (.t 6)), none⟩, ⟨(some 8), (.faddr 0 (.t 1)), none⟩, ⟨(some 9), (.faddr 1 (.t 8)), none⟩, ⟨(some 10), (.load false 1 (.t 9)), none⟩, ⟨(some 11), (.minI [(.t 7), (.t 10)]), none⟩, ⟨(some 12), (.bin .lss (.t 11) (.c (.int .i64 0))), none⟩, ⟨(some 13), (.mov (.t 12)), none⟩, ⟨(some 14), (.faddr 0 (.t 1)), (some (13, false))⟩, ⟨(some 15), (.faddr 0 (.t 14)), (some (13, false))⟩, ⟨(some 16), (.load false 1 (.t 15)), (some (13, false))⟩, ⟨(some 17), (.faddr 0 (.t 1)), (some (13, false))⟩, ⟨(some 18), (.faddr 1 (.t 17)), (some (13, false))⟩, ⟨(some 19), (.load false 1 (.t 18)), (some (13, false))⟩, ⟨(some 20), (.maxI [(.t 16), (.t 19)]), (some (13, false))⟩, ⟨(some 21), (.bin .gtr (.t 20) (.c (.int .i64 10000))), (some (13, false))⟩, ⟨(some 22), (.pick (.t 13) (.c (.bool true)) (.t 21)), none⟩, ⟨(some 23), (.mov (.t 22)), none⟩, ⟨(some 24), (.faddr 2 (.t 1)), (some (23, false))⟩, ⟨(some 25), (.load false 1 (.t 24)), (some (23, false))⟩, ⟨(some 26), (.bin .lss (.t 25) (.c (.int .i64 0))), (some (23, false))⟩, ⟨(some 27), (.pick (.t 23) (.c (.bool true)) (.t 26)), none⟩, ⟨(some 28), (.mov (.t 27)), none⟩, ⟨(some 29), (.faddr 2 (.t 1)), (some (28, false))⟩, ⟨(some 30), (.load false 1 (.t 29)), (some (28, false))⟩, ⟨(some 31), (.bin .gtr (.t 30) (.c (.int .i64 68719476736))), (some (28, false))⟩, ⟨(some 32), (.pick (.t 28) (.c (.bool true)) (.t 31)), none⟩]) (.cond (.t 32) (.seq (.ops [⟨(some 2), (.mov (.c (.bool false))), none⟩]) .ret) .skip)) (.seq (.seq (.ops [⟨(some 33), (.faddr 3 (.t 1)), none⟩, ⟨(some 34), (.load false 1 (.t 33)), none⟩, ⟨(some 35), (.len (.t 34)), none⟩, ⟨(some 36), (.mov (.c (.int .i64 0))), none⟩]) (.block 0 (.loop ⟨[1, 34, 35, 36], []⟩ (.seq (.ops [⟨(some 37), (.bin .lss (.t 36) (.t 35)), none⟩]) (.seq (.cond (.t 37) .skip (.exit 0)) (.seq (.block 1 (.seq (.ops [⟨(some 38), (.mov (.t 36)), none⟩, ⟨(some 39), (.iaddrS 1 (.t 34) (.t 36)), none⟩, ⟨(some 40), (.load false 1 (.t 39)), none⟩, ⟨(some 3), (.mov (.t 38)), none⟩, ⟨(some 4), (.mov (.t 40)), none⟩]) (.seq (.ops [⟨(some 41), (.mov (.t 4)), none⟩, ⟨(some 42), (.call (.c (.fn 45 [])) [(.t 41)]), none⟩, ⟨(some 43), (.notB (.t 42)), none⟩, ⟨(some 44), (.mov (.t 43)), none⟩, ⟨(some 45), (.mov (.t 3)), (some (44, false))⟩, ⟨(some 46), (.bin .gtr (.t 45) (.c (.int .i64 0))), (some (44, false))⟩, ⟨(some 47), (.mov (.t 46)), (some (44, false))⟩, ⟨(some 48), (.mov (.t 4)), (some (47, true))⟩, ⟨(some 49), (.faddr 3 (.t 1)), (some (47, true))⟩, ⟨(some 50), (.load false 1 (.t 49)), (some (47, true))⟩, ⟨(some 51), (.mov (.t 3)), (some (47, true))⟩, ⟨(some 52), (.bin .sub (.t 51) (.c (.int .i64 1))), (some (47, true))⟩, ⟨(some 53), (.iaddrS 1 (.t 50) (.t 52)), (some (47, true))⟩, ⟨(some 54), (.load false 1 (.t 53)), (some (47, true))⟩, ⟨(some 55), (.bin .leq (.t 48) (.t 54)), (some (47, true))⟩, ⟨(some 56), (.pick (.t 47) (.t 55) (.c (.bool false))), (some (44, false))⟩, ⟨(some 57), (.pick (.t 44) (.c (.bool true)) (.t 56)), none⟩]) (.cond (.t 57) (.seq (.ops [⟨(some 2), (.mov (.c (.bool false))), none⟩]) .ret) .skip)))) (.ops [⟨(some 58), (.bin .add (.t 36) (.c (.int .i64 1))), none⟩, ⟨(some 36), (.mov (.t 58)), none⟩]))))))) (.seq (.ops [⟨(some 59), (.faddr 5 (.t 1)), none⟩, ⟨(some 60), (.load false 1 (.t 59)), none⟩, ⟨(some 61), (.bin .geq (.t 60) (.c (.int .i64 0))), none⟩, ⟨(some 62), (.mov (.t 61)), none⟩, ⟨(some 63), (.faddr 5 (.t 1)), (some (62, true))⟩, ⟨(some 64), (.load false 1 (.t 63)), (some (62, true))⟩, ⟨(some 65), (.faddr 6 (.t 1)), (some (62, true))⟩, ⟨(some 66), (.load false 1 (.t 65)), (some (62, true))⟩, ⟨(some 67), (.bin .leq (.t 64) (.t 66)), (some (62, true))⟩, ⟨(some 68), (.pick (.t 62) (.t 67) (.c (.bool false))), none⟩, ⟨(some 69), (.mov (.t 68)), none⟩, ⟨(some 70), (.faddr 6 (.t 1)), (some (69, true))⟩, ⟨(some 71), (.load false 1 (.t 70)), (some (69, true))⟩, ⟨(some 72), (.faddr 4 (.t 1)), (some (69, true))⟩, ⟨(some 73), (.load false 1 (.t 72)), (some (69, true))⟩, ⟨(some 74), (.bin .leq (.t 71) (.t 73)), (some (69, true))⟩, ⟨(some 75), (.pick (.t 69) (.t 74) (.c (.bool false))), none⟩, ⟨(some 76), (.mov (.t 75)), none⟩, ⟨(some 77), (.faddr 4 (.t 1)), (some (76, true))⟩, ⟨(some 78), (.load false 1 (.t 77)), (some (76, true))⟩, ⟨(some 79), (.bin .geq (.t 78) (.c (.int .i64 1))), (some (76, true))⟩, ⟨(some 80), (.pick (.t 76) (.t 79) (.c (.bool false))), none⟩, ⟨(some 81), (.mov (.t 80)), none⟩, ⟨(some 82), (.faddr 4 (.t 1)), (some (81, true))⟩, ⟨(some 83), (.load false 1 (.t 82)), (some (81, true))⟩, ⟨(some 84), (.bin .leq (.t 83) (.c (.int .i64 1000000000))), (some (81, true))⟩, ⟨(some 85), (.pick (.t 81) (.t 84) (.c (.bool false))), none⟩, ⟨(some 2), (.mov (.t 85)), none⟩]) .ret)))), false⟩
theorem e35 : T 35 = some c35 := by kernel_rfl
/- 36: slices.ContainsFunc[[]hopmesh/api.Fade,hopmesh/api.Fade] -/
def c36 : Fun1 := ⟨[(.tmp 4)], (.seq (.ops [⟨(some 4), (.mov (.c (.bool false))), none⟩]) (.seq (.ops [⟨(some 5), (.mov (.t 0)), none⟩, ⟨(some 6), (.mov (.t 1)), none⟩, ⟨(some 7), (.call (.c (.fn 64 [])) [(.t 5), (.t 6)]), none⟩, ⟨(some 8), (.bin .geq (.t 7) (.c (.int .i64 0))), none⟩, ⟨(some 4), (.mov (.t 8)), none⟩]) .ret)), false⟩
theorem e36 : T 36 = some c36 := by kernel_rfl
/- 37: hopmesh/spectrum.Check$2 -/
def c37 : Fun1 := ⟨[(.tmp 2)], (.seq (.ops [⟨(some 1), (.box (.t 0)), none⟩, ⟨(some 2), (.mov (.c (.bool false))), none⟩]) (.seq (.ops [⟨(some 3), (.load true 6 (.t 1)), none⟩, ⟨(some 4), (.call (.c (.fn 38 [])) [(.t 3)]), none⟩, ⟨(some 5), (.notB (.t 4)), none⟩, ⟨(some 2), (.mov (.t 5)), none⟩]) .ret)), false⟩
theorem e37 : T 37 = some c37 := by kernel_rfl
/- 38: hopmesh/spectrum.fade -/
def c38 : Fun1 := ⟨[(.tmp 2)], (.seq (.ops [⟨(some 1), (.box (.t 0)), none⟩, ⟨(some 2), (.mov (.c (.bool false))), none⟩]) (.seq (.ops [⟨(some 3), (.mov (.c (.fn 65 []))), none⟩]) (.seq (.ops [⟨(some 4), (.mov (.t 3)), none⟩, ⟨(some 5), (.faddr 0 (.t 1)), none⟩, ⟨(some 6), (.load false 1 (.t 5)), none⟩, ⟨(some 7), (.call (.t 4) [(.t 6)]), none⟩, ⟨(some 8), (.mov (.t 7)), none⟩, ⟨(some 9), (.mov (.t 3)), (some (8, true))⟩, ⟨(some 10), (.faddr 1 (.t 1)), (some (8, true))⟩, ⟨(some 11), (.load false 1 (.t 10)), (some (8, true))⟩, ⟨(some 12), (.call (.t 9) [(.t 11)]), (some (8, true))⟩, ⟨(some 13), (.pick (.t 8) (.t 12) (.c (.bool false))), none⟩, ⟨(some 14), (.mov (.t 13)), none⟩, ⟨(some 15), (.faddr 2 (.t 1)), (some (14, true))⟩, ⟨(some 16), (.load false 1 (.t 15)), (some (14, true))⟩, ⟨(some 17), (.bin .eql (.t 16) (.c (.int .i64 (-1)))), (some (14, true))⟩, ⟨(some 18), (.mov (.t 17)), (some (14, true))⟩, ⟨(some 19), (.faddr 2 (.t 1)), (some (18, false))⟩, ⟨(some 20), (.load false 1 (.t 19)), (some (18, false))⟩, ⟨(some 21), (.call (.c (.fn 45 [])) [(.t 20)]), (some (18, false))⟩, ⟨(some 22), (.pick (.t 18) (.c (.bool true)) (.t 21)), (some (14, true))⟩, ⟨(some 23), (.pick (.t 14) (.t 22) (.c (.bool false))), none⟩, ⟨(some 24), (.mov (.t 23)), none⟩, ⟨(some 25), (.faddr 3 (.t 1)), (some (24, true))⟩, ⟨(some 26), (.load false 1 (.t 25)), (some (24, true))⟩, ⟨(some 27), (.faddr 4 (.t 1)), (some (24, true))⟩, ⟨(some 28), (.load false 1 (.t 27)), (some (24, true))⟩, ⟨(some 29), (.call (.c (.fn 41 [])) [(.t 26), (.t 28)]), (some (24, true))⟩, ⟨(some 30), (.pick (.t 24) (.t 29) (.c (.bool false))), none⟩, ⟨(some 31), (.mov (.t 30)), none⟩, ⟨(some 32), (.faddr 5 (.t 1)), (some (31, true))⟩, ⟨(some 33), (.load false 1 (.t 32)), (some (31, true))⟩, ⟨(some 34), (.bin .geq (.t 33) (.c (.int .i64 0))), (some (31, true))⟩, ⟨(some 35), (.pick (.t 31) (.t 34) (.c (.bool false))), none⟩, ⟨(some 36), (.mov (.t 35)), none⟩, ⟨(some 37), (.faddr 5 (.t 1)), (some (36, true))⟩, ⟨(some 38), (.load false 1 (.t 37)), (some (36, true))⟩, ⟨(some 39), (.bin .leq (.t 38) (.c (.int .i64 1000))), (some (36, true))⟩, ⟨(some 40), (.pick (.t 36) (.t 39) (.c (.bool false))), none⟩, ⟨(some 2), (.mov (.t 40)), none⟩]) .ret))), false⟩
theorem e38 : T 38 = some c38 := by kernel_rfl
/- 39: hopmesh/hopmeshref06.Source -/
def c39 : Fun1 := ⟨[(.tmp 2)], (.seq (.ops [⟨(some 1), (.box (.t 0)), none⟩, ⟨(some 2), (.mov (.c (.bool false))), none⟩]) (.seq (.seq (.ops [⟨(some 3), (.mov (.c (.int .i64 0))), none⟩]) (.block 0 (.loop ⟨[1, 3], []⟩ (.seq (.seq (.ops [⟨(some 4), (.mov (.t 3)), none⟩, ⟨(some 5), (.faddr 3 (.t 1)), none⟩, ⟨(some 6), (.load false 1 (.t 5)), none⟩, ⟨(some 7), (.len (.t 6)), none⟩, ⟨(some 8), (.bin .lss (.t 4) (.t 7)), none⟩]) (.cond (.t 8) .skip (.exit 0))) (.seq (.block 1 (.seq (.drawn [(⟨(some 11), (.faddr 3 (.t 1)), none⟩, ⟨.bar, [], 0, 0⟩), (⟨(some 12), (.load false 1 (.t 11)), none⟩, ⟨.bar, [], 0, 0⟩), (⟨(some 13), (.mov (.t 3)), none⟩, ⟨.pure, [], 0, 0⟩), (⟨(some 14), (.iaddrS 1 (.t 12) (.t 13)), none⟩, ⟨.bar, [], 0, 0⟩), (⟨(some 15), (.load false 1 (.t 14)), none⟩, ⟨.bar, [], 0, 0⟩), (⟨(some 16), (.call (.c (.fn 50 [])) [(.t 15)]), none⟩, ⟨.bar, [], 0, 0⟩), (⟨(some 17), (.notB (.t 16)), none⟩, ⟨.pure, [], 0, 0⟩), (⟨(some 18), (.mov (.t 17)), none⟩, ⟨.pure, [], 0, 0⟩), (⟨(some 19), (.mov (.t 3)), (some (18, false))⟩, ⟨.pure, [], 0, 0⟩), (⟨(some 20), (.bin .gtr (.t 19) (.c (.int .i64 0))), (some (18, false))⟩, ⟨.pure, [], 0, 0⟩), (⟨(some 21), (.mov (.t 20)), (some (18, false))⟩, ⟨.pure, [], 0, 0⟩), (⟨(some 22), (.faddr 3 (.t 1)), (some (21, true))⟩, ⟨.seg, [], 0, 0⟩), (⟨(some 23), (.load false 1 (.t 22)), (some (21, true))⟩, ⟨.seg, [], 0, 0⟩), (⟨(some 24), (.mov (.t 3)), (some (21, true))⟩, ⟨.pure, [], 0, 0⟩), (⟨(some 25), (.iaddrS 1 (.t 23) (.t 24)), (some (21, true))⟩, ⟨.seg, [], 0, 0⟩), (⟨(some 26), (.load false 1 (.t 25)), (some (21, true))⟩, ⟨.seg, [], 0, 0⟩), (⟨(some 27), (.faddr 3 (.t 1)), (some (21, true))⟩, ⟨.seg, [], 0, 0⟩), (⟨(some 28), (.load false 1 (.t 27)), (some (21, true))⟩, ⟨.seg, [], 0, 0⟩), (⟨(some 29), (.mov (.t 3)), (some (21, true))⟩, ⟨.pure, [], 0, 0⟩), (⟨(some 30), (.bin .sub (.t 29) (.c (.int .i64 1))), (some (21, true))⟩, ⟨.pure, [], 0, 0⟩), (⟨(some 31), (.iaddrS 1 (.t 28) (.t 30)), (some (21, true))⟩, ⟨.seg, [], 0, 0⟩), (⟨(some 32), (.load false 1 (.t 31)), (some (21, true))⟩, ⟨.seg, [], 0, 0⟩), (⟨(some 33), (.bin .leq (.t 26) (.t 32)), (some (21, true))⟩, ⟨.pure, [], 0, 0⟩), (⟨(some 34), (.pick (.t 21) (.t 33) (.c (.bool false))), (some (18, false))⟩, ⟨.pure, [], 0, 0⟩), (⟨(some 35), (.pick (.t 18) (.c (.bool true)) (.t 34)), none⟩, ⟨.pure, [], 0, 0⟩)]) (.cond (.t 35) (.seq (.ops [⟨(some 2), (.mov (.c (.bool false))), none⟩]) .ret) .skip))) (.ops [⟨(some 9), (.mov (.t 3)), none⟩, ⟨(some 10), (.bin .add (.t 9) (.c (.int .i64 1))), none⟩, ⟨(some 3), (.mov (.t 10)), none⟩])))))) (.seq (.ops [⟨(some 36), (.faddr 0 (.t 1)), none⟩, ⟨(some 37), (.load true 2 (.t 36)), none⟩, ⟨(some 38), (.call (.c (.fn 66 [])) [(.t 37)]), none⟩, ⟨(some 39), (.mov (.t 38)), none⟩, ⟨(some 40), (.faddr 2 (.t 1)), (some (39, true))⟩, ⟨(some 41), (.load false 1 (.t 40)), (some (39, true))⟩, ⟨(some 42), (.call (.c (.fn 67 [])) [(.t 41)]), (some (39, true))⟩, ⟨(some 43), (.pick (.t 39) (.t 42) (.c (.bool false))), none⟩, ⟨(some 44), (.mov (.t 43)), none⟩, ⟨(some 45), (.faddr 4 (.t 1)), (some (44, true))⟩, ⟨(some 46), (.load false 1 (.t 45)), (some (44, true))⟩, ⟨(some 47), (.bin .geq (.t 46) (.c (.int .i64 1))), (some (44, true))⟩, ⟨(some 48), (.pick (.t 44) (.t 47) (.c (.bool false))), none⟩, ⟨(some 49), (.mov (.t 48)), none⟩, ⟨(some 50), (.faddr 4 (.t 1)), (some (49, true))⟩, ⟨(some 51), (.load false 1 (.t 50)), (some (49, true))⟩, ⟨(some 52), (.bin .leq (.t 51) (.c (.int .i64 1000000000))), (some (49, true))⟩, ⟨(some 53), (.pick (.t 49) (.t 52) (.c (.bool false))), none⟩, ⟨(some 54), (.mov (.t 53)), none⟩, ⟨(some 55), (.faddr 5 (.t 1)), (some (54, true))⟩, ⟨(some 56), (.load false 1 (.t 55)), (some (54, true))⟩, ⟨(some 57), (.bin .geq (.t 56) (.c (.int .i64 0))), (some (54, true))⟩, ⟨(some 58), (.pick (.t 54) (.t 57) (.c (.bool false))), none⟩, ⟨(some 59), (.mov (.t 58)), none⟩, ⟨(some 60), (.faddr 5 (.t 1)), (some (59, true))⟩, ⟨(some 61), (.load false 1 (.t 60)), (some (59, true))⟩, ⟨(some 62), (.faddr 6 (.t 1)), (some (59, true))⟩, ⟨(some 63), (.load false 1 (.t 62)), (some (59, true))⟩, ⟨(some 64), (.bin .leq (.t 61) (.t 63)), (some (59, true))⟩, ⟨(some 65), (.pick (.t 59) (.t 64) (.c (.bool false))), none⟩, ⟨(some 66), (.mov (.t 65)), none⟩, ⟨(some 67), (.faddr 6 (.t 1)), (some (66, true))⟩, ⟨(some 68), (.load false 1 (.t 67)), (some (66, true))⟩, ⟨(some 69), (.faddr 4 (.t 1)), (some (66, true))⟩, ⟨(some 70), (.load false 1 (.t 69)), (some (66, true))⟩, ⟨(some 71), (.bin .leq (.t 68) (.t 70)), (some (66, true))⟩, ⟨(some 72), (.pick (.t 66) (.t 71) (.c (.bool false))), none⟩, ⟨(some 2), (.mov (.t 72)), none⟩]) .ret))), false⟩
theorem e39 : T 39 = some c39 := by kernel_rfl
/- 40: hopmesh/hopmeshref06.fade -/
def c40 : Fun1 := ⟨[(.tmp 2)], (.seq (.ops [⟨(some 1), (.box (.t 0)), none⟩, ⟨(some 2), (.mov (.c (.bool false))), none⟩]) (.seq (.ops [⟨(some 3), (.faddr 0 (.t 1)), none⟩, ⟨(some 4), (.load false 1 (.t 3)), none⟩, ⟨(some 5), (.bin .geq (.t 4) (.c (.int .i64 (-1)))), none⟩, ⟨(some 6), (.mov (.t 5)), none⟩, ⟨(some 7), (.faddr 0 (.t 1)), (some (6, true))⟩, ⟨(some 8), (.load false 1 (.t 7)), (some (6, true))⟩, ⟨(some 9), (.bin .lss (.t 8) (.c (.int .i64 32))), (some (6, true))⟩, ⟨(some 10), (.pick (.t 6) (.t 9) (.c (.bool false))), none⟩, ⟨(some 11), (.mov (.t 10)), none⟩, ⟨(some 12), (.faddr 1 (.t 1)), (some (11, true))⟩, ⟨(some 13), (.load false 1 (.t 12)), (some (11, true))⟩, ⟨(some 14), (.bin .geq (.t 13) (.c (.int .i64 (-1)))), (some (11, true))⟩, ⟨(some 15), (.pick (.t 11) (.t 14) (.c (.bool false))), none⟩, ⟨(some 16), (.mov (.t 15)), none⟩, ⟨(some 17), (.faddr 1 (.t 1)), (some (16, true))⟩, ⟨(some 18), (.load false 1 (.t 17)), (some (16, true))⟩, ⟨(some 19), (.bin .lss (.t 18) (.c (.int .i64 32))), (some (16, true))⟩, ⟨(some 20), (.pick (.t 16) (.t 19) (.c (.bool false))), none⟩, ⟨(some 21), (.mov (.t 20)), none⟩, ⟨(some 22), (.faddr 2 (.t 1)), (some (21, true))⟩, ⟨(some 23), (.load false 1 (.t 22)), (some (21, true))⟩, ⟨(some 24), (.bin .geq (.t 23) (.c (.int .i64 (-1)))), (some (21, true))⟩, ⟨(some 25), (.pick (.t 21) (.t 24) (.c (.bool false))), none⟩, ⟨(some 26), (.mov (.t 25)), none⟩, ⟨(some 27), (.faddr 2 (.t 1)), (some (26, true))⟩, ⟨(some 28), (.load false 1 (.t 27)), (some (26, true))⟩, ⟨(some 29), (.bin .lss (.t 28) (.c (.int .i64 16))), (some (26, true))⟩, ⟨(some 30), (.pick (.t 26) (.t 29) (.c (.bool false))), none⟩, ⟨(some 31), (.mov (.t 30)), none⟩, ⟨(some 32), (.faddr 3 (.t 1)), (some (31, true))⟩, ⟨(some 33), (.load false 1 (.t 32)), (some (31, true))⟩, ⟨(some 34), (.faddr 4 (.t 1)), (some (31, true))⟩, ⟨(some 35), (.load false 1 (.t 34)), (some (31, true))⟩, ⟨(some 36), (.call (.c (.fn 43 [])) [(.t 33), (.t 35)]), (some (31, true))⟩, ⟨(some 37), (.pick (.t 31) (.t 36) (.c (.bool false))), none⟩, ⟨(some 38), (.mov (.t 37)), none⟩, ⟨(some 39), (.faddr 5 (.t 1)), (some (38, true))⟩, ⟨(some 40), (.load false 1 (.t 39)), (some (38, true))⟩, ⟨(some 41), (.bin .geq (.t 40) (.c (.int .i64 0))), (some (38, true))⟩, ⟨(some 42), (.pick (.t 38) (.t 41) (.c (.bool false))), none⟩, ⟨(some 43), (.mov (.t 42)), none⟩, ⟨(some 44), (.faddr 5 (.t 1)), (some (43, true))⟩, ⟨(some 45), (.load false 1 (.t 44)), (some (43, true))⟩, ⟨(some 46), (.bin .leq (.t 45) (.c (.int .i64 1000))), (some (43, true))⟩, ⟨(some 47), (.pick (.t 43) (.t 46) (.c (.bool false))), none⟩, ⟨(some 2), (.mov (.t 47)), none⟩]) .ret)), false⟩
theorem e40 : T 40 = some c40 := by kernel_rfl
/- 41: hopmesh/spectrum.interval -/
def c41 : Fun1 := ⟨[(.tmp 4)], (.seq (.ops [⟨(some 4), (.mov (.c (.bool false))), none⟩]) (.seq (.ops [⟨(some 5), (.mov (.t 0)), none⟩, ⟨(some 6), (.bin .geq (.t 5) (.c (.int .i64 0))), none⟩, ⟨(some 7), (.mov (.t 6)), none⟩, ⟨(some 8), (.mov (.t 0)), (some (7, true))⟩, ⟨(some 9), (.mov (.t 1)), (some (7, true))⟩, ⟨(some 10), (.bin .leq (.t 8) (.t 9)), (some (7, true))⟩, ⟨(some 11), (.pick (.t 7) (.t 10) (.c (.bool false))), none⟩, ⟨(some 12), (.mov (.t 11)), none⟩, ⟨(some 13), (.mov (.t 1)), (some (12, true))⟩, ⟨(some 14), (.bin .leq (.t 13) (.c (.int .i64 1099511627776))), (some (12, true))⟩, ⟨(some 15), (.pick (.t 12) (.t 14) (.c (.bool false))), none⟩, ⟨(some 4), (.mov (.t 15)), none⟩]) .ret)), false⟩
theorem e41 : T 41 = some c41 := by kernel_rfl
/- 42: hopmesh/spectrum.on -/
def c42 : Fun1 := ⟨[(.tmp 6)], (.seq (.ops [⟨(some 3), (.box (.t 0)), none⟩, ⟨(some 6), (.mov (.c (.bool false))), none⟩]) (.seq (.seq (.ops [⟨(some 9), (.mov (.t 1)), none⟩, ⟨(some 10), (.mov (.t 2)), none⟩, ⟨(some 11), (.bin .eql (.t 9) (.t 10)), none⟩, ⟨(some 12), (.mov (.t 11)), none⟩, ⟨(some 13), (.faddr 5 (.t 3)), (some (12, false))⟩, ⟨(some 14), (.load false 1 (.t 13)), (some (12, false))⟩, ⟨(some 15), (.faddr 6 (.t 3)), (some (12, false))⟩, ⟨(some 16), (.load false 1 (.t 15)), (some (12, false))⟩, ⟨(some 17), (.bin .eql (.t 14) (.t 16)), (some (12, false))⟩, ⟨(some 18), (.pick (.t 12) (.c (.bool true)) (.t 17)), none⟩]) (.cond (.t 18) (.seq (.ops [⟨(some 6), (.mov (.c (.bool false))), none⟩]) .ret) .skip)) (.seq (.ops [⟨(some 19), (.mov (.t 1)), none⟩, ⟨(some 20), (.faddr 4 (.t 3)), none⟩, ⟨(some 21), (.load false 1 (.t 20)), none⟩, ⟨(some 22), (.bin .rem (.t 19) (.t 21)), none⟩, ⟨(some 7), (.mov (.t 22)), none⟩]) (.seq (.ops [⟨(some 23), (.mov (.t 7)), none⟩, ⟨(some 24), (.mov (.t 2)), none⟩, ⟨(some 25), (.bin .add (.t 23) (.t 24)), none⟩, ⟨(some 26), (.mov (.t 1)), none⟩, ⟨(some 27), (.bin .sub (.t 25) (.t 26)), none⟩, ⟨(some 8), (.mov (.t 27)), none⟩]) (.seq (.ops [⟨(some 28), (.mov (.t 7)), none⟩, ⟨(some 29), (.faddr 6 (.t 3)), none⟩, ⟨(some 30), (.load false 1 (.t 29)), none⟩, ⟨(some 31), (.bin .lss (.t 28) (.t 30)), none⟩, ⟨(some 32), (.mov (.t 31)), none⟩, ⟨(some 33), (.faddr 5 (.t 3)), (some (32, true))⟩, ⟨(some 34), (.load false 1 (.t 33)), (some (32, true))⟩, ⟨(some 35), (.mov (.t 8)), (some (32, true))⟩, ⟨(some 36), (.bin .lss (.t 34) (.t 35)), (some (32, true))⟩, ⟨(some 37), (.pick (.t 32) (.t 36) (.c (.bool false))), none⟩, ⟨(some 38), (.mov (.t 37)), none⟩, ⟨(some 39), (.faddr 5 (.t 3)), (some (38, false))⟩, ⟨(some 40), (.load false 1 (.t 39)), (some (38, false))⟩, ⟨(some 41), (.faddr 4 (.t 3)), (some (38, false))⟩, ⟨(some 42), (.load false 1 (.t 41)), (some (38, false))⟩, ⟨(some 43), (.bin .add (.t 40) (.t 42)), (some (38, false))⟩, ⟨(some 44), (.mov (.t 8)), (some (38, false))⟩, ⟨(some 45), (.bin .lss (.t 43) (.t 44)), (some (38, false))⟩, ⟨(some 46), (.pick (.t 38) (.c (.bool true)) (.t 45)), none⟩, ⟨(some 6), (.mov (.t 46)), none⟩]) .ret))))), false⟩
theorem e42 : T 42 = some c42 := by kernel_rfl
/- 43: hopmesh/hopmeshref06.Interval -/
def c43 : Fun1 := ⟨[(.tmp 4)], (.seq (.ops [⟨(some 4), (.mov (.c (.bool false))), none⟩]) (.seq (.ops [⟨(some 5), (.mov (.t 0)), none⟩, ⟨(some 6), (.bin .geq (.t 5) (.c (.int .i64 0))), none⟩, ⟨(some 7), (.mov (.t 6)), none⟩, ⟨(some 8), (.mov (.t 0)), (some (7, true))⟩, ⟨(some 9), (.mov (.t 1)), (some (7, true))⟩, ⟨(some 10), (.bin .leq (.t 8) (.t 9)), (some (7, true))⟩, ⟨(some 11), (.pick (.t 7) (.t 10) (.c (.bool false))), none⟩, ⟨(some 12), (.mov (.t 11)), none⟩, ⟨(some 13), (.mov (.t 1)), (some (12, true))⟩, ⟨(some 14), (.bin .leq (.t 13) (.c (.int .i64 1099511627776))), (some (12, true))⟩, ⟨(some 15), (.pick (.t 12) (.t 14) (.c (.bool false))), none⟩, ⟨(some 4), (.mov (.t 15)), none⟩]) .ret)), false⟩
theorem e43 : T 43 = some c43 := by kernel_rfl
/- 45: hopmesh/spectrum.channel -/
def c45 : Fun1 := ⟨[(.tmp 2)], (.seq (.ops [⟨(some 2), (.mov (.c (.bool false))), none⟩]) (.seq (.ops [⟨(some 3), (.mov (.t 0)), none⟩, ⟨(some 4), (.bin .geq (.t 3) (.c (.int .i64 0))), none⟩, ⟨(some 5), (.mov (.t 4)), none⟩, ⟨(some 6), (.mov (.t 0)), (some (5, true))⟩, ⟨(some 7), (.bin .lss (.t 6) (.c (.int .i64 16))), (some (5, true))⟩, ⟨(some 8), (.pick (.t 5) (.t 7) (.c (.bool false))), none⟩, ⟨(some 2), (.mov (.t 8)), none⟩]) .ret)), false⟩
theorem e45 : T 45 = some c45 := by kernel_rfl
/- 50: hopmesh/hopmeshref06.Channel -/
def c50 : Fun1 := ⟨[(.tmp 2)], (.seq (.ops [⟨(some 2), (.mov (.c (.bool false))), none⟩]) (.seq (.ops [⟨(some 3), (.mov (.t 0)), none⟩, ⟨(some 4), (.bin .geq (.t 3) (.c (.int .i64 0))), none⟩, ⟨(some 5), (.mov (.t 4)), none⟩, ⟨(some 6), (.mov (.t 0)), (some (5, true))⟩, ⟨(some 7), (.bin .lss (.t 6) (.c (.int .i64 16))), (some (5, true))⟩, ⟨(some 8), (.pick (.t 5) (.t 7) (.c (.bool false))), none⟩, ⟨(some 2), (.mov (.t 8)), none⟩]) .ret)), false⟩
theorem e50 : T 50 = some c50 := by kernel_rfl
/- 53: hopmesh/spectrum.node -/
def c53 : Fun1 := ⟨[(.tmp 2)], (.seq (.ops [⟨(some 2), (.mov (.c (.bool false))), none⟩]) (.seq (.ops [⟨(some 3), (.mov (.t 0)), none⟩, ⟨(some 4), (.bin .geq (.t 3) (.c (.int .i64 0))), none⟩, ⟨(some 5), (.mov (.t 4)), none⟩, ⟨(some 6), (.mov (.t 0)), (some (5, true))⟩, ⟨(some 7), (.bin .lss (.t 6) (.c (.int .i64 32))), (some (5, true))⟩, ⟨(some 8), (.pick (.t 5) (.t 7) (.c (.bool false))), none⟩, ⟨(some 2), (.mov (.t 8)), none⟩]) .ret)), false⟩
theorem e53 : T 53 = some c53 := by kernel_rfl
/- 63: slices.IndexFunc[[]hopmesh/api.Source,hopmesh/api.Source] -/
def c63 : Fun1 := ⟨[(.tmp 4)], (.seq (.ops [⟨(some 4), (.mov (.c (.int .i64 0))), none⟩]) (.seq (.seq (.ops [⟨(some 6), (.mov (.t 0)), none⟩, ⟨(some 7), (.len (.t 6)), none⟩, ⟨(some 8), (.mov (.c (.int .i64 0))), none⟩]) (.block 0 (.loop ⟨[0, 1, 7, 8], []⟩ (.seq (.ops [⟨(some 9), (.bin .lss (.t 8) (.t 7)), none⟩]) (.seq (.cond (.t 9) .skip (.exit 0)) (.seq (.block 1 (.seq (.ops [⟨(some 10), (.mov (.t 8)), none⟩, ⟨(some 5), (.mov (.t 10)), none⟩]) (.seq (.ops [⟨(some 11), (.mov (.t 1)), none⟩, ⟨(some 12), (.mov (.t 0)), none⟩, ⟨(some 13), (.mov (.t 5)), none⟩, ⟨(some 14), (.iaddrS 7 (.t 12) (.t 13)), none⟩, ⟨(some 15), (.load true 7 (.t 14)), none⟩, ⟨(some 16), (.call (.t 11) [(.t 15)]), none⟩]) (.cond (.t 16) (.seq (.ops [⟨(some 17), (.mov (.t 5)), none⟩, ⟨(some 4), (.mov (.t 17)), none⟩]) .ret) .skip)))) (.ops [⟨(some 18), (.bin .add (.t 8) (.c (.int .i64 1))), none⟩, ⟨(some 8), (.mov (.t 18)), none⟩]))))))) (.seq (.ops [⟨(some 4), (.mov (.c (.int .i64 (-1)))), none⟩]) .ret))), false⟩
theorem e63 : T 63 = some c63 := by kernel_rfl
/- 64: slices.IndexFunc[[]hopmesh/api.Fade,hopmesh/api.Fade] -/
def c64 : Fun1 := ⟨[(.tmp 4)], (.seq (.ops [⟨(some 4), (.mov (.c (.int .i64 0))), none⟩]) (.seq (.seq (.ops [⟨(some 6), (.mov (.t 0)), none⟩, ⟨(some 7), (.len (.t 6)), none⟩, ⟨(some 8), (.mov (.c (.int .i64 0))), none⟩]) (.block 0 (.loop ⟨[0, 1, 7, 8], []⟩ (.seq (.ops [⟨(some 9), (.bin .lss (.t 8) (.t 7)), none⟩]) (.seq (.cond (.t 9) .skip (.exit 0)) (.seq (.block 1 (.seq (.ops [⟨(some 10), (.mov (.t 8)), none⟩, ⟨(some 5), (.mov (.t 10)), none⟩]) (.seq (.ops [⟨(some 11), (.mov (.t 1)), none⟩, ⟨(some 12), (.mov (.t 0)), none⟩, ⟨(some 13), (.mov (.t 5)), none⟩, ⟨(some 14), (.iaddrS 6 (.t 12) (.t 13)), none⟩, ⟨(some 15), (.load true 6 (.t 14)), none⟩, ⟨(some 16), (.call (.t 11) [(.t 15)]), none⟩]) (.cond (.t 16) (.seq (.ops [⟨(some 17), (.mov (.t 5)), none⟩, ⟨(some 4), (.mov (.t 17)), none⟩]) .ret) .skip)))) (.ops [⟨(some 18), (.bin .add (.t 8) (.c (.int .i64 1))), none⟩, ⟨(some 8), (.mov (.t 18)), none⟩]))))))) (.seq (.ops [⟨(some 4), (.mov (.c (.int .i64 (-1)))), none⟩]) .ret))), false⟩
theorem e64 : T 64 = some c64 := by kernel_rfl
/- 65: hopmesh/spectrum.fade$1 -/
def c65 : Fun1 := ⟨[(.tmp 2)], (.seq (.ops [⟨(some 2), (.mov (.c (.bool false))), none⟩]) (.seq (.ops [⟨(some 3), (.mov (.t 0)), none⟩, ⟨(some 4), (.bin .eql (.t 3) (.c (.int .i64 (-1)))), none⟩, ⟨(some 5), (.mov (.t 4)), none⟩, ⟨(some 6), (.mov (.t 0)), (some (5, false))⟩, ⟨(some 7), (.call (.c (.fn 53 [])) [(.t 6)]), (some (5, false))⟩, ⟨(some 8), (.pick (.t 5) (.c (.bool true)) (.t 7)), none⟩, ⟨(some 2), (.mov (.t 8)), none⟩]) .ret)), false⟩
theorem e65 : T 65 = some c65 := by kernel_rfl
/- 66: hopmesh/hopmeshref05.Point -/
def c66 : Fun1 := ⟨[(.tmp 2)], (.seq (.ops [⟨(some 1), (.box (.t 0)), none⟩, ⟨(some 2), (.mov (.c (.bool false))), none⟩]) (.seq (.ops [⟨(some 3), (.faddr 0 (.t 1)), none⟩, ⟨(some 4), (.load false 1 (.t 3)), none⟩, ⟨(some 5), (.bin .geq (.t 4) (.c (.int .i64 0))), none⟩, ⟨(some 6), (.mov (.t 5)), none⟩, ⟨(some 7), (.faddr 0 (.t 1)), (some (6, true))⟩, ⟨(some 8), (.load false 1 (.t 7)), (some (6, true))⟩, ⟨(some 9), (.bin .leq (.t 8) (.c (.int .i64 10000))), (some (6, true))⟩, ⟨(some 10), (.pick (.t 6) (.t 9) (.c (.bool false))), none⟩, ⟨(some 11), (.mov (.t 10)), none⟩, ⟨(some 12), (.faddr 1 (.t 1)), (some (11, true))⟩, ⟨(some 13), (.load false 1 (.t 12)), (some (11, true))⟩, ⟨(some 14), (.bin .geq (.t 13) (.c (.int .i64 0))), (some (11, true))⟩, ⟨(some 15), (.pick (.t 11) (.t 14) (.c (.bool false))), none⟩, ⟨(some 16), (.mov (.t 15)), none⟩, ⟨(some 17), (.faddr 1 (.t 1)), (some (16, true))⟩, ⟨(some 18), (.load false 1 (.t 17)), (some (16, true))⟩, ⟨(some 19), (.bin .leq (.t 18) (.c (.int .i64 10000))), (some (16, true))⟩, ⟨(some 20), (.pick (.t 16) (.t 19) (.c (.bool false))), none⟩, ⟨(some 2), (.mov (.t 20)), none⟩]) .ret)), false⟩
theorem e66 : T 66 = some c66 := by kernel_rfl
/- 67: hopmesh/hopmeshref04.Is -/
def c67 : Fun1 := ⟨[(.tmp 2)], (.seq (.ops [⟨(some 2), (.mov (.c (.bool false))), none⟩]) (.seq (.ops [⟨(some 3), (.mov (.t 0)), none⟩, ⟨(some 4), (.bin .geq (.t 3) (.c (.int .i64 0))), none⟩, ⟨(some 5), (.mov (.t 4)), none⟩, ⟨(some 6), (.mov (.t 0)), (some (5, true))⟩, ⟨(some 7), (.bin .leq (.t 6) (.c (.int .i64 68719476736))), (some (5, true))⟩, ⟨(some 8), (.pick (.t 5) (.t 7) (.c (.bool false))), none⟩, ⟨(some 2), (.mov (.t 8)), none⟩]) .ret)), false⟩
theorem e67 : T 67 = some c67 := by kernel_rfl
end Go.Sh
namespace Go.Sh
set_option linter.unusedSectionVars false
set_option linter.unnecessarySimpa false
set_option linter.unusedVariables false
set_option linter.unusedSimpArgs false
set_option maxRecDepth 100000
set_option maxHeartbeats 4000000
theorem x63 : T 63 = some (stdIdxF true 7) := e63
theorem x64 : T 64 = some (stdIdxF true 6) := e64
theorem x33 : T 33 = some (stdCF 63) := e33
theorem x36 : T 36 = some (stdCF 64) := e36
def chanB (c : Int) : Bool := decide (0 ≤ c) && decide (c < 16)
theorem s45 (n : Nat) (H : Heap) (c : Int) : call1 T (n + 1) (.fn 45) [.int .i64 c] H = some (.bool (chanB c), H) := by
  refine call_pure e45 (by rfl) ?_
  simp only [c45, heap0, go_sem, Int.cast_ofNat_Int, Int.reduceToNat, Bool.true_xor, Bool.false_xor, Bool.xor_true, Bool.xor_false, Nat.reduceAdd, Nat.reduceBEq, Nat.reduceLeDiff, Nat.reduceLT, Nat.reduceMul, Nat.reduceSub, Int.reduceEq, Int.reduceLT, Int.reduceLE, Int.reduceNeg]
  repeat' (with_reducible refine fork_split (fun _ => ?_) (fun _ => ?_) <;> simp only [*, go_sem, Int.cast_ofNat_Int, Int.reduceToNat, Bool.true_xor, Bool.false_xor, Bool.xor_true, Bool.xor_false, Nat.reduceAdd, Nat.reduceBEq, Nat.reduceLeDiff, Nat.reduceLT, Nat.reduceMul, Nat.reduceSub, Int.reduceEq, Int.reduceLT, Int.reduceLE, Int.reduceNeg])
  all_goals (simp only [chanB]; refine congrArg some (congrArg SV.bool ?_); rw [Bool.eq_iff_iff]; grind)
theorem s50 (n : Nat) (H : Heap) (c : Int) : call1 T (n + 1) (.fn 50) [.int .i64 c] H = some (.bool (chanB c), H) := by
  refine call_pure e50 (by rfl) ?_
  simp only [c50, heap0, go_sem, Int.cast_ofNat_Int, Int.reduceToNat, Bool.true_xor, Bool.false_xor, Bool.xor_true, Bool.xor_false, Nat.reduceAdd, Nat.reduceBEq, Nat.reduceLeDiff, Nat.reduceLT, Nat.reduceMul, Nat.reduceSub, Int.reduceEq, Int.reduceLT, Int.reduceLE, Int.reduceNeg]
  repeat' (with_reducible refine fork_split (fun _ => ?_) (fun _ => ?_) <;> simp only [*, go_sem, Int.cast_ofNat_Int, Int.reduceToNat, Bool.true_xor, Bool.false_xor, Bool.xor_true, Bool.xor_false, Nat.reduceAdd, Nat.reduceBEq, Nat.reduceLeDiff, Nat.reduceLT, Nat.reduceMul, Nat.reduceSub, Int.reduceEq, Int.reduceLT, Int.reduceLE, Int.reduceNeg])
  all_goals (simp only [chanB]; refine congrArg some (congrArg SV.bool ?_); rw [Bool.eq_iff_iff]; grind)
def nodB (c : Int) : Bool := decide (0 ≤ c) && decide (c < 32)
theorem s53 (n : Nat) (H : Heap) (c : Int) : call1 T (n + 1) (.fn 53) [.int .i64 c] H = some (.bool (nodB c), H) := by
  refine call_pure e53 (by rfl) ?_
  simp only [c53, heap0, go_sem, Int.cast_ofNat_Int, Int.reduceToNat, Bool.true_xor, Bool.false_xor, Bool.xor_true, Bool.xor_false, Nat.reduceAdd, Nat.reduceBEq, Nat.reduceLeDiff, Nat.reduceLT, Nat.reduceMul, Nat.reduceSub, Int.reduceEq, Int.reduceLT, Int.reduceLE, Int.reduceNeg]
  repeat' (with_reducible refine fork_split (fun _ => ?_) (fun _ => ?_) <;> simp only [*, go_sem, Int.cast_ofNat_Int, Int.reduceToNat, Bool.true_xor, Bool.false_xor, Bool.xor_true, Bool.xor_false, Nat.reduceAdd, Nat.reduceBEq, Nat.reduceLeDiff, Nat.reduceLT, Nat.reduceMul, Nat.reduceSub, Int.reduceEq, Int.reduceLT, Int.reduceLE, Int.reduceNeg])
  all_goals (simp only [nodB]; refine congrArg some (congrArg SV.bool ?_); rw [Bool.eq_iff_iff]; grind)
def nodB' (c : Int) : Bool := decide (-1 ≤ c) && decide (c < 32)
theorem s65 (n : Nat) (H : Heap) (c : Int) : call1 T (n + 2) (.fn 65) [.int .i64 c] H = some (.bool (nodB' c), H) := by
  refine call_pure e65 (by rfl) ?_
  simp only [c65, heap0, go_sem, Int.cast_ofNat_Int, Int.reduceToNat, Bool.true_xor, Bool.false_xor, Bool.xor_true, Bool.xor_false, Nat.reduceAdd, Nat.reduceBEq, Nat.reduceLeDiff, Nat.reduceLT, Nat.reduceMul, Nat.reduceSub, Int.reduceEq, Int.reduceLT, Int.reduceLE, Int.reduceNeg, s53]
  repeat' (with_reducible refine fork_split (fun _ => ?_) (fun _ => ?_) <;> simp only [*, go_sem, Int.cast_ofNat_Int, Int.reduceToNat, Bool.true_xor, Bool.false_xor, Bool.xor_true, Bool.xor_false, Nat.reduceAdd, Nat.reduceBEq, Nat.reduceLeDiff, Nat.reduceLT, Nat.reduceMul, Nat.reduceSub, Int.reduceEq, Int.reduceLT, Int.reduceLE, Int.reduceNeg, s53])
  all_goals (simp only [nodB', nodB]; refine congrArg some (congrArg SV.bool ?_); rw [Bool.eq_iff_iff]; grind)
def ivB (a b : Int) : Bool := decide (0 ≤ a) && decide (a ≤ b) && decide (b ≤ 1099511627776)
theorem s41 (n : Nat) (H : Heap) (a b : Int) : call1 T (n + 1) (.fn 41) [.int .i64 a, .int .i64 b] H = some (.bool (ivB a b), H) := by
  refine call_pure e41 (by rfl) ?_
  simp only [c41, heap0, go_sem, Int.cast_ofNat_Int, Int.reduceToNat, Bool.true_xor, Bool.false_xor, Bool.xor_true, Bool.xor_false, Nat.reduceAdd, Nat.reduceBEq, Nat.reduceLeDiff, Nat.reduceLT, Nat.reduceMul, Nat.reduceSub, Int.reduceEq, Int.reduceLT, Int.reduceLE, Int.reduceNeg]
  repeat' (with_reducible refine fork_split (fun _ => ?_) (fun _ => ?_) <;> simp only [*, go_sem, Int.cast_ofNat_Int, Int.reduceToNat, Bool.true_xor, Bool.false_xor, Bool.xor_true, Bool.xor_false, Nat.reduceAdd, Nat.reduceBEq, Nat.reduceLeDiff, Nat.reduceLT, Nat.reduceMul, Nat.reduceSub, Int.reduceEq, Int.reduceLT, Int.reduceLE, Int.reduceNeg])
  all_goals (simp only [ivB]; grind)
theorem s43 (n : Nat) (H : Heap) (a b : Int) : call1 T (n + 1) (.fn 43) [.int .i64 a, .int .i64 b] H = some (.bool (ivB a b), H) := by
  refine call_pure e43 (by rfl) ?_
  simp only [c43, heap0, go_sem, Int.cast_ofNat_Int, Int.reduceToNat, Bool.true_xor, Bool.false_xor, Bool.xor_true, Bool.xor_false, Nat.reduceAdd, Nat.reduceBEq, Nat.reduceLeDiff, Nat.reduceLT, Nat.reduceMul, Nat.reduceSub, Int.reduceEq, Int.reduceLT, Int.reduceLE, Int.reduceNeg]
  repeat' (with_reducible refine fork_split (fun _ => ?_) (fun _ => ?_) <;> simp only [*, go_sem, Int.cast_ofNat_Int, Int.reduceToNat, Bool.true_xor, Bool.false_xor, Bool.xor_true, Bool.xor_false, Nat.reduceAdd, Nat.reduceBEq, Nat.reduceLeDiff, Nat.reduceLT, Nat.reduceMul, Nat.reduceSub, Int.reduceEq, Int.reduceLT, Int.reduceLE, Int.reduceNeg])
  all_goals (simp only [ivB]; grind)
abbrev pt (a b : Int) : SV := .agg [.int .i64 a, .int .i64 b]
def pointI (a b : Int) : Bool := decide (0 ≤ a) && decide (a ≤ 10000) && decide (0 ≤ b) && decide (b ≤ 10000)
theorem s66 (n : Nat) (H : Heap) (a b : Int) : call1 T (n + 1) (.fn 66) [pt a b] H = some (.bool (pointI a b), H) := by
  refine call_pure e66 (by rfl) ?_
  simp only [c66, heap0, go_sem, Int.cast_ofNat_Int, Int.reduceToNat, Bool.true_xor, Bool.false_xor, Bool.xor_true, Bool.xor_false, Nat.reduceAdd, Nat.reduceBEq, Nat.reduceLeDiff, Nat.reduceLT, Nat.reduceMul, Nat.reduceSub, Int.reduceEq, Int.reduceLT, Int.reduceLE, Int.reduceNeg]
  repeat' (with_reducible refine fork_split (fun _ => ?_) (fun _ => ?_) <;> simp only [*, go_sem, Int.cast_ofNat_Int, Int.reduceToNat, Bool.true_xor, Bool.false_xor, Bool.xor_true, Bool.xor_false, Nat.reduceAdd, Nat.reduceBEq, Nat.reduceLeDiff, Nat.reduceLT, Nat.reduceMul, Nat.reduceSub, Int.reduceEq, Int.reduceLT, Int.reduceLE, Int.reduceNeg])
  all_goals (simp only [pointI]; grind)
def powI (n : Int) : Bool := decide (0 ≤ n) && decide (n ≤ 68719476736)
theorem s67 (n : Nat) (H : Heap) (a : Int) : call1 T (n + 1) (.fn 67) [.int .i64 a] H = some (.bool (powI a), H) := by
  refine call_pure e67 (by rfl) ?_
  simp only [c67, heap0, go_sem, Int.cast_ofNat_Int, Int.reduceToNat, Bool.true_xor, Bool.false_xor, Bool.xor_true, Bool.xor_false, Nat.reduceAdd, Nat.reduceBEq, Nat.reduceLeDiff, Nat.reduceLT, Nat.reduceMul, Nat.reduceSub, Int.reduceEq, Int.reduceLT, Int.reduceLE, Int.reduceNeg]
  repeat' (with_reducible refine fork_split (fun _ => ?_) (fun _ => ?_) <;> simp only [*, go_sem, Int.cast_ofNat_Int, Int.reduceToNat, Bool.true_xor, Bool.false_xor, Bool.xor_true, Bool.xor_false, Nat.reduceAdd, Nat.reduceBEq, Nat.reduceLeDiff, Nat.reduceLT, Nat.reduceMul, Nat.reduceSub, Int.reduceEq, Int.reduceLT, Int.reduceLE, Int.reduceNeg])
  all_goals (simp only [powI]; grind)
structure Fd where
  a : Int
  b : Int
  c : Int
  x : Int
  y : Int
  f : Int
abbrev fdC (w : Fd) : List SV := [.int .i64 w.a, .int .i64 w.b, .int .i64 w.c, .int .i64 w.x, .int .i64 w.y, .int .i64 w.f]
def fdB (w : Fd) : Bool := nodB' w.a && nodB' w.b && (decide (w.c = -1) || chanB w.c) && ivB w.x w.y && decide (0 ≤ w.f) && decide (w.f ≤ 1000)
theorem s38 (n : Nat) (H : Heap) (w : Fd) : call1 T (n + 3) (.fn 38) [.agg (fdC w)] H = some (.bool (fdB w), H) := by
  refine call_pure e38 (by rfl) ?_
  simp only [c38, heap0, go_sem, Int.cast_ofNat_Int, Int.reduceToNat, Bool.true_xor, Bool.false_xor, Bool.xor_true, Bool.xor_false, Nat.reduceAdd, Nat.reduceBEq, Nat.reduceLeDiff, Nat.reduceLT, Nat.reduceMul, Nat.reduceSub, Int.reduceEq, Int.reduceLT, Int.reduceLE, Int.reduceNeg, s65, s45, s41]
  repeat' (with_reducible refine fork_split (fun _ => ?_) (fun _ => ?_) <;> simp only [*, go_sem, Int.cast_ofNat_Int, Int.reduceToNat, Bool.true_xor, Bool.false_xor, Bool.xor_true, Bool.xor_false, Nat.reduceAdd, Nat.reduceBEq, Nat.reduceLeDiff, Nat.reduceLT, Nat.reduceMul, Nat.reduceSub, Int.reduceEq, Int.reduceLT, Int.reduceLE, Int.reduceNeg, s65, s45, s41])
  all_goals (simp only [fdB]; grind)
theorem s40 (n : Nat) (H : Heap) (w : Fd) : call1 T (n + 2) (.fn 40) [.agg (fdC w)] H = some (.bool (fdB w), H) := by
  refine call_pure e40 (by rfl) ?_
  simp only [c40, heap0, go_sem, Int.cast_ofNat_Int, Int.reduceToNat, Bool.true_xor, Bool.false_xor, Bool.xor_true, Bool.xor_false, Nat.reduceAdd, Nat.reduceBEq, Nat.reduceLeDiff, Nat.reduceLT, Nat.reduceMul, Nat.reduceSub, Int.reduceEq, Int.reduceLT, Int.reduceLE, Int.reduceNeg, s43]
  repeat' (with_reducible refine fork_split (fun _ => ?_) (fun _ => ?_) <;> simp only [*, go_sem, Int.cast_ofNat_Int, Int.reduceToNat, Bool.true_xor, Bool.false_xor, Bool.xor_true, Bool.xor_false, Nat.reduceAdd, Nat.reduceBEq, Nat.reduceLeDiff, Nat.reduceLT, Nat.reduceMul, Nat.reduceSub, Int.reduceEq, Int.reduceLT, Int.reduceLE, Int.reduceNeg, s43])
  all_goals (simp only [fdB, nodB', chanB]; refine congrArg some (congrArg SV.bool ?_); rw [Bool.eq_iff_iff]; grind)
theorem s37 (n : Nat) (H : Heap) (w : Fd) : call1 T (n + 4) (.fn 37) [.agg (fdC w)] H = some (.bool (!fdB w), H) := by
  refine call_pure e37 (by rfl) ?_
  simp only [c37, heap0, go_sem, Int.cast_ofNat_Int, Int.reduceToNat, Bool.true_xor, Bool.false_xor, Bool.xor_true, Bool.xor_false, Nat.reduceAdd, Nat.reduceBEq, Nat.reduceLeDiff, Nat.reduceLT, Nat.reduceMul, Nat.reduceSub, Int.reduceEq, Int.reduceLT, Int.reduceLE, Int.reduceNeg, s38]
end Go.Sh
namespace Go.Sh
set_option linter.unusedSectionVars false
set_option linter.unnecessarySimpa false
set_option linter.unusedVariables false
set_option linter.unusedSimpArgs false
set_option maxRecDepth 100000
set_option maxHeartbeats 4000000
structure Src where
  a : Int
  b : Int
  p : Int
  C : List Int
  f : Bool
  per : Int
  fr : Int
  to : Int
abbrev srC (s : Src) : List SV := [.int .i64 s.a, .int .i64 s.b, .int .i64 s.p, .lst 1 (iS s.C) s.f, .int .i64 s.per, .int .i64 s.fr, .int .i64 s.to]
def badAt (C : List Int) (i : Nat) : Bool := match C[i]? with
  | some c => !chanB c || (decide (0 < (i : Int)) && match C[i - 1]? with | some d => decide (c ≤ d) | none => false)
  | none => false
theorem badAt_zero {C : List Int} {i : Nat} {c : Int} (h : C[i]? = some c) (hz : decide (0 < (i : Int)) = false) : badAt C i = !chanB c := by simp only [badAt, h, hz, Bool.false_and, Bool.or_false]
theorem badAt_suc {C : List Int} {i k : Nat} {c d : Int} (h : C[i]? = some c) (hi : i = k + 1) (hd : C[k]? = some d) : badAt C i = (!chanB c || decide (c ≤ d)) := by
  have h1 : decide (0 < (i : Int)) = true := decide_eq_true (by omega)
  have h2 : i - 1 = k := by omega
  simp only [badAt, h, h1, h2, hd, Bool.true_and]
def ascB (C : List Int) : Bool := !((List.range C.length).any (badAt C))
theorem asc_bad {C : List Int} {i : Nat} {c : Int} (h : C[i]? = some c) (hb : badAt C i = true) : ascB C = false := by
  have : (List.range C.length).any (badAt C) = true := List.any_eq_true.2 ⟨i, List.mem_range.2 (List.getElem?_eq_some_iff.1 h).1, hb⟩
  simp [ascB, this]
theorem asc_good {C : List Int} (h : ∀ j, j < C.length → badAt C j = false) : ascB C = true := by
  have : (List.range C.length).any (badAt C) = false := by
    rw [List.any_eq_false]
    intro j hj
    rw [h j (List.mem_range.1 hj)]; simp
  simp [ascB, this]
def perB (per fr to : Int) : Bool := decide (0 ≤ fr) && decide (fr ≤ to) && decide (to ≤ per) && decide (1 ≤ per) && decide (per ≤ 1000000000)
def srB (s : Src) : Bool := pointI s.a s.b && powI s.p && ascB s.C && perB s.per s.fr s.to
theorem srB_bad {s : Src} (h : ascB s.C = false) : srB s = false := by simp [srB, h]
theorem srB_no {s : Src} (h : (pointI s.a s.b && powI s.p) = false) : srB s = false := by simp [srB, h]
theorem srB_yes {s : Src} (h : (pointI s.a s.b && powI s.p) = true) (hc : ascB s.C = true) : srB s = perB s.per s.fr s.to := by simp [srB, h, hc]
theorem iS_nth {C : List Int} {i : Nat} : (iS C)[i]? = (C[i]?).map fun c => [SV.int .i64 c] := by simp [iS]
theorem s35 (n : Nat) (H : Heap) (s : Src) (hC : s.C.length ≤ maxLen) : call1 T (n + 2) (.fn 35) [.agg (srC s)] H = some (.bool (srB s), H) := by
  refine call_pure e35 (by rfl) ?_
  simp only [c35, heap0, go_sem, Int.cast_ofNat_Int, Int.reduceToNat, Bool.true_xor, Bool.false_xor, Bool.xor_true, Bool.xor_false, Nat.reduceAdd, Nat.reduceBEq, Nat.reduceLeDiff, Nat.reduceLT, Nat.reduceMul, Nat.reduceSub, Int.reduceEq, Int.reduceLT, Int.reduceLE, Int.reduceNeg]
  repeat' (with_reducible refine fork_split (fun _ => ?_) (fun _ => ?_) <;> simp only [*, go_sem, Int.cast_ofNat_Int, Int.reduceToNat, Bool.true_xor, Bool.false_xor, Bool.xor_true, Bool.xor_false, Nat.reduceAdd, Nat.reduceBEq, Nat.reduceLeDiff, Nat.reduceLT, Nat.reduceMul, Nat.reduceSub, Int.reduceEq, Int.reduceLT, Int.reduceLE, Int.reduceNeg])
  all_goals try (
    with_reducible refine congrArg some (congrArg SV.bool ?_)
    rw [srB_no (by rw [Bool.eq_false_iff]; simp only [pointI, powI, ne_eq, Bool.and_eq_true, decide_eq_true_eq]; grind)]
    done)
  have hpp : (pointI s.a s.b && powI s.p) = true := by
    simp only [pointI, powI, Bool.and_eq_true, decide_eq_true_eq]; grind
  refine loop_rule (fun i => ([(1, .ptr 0 0 0 0), (34, .lst 1 (iS s.C) s.f), (35, .int .i64 s.C.length), (36, .int .i64 i)], ⟨[.box (srC s)], [], 0⟩)) (fun i => ∀ (j : Nat), j < i → badAt s.C j = false) s.C.length ?_ (fun j h => by omega) ?_
  · simp only [go_sem, Int.cast_ofNat_Int, Int.reduceToNat, Bool.true_xor, Bool.false_xor, Bool.xor_true, Bool.xor_false, Nat.reduceAdd, Nat.reduceBEq, Nat.reduceLeDiff, Nat.reduceLT, Nat.reduceMul, Nat.reduceSub, Int.reduceEq, Int.reduceLT, Int.reduceLE, Int.reduceNeg] <;> rfl
  · intro i hi hP
    rcases Nat.lt_or_ge i s.C.length with hlt | hge
    · obtain ⟨c, hc⟩ := getS hlt
      have hw := w64_suc hlt hC
      have hgo : badAt s.C i = false → ∀ j, j < i + 1 → badAt s.C j = false := fun hb j hj => by
        rcases Nat.lt_or_ge j i with h3 | h3
        · exact hP j h3
        · have : j = i := by omega
          subst this
          exact hb
      cases hz : decide (0 < (i : Int)) with
      | false =>
        have hb := badAt_zero hc hz
        cases hx : chanB c with
        | false =>
          simp only [go_sem, Int.cast_ofNat_Int, Int.reduceToNat, Bool.true_xor, Bool.false_xor, Bool.xor_true, Bool.xor_false, Nat.reduceAdd, Nat.reduceBEq, Nat.reduceLeDiff, Nat.reduceLT, Nat.reduceMul, Nat.reduceSub, Int.reduceEq, Int.reduceLT, Int.reduceLE, Int.reduceNeg, hlt, hc, s45, hx]
          rw [srB_bad (asc_bad hc (by rw [hb, hx]; rfl))]
        | true =>
          simp only [go_sem, Int.cast_ofNat_Int, Int.reduceToNat, Bool.true_xor, Bool.false_xor, Bool.xor_true, Bool.xor_false, Nat.reduceAdd, Nat.reduceBEq, Nat.reduceLeDiff, Nat.reduceLT, Nat.reduceMul, Nat.reduceSub, Int.reduceEq, Int.reduceLT, Int.reduceLE, Int.reduceNeg, hlt, hc, s45, hx, hw, hz]
          refine ⟨by first | trivial | omega, by first | trivial | rfl, ?_⟩
          exact hgo (by rw [hb, hx]; rfl)
      | true =>
        obtain ⟨k, hk⟩ : ∃ k, i = k + 1 := ⟨i - 1, by have := of_decide_eq_true hz; omega⟩
        have hkl : k < s.C.length := by omega
        obtain ⟨d, hd⟩ := getS hkl
        have hb := badAt_suc hc hk hd
        have hsub : w64 ((i : Int) - 1) = (k : Int) := by
          have : ((i : Int) - 1) = ((k : Nat) : Int) := by omega
          rw [this]; exact w64_id (by omega) (by simp only [maxLen] at hC; omega)
        cases hx : chanB c with
        | false =>
          simp only [go_sem, Int.cast_ofNat_Int, Int.reduceToNat, Bool.true_xor, Bool.false_xor, Bool.xor_true, Bool.xor_false, Nat.reduceAdd, Nat.reduceBEq, Nat.reduceLeDiff, Nat.reduceLT, Nat.reduceMul, Nat.reduceSub, Int.reduceEq, Int.reduceLT, Int.reduceLE, Int.reduceNeg, hlt, hc, s45, hx]
          rw [srB_bad (asc_bad hc (by rw [hb, hx]; rfl))]
        | true =>
          simp only [go_sem, Int.cast_ofNat_Int, Int.reduceToNat, Bool.true_xor, Bool.false_xor, Bool.xor_true, Bool.xor_false, Nat.reduceAdd, Nat.reduceBEq, Nat.reduceLeDiff, Nat.reduceLT, Nat.reduceMul, Nat.reduceSub, Int.reduceEq, Int.reduceLT, Int.reduceLE, Int.reduceNeg, hlt, hc, s45, hx, hw, hsub, hz, hd, hkl]
          cases hm : decide (c ≤ d) with
          | true =>
            simp only [go_sem, Int.cast_ofNat_Int, Int.reduceToNat, Bool.true_xor, Bool.false_xor, Bool.xor_true, Bool.xor_false, Nat.reduceAdd, Nat.reduceBEq, Nat.reduceLeDiff, Nat.reduceLT, Nat.reduceMul, Nat.reduceSub, Int.reduceEq, Int.reduceLT, Int.reduceLE, Int.reduceNeg]
            rw [srB_bad (asc_bad hc (by rw [hb, hm]; simp))]
          | false =>
            simp only [go_sem, Int.cast_ofNat_Int, Int.reduceToNat, Bool.true_xor, Bool.false_xor, Bool.xor_true, Bool.xor_false, Nat.reduceAdd, Nat.reduceBEq, Nat.reduceLeDiff, Nat.reduceLT, Nat.reduceMul, Nat.reduceSub, Int.reduceEq, Int.reduceLT, Int.reduceLE, Int.reduceNeg, hw]
            refine ⟨by first | trivial | omega, by first | trivial | rfl, ?_⟩
            exact hgo (by rw [hb, hx, hm]; rfl)
    · have hlt : ¬ i < s.C.length := by omega
      have hd := asc_good (C := s.C) (fun j hj => hP j (by omega))
      rw [srB_yes hpp hd]
      simp only [go_sem, Int.cast_ofNat_Int, Int.reduceToNat, Bool.true_xor, Bool.false_xor, Bool.xor_true, Bool.xor_false, Nat.reduceAdd, Nat.reduceBEq, Nat.reduceLeDiff, Nat.reduceLT, Nat.reduceMul, Nat.reduceSub, Int.reduceEq, Int.reduceLT, Int.reduceLE, Int.reduceNeg, hlt]
      repeat' (with_reducible refine fork_split (fun _ => ?_) (fun _ => ?_) <;> simp only [*, go_sem, Int.cast_ofNat_Int, Int.reduceToNat, Bool.true_xor, Bool.false_xor, Bool.xor_true, Bool.xor_false, Nat.reduceAdd, Nat.reduceBEq, Nat.reduceLeDiff, Nat.reduceLT, Nat.reduceMul, Nat.reduceSub, Int.reduceEq, Int.reduceLT, Int.reduceLE, Int.reduceNeg])
      all_goals (simp only [perB]; refine congrArg some (congrArg SV.bool ?_); rw [Bool.eq_iff_iff]; grind)
end Go.Sh
namespace Go.Sh
set_option linter.unusedSectionVars false
set_option linter.unnecessarySimpa false
set_option linter.unusedVariables false
set_option linter.unusedSimpArgs false
set_option maxRecDepth 100000
set_option maxHeartbeats 4000000
theorem s39 (n : Nat) (H : Heap) (s : Src) (hC : s.C.length ≤ maxLen) : call1 T (n + 2) (.fn 39) [.agg (srC s)] H = some (.bool (srB s), H) := by
  refine call_pure e39 (by rfl) ?_
  simp only [c39, heap0, go_sem, Int.cast_ofNat_Int, Int.reduceToNat, Bool.true_xor, Bool.false_xor, Bool.xor_true, Bool.xor_false, Nat.reduceAdd, Nat.reduceBEq, Nat.reduceLeDiff, Nat.reduceLT, Nat.reduceMul, Nat.reduceSub, Int.reduceEq, Int.reduceLT, Int.reduceLE, Int.reduceNeg]
  refine loop_rule (fun i => ([(1, .ptr 0 0 0 0), (3, .int .i64 i)], ⟨[.box (srC s)], [], 0⟩)) (fun i => ∀ (j : Nat), j < i → badAt s.C j = false) s.C.length ?_ (fun j h => by omega) ?_
  · simp only [go_sem, Int.cast_ofNat_Int, Int.reduceToNat, Bool.true_xor, Bool.false_xor, Bool.xor_true, Bool.xor_false, Nat.reduceAdd, Nat.reduceBEq, Nat.reduceLeDiff, Nat.reduceLT, Nat.reduceMul, Nat.reduceSub, Int.reduceEq, Int.reduceLT, Int.reduceLE, Int.reduceNeg] <;> rfl
  · intro i hi hP
    rcases Nat.lt_or_ge i s.C.length with hlt | hge
    · obtain ⟨c, hc⟩ := getS hlt
      have hw := w64_suc hlt hC
      have hgo : badAt s.C i = false → ∀ j, j < i + 1 → badAt s.C j = false := fun hb j hj => by
        rcases Nat.lt_or_ge j i with h3 | h3
        · exact hP j h3
        · have : j = i := by omega
          subst this
          exact hb
      cases hz : decide (0 < (i : Int)) with
      | false =>
        have hb := badAt_zero hc hz
        cases hx : chanB c with
        | false =>
          simp only [go_sem, Int.cast_ofNat_Int, Int.reduceToNat, Bool.true_xor, Bool.false_xor, Bool.xor_true, Bool.xor_false, Nat.reduceAdd, Nat.reduceBEq, Nat.reduceLeDiff, Nat.reduceLT, Nat.reduceMul, Nat.reduceSub, Int.reduceEq, Int.reduceLT, Int.reduceLE, Int.reduceNeg, hlt, hc, s50, hx]
          rw [srB_bad (asc_bad hc (by rw [hb, hx]; rfl))]
        | true =>
          simp only [go_sem, Int.cast_ofNat_Int, Int.reduceToNat, Bool.true_xor, Bool.false_xor, Bool.xor_true, Bool.xor_false, Nat.reduceAdd, Nat.reduceBEq, Nat.reduceLeDiff, Nat.reduceLT, Nat.reduceMul, Nat.reduceSub, Int.reduceEq, Int.reduceLT, Int.reduceLE, Int.reduceNeg, hlt, hc, s50, hx, hw, hz]
          refine ⟨by first | trivial | omega, by first | trivial | rfl, ?_⟩
          exact hgo (by rw [hb, hx]; rfl)
      | true =>
        obtain ⟨k, hk⟩ : ∃ k, i = k + 1 := ⟨i - 1, by have := of_decide_eq_true hz; omega⟩
        have hkl : k < s.C.length := by omega
        obtain ⟨d, hd⟩ := getS hkl
        have hb := badAt_suc hc hk hd
        have hsub : w64 ((i : Int) - 1) = (k : Int) := by
          have : ((i : Int) - 1) = ((k : Nat) : Int) := by omega
          rw [this]; exact w64_id (by omega) (by simp only [maxLen] at hC; omega)
        cases hx : chanB c with
        | false =>
          simp only [go_sem, Int.cast_ofNat_Int, Int.reduceToNat, Bool.true_xor, Bool.false_xor, Bool.xor_true, Bool.xor_false, Nat.reduceAdd, Nat.reduceBEq, Nat.reduceLeDiff, Nat.reduceLT, Nat.reduceMul, Nat.reduceSub, Int.reduceEq, Int.reduceLT, Int.reduceLE, Int.reduceNeg, hlt, hc, s50, hx]
          rw [srB_bad (asc_bad hc (by rw [hb, hx]; rfl))]
        | true =>
          simp only [go_sem, Int.cast_ofNat_Int, Int.reduceToNat, Bool.true_xor, Bool.false_xor, Bool.xor_true, Bool.xor_false, Nat.reduceAdd, Nat.reduceBEq, Nat.reduceLeDiff, Nat.reduceLT, Nat.reduceMul, Nat.reduceSub, Int.reduceEq, Int.reduceLT, Int.reduceLE, Int.reduceNeg, hlt, hc, s50, hx, hw, hsub, hz, hd, hkl]
          cases hm : decide (c ≤ d) with
          | true =>
            simp only [go_sem, Int.cast_ofNat_Int, Int.reduceToNat, Bool.true_xor, Bool.false_xor, Bool.xor_true, Bool.xor_false, Nat.reduceAdd, Nat.reduceBEq, Nat.reduceLeDiff, Nat.reduceLT, Nat.reduceMul, Nat.reduceSub, Int.reduceEq, Int.reduceLT, Int.reduceLE, Int.reduceNeg]
            rw [srB_bad (asc_bad hc (by rw [hb, hm]; simp))]
          | false =>
            simp only [go_sem, Int.cast_ofNat_Int, Int.reduceToNat, Bool.true_xor, Bool.false_xor, Bool.xor_true, Bool.xor_false, Nat.reduceAdd, Nat.reduceBEq, Nat.reduceLeDiff, Nat.reduceLT, Nat.reduceMul, Nat.reduceSub, Int.reduceEq, Int.reduceLT, Int.reduceLE, Int.reduceNeg, hw]
            refine ⟨by first | trivial | omega, by first | trivial | rfl, ?_⟩
            exact hgo (by rw [hb, hx, hm]; rfl)
    · have hlt : ¬ i < s.C.length := by omega
      have hd := asc_good (C := s.C) (fun j hj => hP j (by omega))
      simp only [go_sem, Int.cast_ofNat_Int, Int.reduceToNat, Bool.true_xor, Bool.false_xor, Bool.xor_true, Bool.xor_false, Nat.reduceAdd, Nat.reduceBEq, Nat.reduceLeDiff, Nat.reduceLT, Nat.reduceMul, Nat.reduceSub, Int.reduceEq, Int.reduceLT, Int.reduceLE, Int.reduceNeg, hlt, s66, s67]
      cases hpp : (pointI s.a s.b && powI s.p) with
      | true =>
        rw [srB_yes hpp hd]
        rw [Bool.and_eq_true] at hpp
        simp only [go_sem, Int.cast_ofNat_Int, Int.reduceToNat, Bool.true_xor, Bool.false_xor, Bool.xor_true, Bool.xor_false, Nat.reduceAdd, Nat.reduceBEq, Nat.reduceLeDiff, Nat.reduceLT, Nat.reduceMul, Nat.reduceSub, Int.reduceEq, Int.reduceLT, Int.reduceLE, Int.reduceNeg, s66, s67, hpp.1, hpp.2]
        repeat' (with_reducible refine fork_split (fun _ => ?_) (fun _ => ?_) <;> simp only [*, go_sem, Int.cast_ofNat_Int, Int.reduceToNat, Bool.true_xor, Bool.false_xor, Bool.xor_true, Bool.xor_false, Nat.reduceAdd, Nat.reduceBEq, Nat.reduceLeDiff, Nat.reduceLT, Nat.reduceMul, Nat.reduceSub, Int.reduceEq, Int.reduceLT, Int.reduceLE, Int.reduceNeg, s66, s67])
        all_goals (simp only [perB]; refine congrArg some (congrArg SV.bool ?_); rw [Bool.eq_iff_iff]; grind)
      | false =>
        rw [srB_no hpp]
        repeat' (with_reducible refine fork_split (fun _ => ?_) (fun _ => ?_) <;> simp only [*, go_sem, Int.cast_ofNat_Int, Int.reduceToNat, Bool.true_xor, Bool.false_xor, Bool.xor_true, Bool.xor_false, Nat.reduceAdd, Nat.reduceBEq, Nat.reduceLeDiff, Nat.reduceLT, Nat.reduceMul, Nat.reduceSub, Int.reduceEq, Int.reduceLT, Int.reduceLE, Int.reduceNeg, s66, s67])
        all_goals (rw [Bool.and_eq_false_iff] at hpp; grind)
theorem s34 (n : Nat) (H : Heap) (s : Src) (hC : s.C.length ≤ maxLen) : call1 T (n + 3) (.fn 34) [.agg (srC s)] H = some (.bool (!srB s), H) := by
  have h := fun H => s35 n H s hC
  refine call_pure e34 (by rfl) ?_
  simp only [c34, heap0, go_sem, Int.cast_ofNat_Int, Int.reduceToNat, Bool.true_xor, Bool.false_xor, Bool.xor_true, Bool.xor_false, Nat.reduceAdd, Nat.reduceBEq, Nat.reduceLeDiff, Nat.reduceLT, Nat.reduceMul, Nat.reduceSub, Int.reduceEq, Int.reduceLT, Int.reduceLE, Int.reduceNeg, h]
def onB (s : Src) (x y : Int) : Bool :=
  if x = y ∨ s.fr = s.to then false else
  (decide (x % s.per < s.to) && decide (s.fr < x % s.per + y - x)) || decide (s.fr + s.per < x % s.per + y - x)
theorem s42 (n : Nat) (H : Heap) (s : Src) (x y : Int) (hs : perB s.per s.fr s.to = true) (hi : ivB x y = true) : call1 T (n + 1) (.fn 42) [.agg (srC s), .int .i64 x, .int .i64 y] H = some (.bool (onB s x y), H) := by
  refine call_pure e42 (by rfl) ?_
  simp only [perB, ivB, Bool.and_eq_true, decide_eq_true_eq] at hs hi
  have hne : s.per ≠ 0 := by omega
  have hx0 : 0 ≤ x := by omega
  have hm1 := Int.emod_nonneg x hne
  have hm2 := Int.emod_lt_of_pos x (show 0 < s.per by omega)
  have ht0 : x.tmod s.per = x % s.per := Int.tmod_eq_emod_of_nonneg hx0
  have ht : w64 (x % s.per) = x % s.per := w64_id (by omega) (by omega)
  have h1 : w64 (x % s.per + y) = x % s.per + y := w64_id (by omega) (by omega)
  have h2 : w64 (x % s.per + y - x) = x % s.per + y - x := w64_id (by omega) (by omega)
  have h3 : w64 (s.fr + s.per) = s.fr + s.per := w64_id (by omega) (by omega)
  simp only [c42, heap0, go_sem, Int.cast_ofNat_Int, Int.reduceToNat, Bool.true_xor, Bool.false_xor, Bool.xor_true, Bool.xor_false, Nat.reduceAdd, Nat.reduceBEq, Nat.reduceLeDiff, Nat.reduceLT, Nat.reduceMul, Nat.reduceSub, Int.reduceEq, Int.reduceLT, Int.reduceLE, Int.reduceNeg, hne, ht0, ht, h1, h2, h3]
  repeat' (with_reducible refine fork_split (fun _ => ?_) (fun _ => ?_) <;> simp only [*, go_sem, Int.cast_ofNat_Int, Int.reduceToNat, Bool.true_xor, Bool.false_xor, Bool.xor_true, Bool.xor_false, Nat.reduceAdd, Nat.reduceBEq, Nat.reduceLeDiff, Nat.reduceLT, Nat.reduceMul, Nat.reduceSub, Int.reduceEq, Int.reduceLT, Int.reduceLE, Int.reduceNeg, hne, ht0, ht, h1, h2, h3])
  all_goals (simp only [onB]; refine congrArg some (congrArg SV.bool ?_); rw [Bool.eq_iff_iff]; clear ht0; generalize x % s.per = r at *; grind)
end Go.Sh
namespace Go.Sh
set_option linter.unusedSectionVars false
set_option linter.unnecessarySimpa false
set_option linter.unusedVariables false
set_option linter.unusedSimpArgs false
set_option maxRecDepth 100000
set_option maxHeartbeats 4000000
def onS (s : Src) (x y : Int) : Bool := srB s && ivB x y && onB s x y
theorem srB_per {s : Src} (h : srB s = true) : perB s.per s.fr s.to = true := by
  simp only [srB, Bool.and_eq_true] at h; exact h.2
theorem s14 (n : Nat) (H : Heap) (s : Src) (x y : Int) (hC : s.C.length ≤ maxLen) : call1 T (n + 3) (.fn 14) [.agg (srC s), .int .i64 x, .int .i64 y] H = some (.bool (onS s x y), H) := by
  refine call_pure e14 (by rfl) ?_
  have h35 := fun H => s35 n H s hC
  simp only [c14, heap0, go_sem, Int.cast_ofNat_Int, Int.reduceToNat, Bool.true_xor, Bool.false_xor, Bool.xor_true, Bool.xor_false, Nat.reduceAdd, Nat.reduceBEq, Nat.reduceLeDiff, Nat.reduceLT, Nat.reduceMul, Nat.reduceSub, Int.reduceEq, Int.reduceLT, Int.reduceLE, Int.reduceNeg, h35]
  cases h1 : srB s with
  | false => simp only [go_sem, Int.cast_ofNat_Int, Int.reduceToNat, Bool.true_xor, Bool.false_xor, Bool.xor_true, Bool.xor_false, Nat.reduceAdd, Nat.reduceBEq, Nat.reduceLeDiff, Nat.reduceLT, Nat.reduceMul, Nat.reduceSub, Int.reduceEq, Int.reduceLT, Int.reduceLE, Int.reduceNeg, onS, h1]
  | true =>
    simp only [go_sem, Int.cast_ofNat_Int, Int.reduceToNat, Bool.true_xor, Bool.false_xor, Bool.xor_true, Bool.xor_false, Nat.reduceAdd, Nat.reduceBEq, Nat.reduceLeDiff, Nat.reduceLT, Nat.reduceMul, Nat.reduceSub, Int.reduceEq, Int.reduceLT, Int.reduceLE, Int.reduceNeg, s41]
    cases h2 : ivB x y with
    | false => simp only [go_sem, Int.cast_ofNat_Int, Int.reduceToNat, Bool.true_xor, Bool.false_xor, Bool.xor_true, Bool.xor_false, Nat.reduceAdd, Nat.reduceBEq, Nat.reduceLeDiff, Nat.reduceLT, Nat.reduceMul, Nat.reduceSub, Int.reduceEq, Int.reduceLT, Int.reduceLE, Int.reduceNeg, onS, h1, h2]
    | true =>
      have h42 := fun H => s42 (n + 1) H s x y (srB_per h1) h2
      simp only [go_sem, Int.cast_ofNat_Int, Int.reduceToNat, Bool.true_xor, Bool.false_xor, Bool.xor_true, Bool.xor_false, Nat.reduceAdd, Nat.reduceBEq, Nat.reduceLeDiff, Nat.reduceLT, Nat.reduceMul, Nat.reduceSub, Int.reduceEq, Int.reduceLT, Int.reduceLE, Int.reduceNeg, h42, onS, h1, h2]
theorem s15 (n : Nat) (H : Heap) (s : Src) (x y : Int) (hC : s.C.length ≤ maxLen) : call1 T (n + 3) (.fn 15) [.agg (srC s), .int .i64 x, .int .i64 y] H = some (.bool (onS s x y), H) := by
  refine call_pure e15 (by rfl) ?_
  have h39 := fun H => s39 n H s hC
  simp only [c15, heap0, go_sem, Int.cast_ofNat_Int, Int.reduceToNat, Bool.true_xor, Bool.false_xor, Bool.xor_true, Bool.xor_false, Nat.reduceAdd, Nat.reduceBEq, Nat.reduceLeDiff, Nat.reduceLT, Nat.reduceMul, Nat.reduceSub, Int.reduceEq, Int.reduceLT, Int.reduceLE, Int.reduceNeg, h39]
  cases h1 : srB s with
  | false => simp only [go_sem, Int.cast_ofNat_Int, Int.reduceToNat, Bool.true_xor, Bool.false_xor, Bool.xor_true, Bool.xor_false, Nat.reduceAdd, Nat.reduceBEq, Nat.reduceLeDiff, Nat.reduceLT, Nat.reduceMul, Nat.reduceSub, Int.reduceEq, Int.reduceLT, Int.reduceLE, Int.reduceNeg, onS, h1]
  | true =>
    simp only [go_sem, Int.cast_ofNat_Int, Int.reduceToNat, Bool.true_xor, Bool.false_xor, Bool.xor_true, Bool.xor_false, Nat.reduceAdd, Nat.reduceBEq, Nat.reduceLeDiff, Nat.reduceLT, Nat.reduceMul, Nat.reduceSub, Int.reduceEq, Int.reduceLT, Int.reduceLE, Int.reduceNeg, s43]
    cases h2 : ivB x y with
    | false => simp only [go_sem, Int.cast_ofNat_Int, Int.reduceToNat, Bool.true_xor, Bool.false_xor, Bool.xor_true, Bool.xor_false, Nat.reduceAdd, Nat.reduceBEq, Nat.reduceLeDiff, Nat.reduceLT, Nat.reduceMul, Nat.reduceSub, Int.reduceEq, Int.reduceLT, Int.reduceLE, Int.reduceNeg, onS, h1, h2]
    | true =>
      have hs := srB_per h1
      have hi := h2
      simp only [perB, ivB, Bool.and_eq_true, decide_eq_true_eq] at hs hi
      have hne : s.per ≠ 0 := by omega
      have hx0 : 0 ≤ x := by omega
      have hm1 := Int.emod_nonneg x hne
      have hm2 := Int.emod_lt_of_pos x (show 0 < s.per by omega)
      have ht0 : x.tmod s.per = x % s.per := Int.tmod_eq_emod_of_nonneg hx0
      have ht : w64 (x % s.per) = x % s.per := w64_id (by omega) (by omega)
      have a1 : w64 (x + s.fr) = x + s.fr := w64_id (by omega) (by omega)
      have a2 : w64 (x + s.fr - x % s.per) = x + s.fr - x % s.per := w64_id (by omega) (by omega)
      have a3 : w64 (x + s.per) = x + s.per := w64_id (by omega) (by omega)
      have a4 : w64 (x + s.per - x % s.per) = x + s.per - x % s.per := w64_id (by omega) (by omega)
      have a5 : w64 (x + s.per - x % s.per + s.fr) = x + s.per - x % s.per + s.fr := w64_id (by omega) (by omega)
      simp only [onS, h1, h2, Bool.true_and, go_sem, Int.cast_ofNat_Int, Int.reduceToNat, Bool.true_xor, Bool.false_xor, Bool.xor_true, Bool.xor_false, Nat.reduceAdd, Nat.reduceBEq, Nat.reduceLeDiff, Nat.reduceLT, Nat.reduceMul, Nat.reduceSub, Int.reduceEq, Int.reduceLT, Int.reduceLE, Int.reduceNeg, hne, ht0, ht, a1, a2, a3, a4, a5]
      repeat' (with_reducible refine fork_split (fun _ => ?_) (fun _ => ?_) <;> simp only [*, go_sem, Int.cast_ofNat_Int, Int.reduceToNat, Bool.true_xor, Bool.false_xor, Bool.xor_true, Bool.xor_false, Nat.reduceAdd, Nat.reduceBEq, Nat.reduceLeDiff, Nat.reduceLT, Nat.reduceMul, Nat.reduceSub, Int.reduceEq, Int.reduceLT, Int.reduceLE, Int.reduceNeg, hne, ht0, ht, a1, a2, a3, a4, a5])
      all_goals (simp only [onB]; refine congrArg some (congrArg SV.bool ?_); rw [Bool.eq_iff_iff]; clear ht0; generalize x % s.per = r at *; grind)
def duty (s : Src) : Int := if srB s then ((s.to - s.fr) * 1000) / s.per else 0
theorem duty_aux {s : Src} (h : srB s = true) : w64 (s.to - s.fr) = s.to - s.fr ∧ w64 ((s.to - s.fr) * 1000) = (s.to - s.fr) * 1000 ∧ ((s.to - s.fr) * 1000).tdiv s.per = duty s ∧ w64 (duty s) = duty s ∧ s.per ≠ 0 ∧ 0 ≤ s.to - s.fr := by
  have hs := srB_per h
  simp only [perB, Bool.and_eq_true, decide_eq_true_eq] at hs
  have hd : duty s = (s.to - s.fr) * 1000 / s.per := by simp only [duty, h, if_true]
  have h0 : 0 ≤ (s.to - s.fr) * 1000 := by omega
  have h1 : 0 ≤ (s.to - s.fr) * 1000 / s.per := Int.ediv_nonneg h0 (by omega)
  have h2 : (s.to - s.fr) * 1000 / s.per ≤ (s.to - s.fr) * 1000 := Int.ediv_le_self _ h0
  refine ⟨w64_id (by omega) (by omega), w64_id (by omega) (by omega), ?_, ?_, by omega, by omega⟩
  · rw [hd, Int.tdiv_eq_ediv_of_nonneg h0]
  · rw [hd]; exact w64_id (by omega) (by omega)
theorem s16 (n : Nat) (H : Heap) (s : Src) (hC : s.C.length ≤ maxLen) : call1 T (n + 3) (.fn 16) [.agg (srC s)] H = some (.int .i64 (duty s), H) := by
  refine call_pure e16 (by rfl) ?_
  have h35 := fun H => s35 n H s hC
  simp only [c16, heap0, go_sem, Int.cast_ofNat_Int, Int.reduceToNat, Bool.true_xor, Bool.false_xor, Bool.xor_true, Bool.xor_false, Nat.reduceAdd, Nat.reduceBEq, Nat.reduceLeDiff, Nat.reduceLT, Nat.reduceMul, Nat.reduceSub, Int.reduceEq, Int.reduceLT, Int.reduceLE, Int.reduceNeg, h35]
  cases h1 : srB s with
  | false => simp only [go_sem, Int.cast_ofNat_Int, Int.reduceToNat, Bool.true_xor, Bool.false_xor, Bool.xor_true, Bool.xor_false, Nat.reduceAdd, Nat.reduceBEq, Nat.reduceLeDiff, Nat.reduceLT, Nat.reduceMul, Nat.reduceSub, Int.reduceEq, Int.reduceLT, Int.reduceLE, Int.reduceNeg, duty, h1, Bool.false_eq_true, if_false]
  | true =>
    obtain ⟨a1, a2, a3, a4, a5, a6⟩ := duty_aux h1
    simp only [go_sem, Int.cast_ofNat_Int, Int.reduceToNat, Bool.true_xor, Bool.false_xor, Bool.xor_true, Bool.xor_false, Nat.reduceAdd, Nat.reduceBEq, Nat.reduceLeDiff, Nat.reduceLT, Nat.reduceMul, Nat.reduceSub, Int.reduceEq, Int.reduceLT, Int.reduceLE, Int.reduceNeg, a1, a2, a3, a4, a5]
theorem s17 (n : Nat) (H : Heap) (s : Src) (hC : s.C.length ≤ maxLen) : call1 T (n + 3) (.fn 17) [.agg (srC s)] H = some (.int .i64 (duty s), H) := by
  refine call_pure e17 (by rfl) ?_
  have h39 := fun H => s39 n H s hC
  simp only [c17, heap0, go_sem, Int.cast_ofNat_Int, Int.reduceToNat, Bool.true_xor, Bool.false_xor, Bool.xor_true, Bool.xor_false, Nat.reduceAdd, Nat.reduceBEq, Nat.reduceLeDiff, Nat.reduceLT, Nat.reduceMul, Nat.reduceSub, Int.reduceEq, Int.reduceLT, Int.reduceLE, Int.reduceNeg, h39]
  cases h1 : srB s with
  | false => simp only [go_sem, Int.cast_ofNat_Int, Int.reduceToNat, Bool.true_xor, Bool.false_xor, Bool.xor_true, Bool.xor_false, Nat.reduceAdd, Nat.reduceBEq, Nat.reduceLeDiff, Nat.reduceLT, Nat.reduceMul, Nat.reduceSub, Int.reduceEq, Int.reduceLT, Int.reduceLE, Int.reduceNeg, duty, h1, Bool.false_eq_true, if_false]
  | true =>
    obtain ⟨a1, a2, a3, a4, a5, a6⟩ := duty_aux h1
    rw [Int.mul_comm] at a2 a3
    simp only [go_sem, Int.cast_ofNat_Int, Int.reduceToNat, Bool.true_xor, Bool.false_xor, Bool.xor_true, Bool.xor_false, Nat.reduceAdd, Nat.reduceBEq, Nat.reduceLeDiff, Nat.reduceLT, Nat.reduceMul, Nat.reduceSub, Int.reduceEq, Int.reduceLT, Int.reduceLE, Int.reduceNeg, a1, a2, a3, a4, a5]
end Go.Sh
namespace Go.Sh
set_option linter.unusedSectionVars false
set_option linter.unnecessarySimpa false
set_option linter.unusedVariables false
set_option linter.unusedSimpArgs false
set_option maxRecDepth 100000
set_option maxHeartbeats 4000000
def srsS (L : List Src) : List (List SV) := L.map srC
def fdsS (L : List Fd) : List (List SV) := L.map fdC
@[go_sem] theorem srsS_len {L : List Src} : (srsS L).length = L.length := by simp [srsS]
@[go_sem] theorem fdsS_len {L : List Fd} : (fdsS L).length = L.length := by simp [fdsS]
@[go_sem] theorem srsS_get {L : List Src} {i : Nat} : (srsS L)[i]? = (L[i]?).map srC := by simp [srsS]
@[go_sem] theorem fdsS_get {L : List Fd} {i : Nat} : (fdsS L)[i]? = (L[i]?).map fdC := by simp [fdsS]
theorem srs_row {L : List Src} : ∀ r ∈ srsS L, r.length = 7 := by
  intro r hr
  simp only [srsS, List.mem_map] at hr
  obtain ⟨h, _, rfl⟩ := hr
  rfl
theorem fds_row {L : List Fd} : ∀ r ∈ fdsS L, r.length = 6 := by
  intro r hr
  simp only [fdsS, List.mem_map] at hr
  obtain ⟨h, _, rfl⟩ := hr
  rfl
def toSr (r : List SV) : Src := match r with
  | [.int _ a, .int _ b, .int _ p, .lst _ L f, .int _ per, .int _ fr, .int _ to] => ⟨a, b, p, L.map (fun c => match c with | [.int _ x] => x | _ => 0), f, per, fr, to⟩
  | _ => ⟨0, 0, 0, [], true, 0, 0, 0⟩
theorem toSr_of (s : Src) : toSr (srC s) = s := by
  obtain ⟨a, b, p, C, f, per, fr, to⟩ := s
  simp [toSr, iS, Function.comp_def]
def toFd (r : List SV) : Fd := match r with
  | [.int _ a, .int _ b, .int _ c, .int _ x, .int _ y, .int _ f] => ⟨a, b, c, x, y, f⟩
  | _ => ⟨0, 0, 0, 0, 0, 0⟩
theorem toFd_of (w : Fd) : toFd (fdC w) = w := rfl
theorem any_sr (p : Src → Bool) (L : List Src) : (srsS L).any (fun r => p (toSr r)) = L.any p := by
  simp only [srsS, List.any_map]
  congr 1
  funext h
  exact congrArg p (toSr_of h)
theorem any_fd (p : Fd → Bool) (L : List Fd) : (fdsS L).any (fun r => p (toFd r)) = L.any p := by
  simp only [fdsS, List.any_map]
  rfl
abbrev sp (S : List Src) (f1 : Bool) (F : List Fd) (f2 : Bool) : SV := .agg [.lst 7 (srsS S) f1, .lst 6 (fdsS F) f2]
def okS (S : List Src) : Prop := S.length ≤ maxLen ∧ ∀ s ∈ S, s.C.length ≤ maxLen
def ckB (S : List Src) (F : List Fd) : Bool := decide (S.length ≤ 16) && decide (F.length ≤ 64) && !S.any (fun s => !srB s) && !F.any (fun w => !fdB w)
def ck (S : List Src) (F : List Fd) : Int := bif ckB S F then 0 else 1
theorem s12z (n : Nat) (H : Heap) (S F f1 f2) (z2 : Nat) (hz : z2 = 6 ∨ F = []) (hS : okS S) (hF : F.length ≤ maxLen) : call1 T (n + 7) (.fn 12) [.agg [.lst 7 (srsS S) f1, .lst z2 (fdsS F) f2]] H = some (.int .i64 (ck S F), H) := by
  refine call_pure e12 (by rfl) ?_
  have h33 := fun H => stdCF_ok (T := T) (f := 33) (n := n + 4) (H := H) (ag := true) (z := 7) (id := 34) (caps := []) (v := .lst 7 (srsS S) f1) (L := srsS S) (p := fun r => !srB (toSr r)) x33 x63 (.lst 7 f1 (.inl rfl)) srs_row (fun h => by cases h) (by simpa [srsS] using hS.1)
    (fun r hr bl ro _ => by
      simp only [srsS, List.mem_map] at hr
      obtain ⟨h, hh, rfl⟩ := hr
      simp only [toSr_of]
      exact s34 (n + 1) ⟨bl, [], ro⟩ h (hS.2 h hh)) (by simp [SV.refs.refsL])
  rw [any_sr (fun s => !srB s)] at h33
  have h36 := fun H => stdCF_ok (T := T) (f := 36) (n := n + 4) (H := H) (ag := true) (z := 6) (id := 37) (caps := []) (v := .lst z2 (fdsS F) f2) (L := fdsS F) (p := fun r => !fdB (toFd r)) x36 x64 (.lst z2 f2 (hz.imp id (by rintro rfl; rfl))) fds_row (fun h => by cases h) (by simpa [fdsS] using hF)
    (fun r hr bl ro _ => by
      simp only [fdsS, List.mem_map] at hr
      obtain ⟨h, hh, rfl⟩ := hr
      simp only [toFd_of]
      exact s37 n ⟨bl, [], ro⟩ h) (by simp [SV.refs.refsL])
  rw [any_fd (fun s => !fdB s)] at h36
  simp only [c12, heap0, go_sem, Int.cast_ofNat_Int, Int.reduceToNat, Bool.true_xor, Bool.false_xor, Bool.xor_true, Bool.xor_false, Nat.reduceAdd, Nat.reduceBEq, Nat.reduceLeDiff, Nat.reduceLT, Nat.reduceMul, Nat.reduceSub, Int.reduceEq, Int.reduceLT, Int.reduceLE, Int.reduceNeg]
  repeat' (with_reducible refine fork_split (fun _ => ?_) (fun _ => ?_) <;> simp only [*, go_sem, Int.cast_ofNat_Int, Int.reduceToNat, Bool.true_xor, Bool.false_xor, Bool.xor_true, Bool.xor_false, Nat.reduceAdd, Nat.reduceBEq, Nat.reduceLeDiff, Nat.reduceLT, Nat.reduceMul, Nat.reduceSub, Int.reduceEq, Int.reduceLT, Int.reduceLE, Int.reduceNeg, h33, h36])
  all_goals
    clear h33 h36
    refine congrArg some (congrArg (SV.int .i64) ?_)
    simp only [ck, ckB]
    generalize (S.any fun s => !srB s) = A at *
    generalize (F.any fun s => !fdB s) = B at *
    generalize S.length = ls at *
    generalize F.length = lf at *
    cases A <;> cases B <;> simp only [Bool.not_true, Bool.not_false, Bool.and_true, Bool.and_false, cond_false, Bool.cond_eq_ite, Bool.and_eq_true, decide_eq_true_eq] <;> grind
theorem s12 (n : Nat) (H : Heap) (S F f1 f2) (hS : okS S) (hF : F.length ≤ maxLen) : call1 T (n + 7) (.fn 12) [sp S f1 F f2] H = some (.int .i64 (ck S F), H) := s12z n H S F f1 f2 6 (.inl rfl) hS hF
theorem ck_s {S : List Src} {F : List Fd} {i : Nat} {s : Src} (h : S[i]? = some s) (hb : srB s = false) : ck S F = 1 := by
  have : S.any (fun s => !srB s) = true := List.any_eq_true.2 ⟨s, List.mem_of_getElem? h, by simp [hb]⟩
  simp only [ck, ckB, this, Bool.not_true, Bool.and_false, Bool.false_and, cond_false]
theorem ck_f {S : List Src} {F : List Fd} {i : Nat} {s : Fd} (h : F[i]? = some s) (hb : fdB s = false) : ck S F = 1 := by
  have : F.any (fun s => !fdB s) = true := List.any_eq_true.2 ⟨s, List.mem_of_getElem? h, by simp [hb]⟩
  simp only [ck, ckB, this, Bool.not_true, Bool.and_false, Bool.false_and, cond_false]
theorem ck_ok {S : List Src} {F : List Fd} (h1 : S.length ≤ 16) (h2 : F.length ≤ 64) (hS : ∀ (j : Nat) s, S[j]? = some s → srB s = true) (hF : ∀ (j : Nat) s, F[j]? = some s → fdB s = true) : ck S F = 0 := by
  have a : S.any (fun s => !srB s) = false := by
    rw [List.any_eq_false]; intro s hs
    obtain ⟨j, hj⟩ := List.mem_iff_getElem?.1 hs
    simp [hS j s hj]
  have b : F.any (fun s => !fdB s) = false := by
    rw [List.any_eq_false]; intro s hs
    obtain ⟨j, hj⟩ := List.mem_iff_getElem?.1 hs
    simp [hF j s hj]
  simp only [ck, ckB, a, b, h1, h2, decide_true, Bool.not_false, Bool.and_true, cond_true]
theorem s13 (n : Nat) (H : Heap) (S F f1 f2) (hS : okS S) (hF : F.length ≤ maxLen) : call1 T (n + 3) (.fn 13) [sp S f1 F f2] H = some (.int .i64 (ck S F), H) := by
  refine call_pure e13 (by rfl) ?_
  simp only [c13, heap0, go_sem, Int.cast_ofNat_Int, Int.reduceToNat, Bool.true_xor, Bool.false_xor, Bool.xor_true, Bool.xor_false, Nat.reduceAdd, Nat.reduceBEq, Nat.reduceLeDiff, Nat.reduceLT, Nat.reduceMul, Nat.reduceSub, Int.reduceEq, Int.reduceLT, Int.reduceLE, Int.reduceNeg]
  repeat' (with_reducible refine fork_split (fun _ => ?_) (fun _ => ?_) <;> simp only [*, go_sem, Int.cast_ofNat_Int, Int.reduceToNat, Bool.true_xor, Bool.false_xor, Bool.xor_true, Bool.xor_false, Nat.reduceAdd, Nat.reduceBEq, Nat.reduceLeDiff, Nat.reduceLT, Nat.reduceMul, Nat.reduceSub, Int.reduceEq, Int.reduceLT, Int.reduceLE, Int.reduceNeg])
  all_goals try (
    with_reducible refine congrArg some (congrArg (SV.int .i64) ?_)
    simp only [ck, ckB, Bool.cond_eq_ite, Bool.and_eq_true, decide_eq_true_eq]
    simp only [decide_eq_true_eq] at *
    rw [if_neg (by omega)]
    done)
  have hl1 : S.length ≤ 16 := by simp only [decide_eq_false_iff_not] at *; omega
  have hl2 : F.length ≤ 64 := by simp only [decide_eq_false_iff_not] at *; omega
  refine loop_rule (fun i => ([(1, .ptr 0 0 0 0), (3, .int .i64 i)], ⟨[.box [.lst 7 (srsS S) f1, .lst 6 (fdsS F) f2]], [], 0⟩)) (fun i => ∀ (j : Nat) s, j < i → S[j]? = some s → srB s = true) S.length ?_ (fun j s h => by omega) ?_
  · simp only [go_sem, Int.cast_ofNat_Int, Int.reduceToNat, Bool.true_xor, Bool.false_xor, Bool.xor_true, Bool.xor_false, Nat.reduceAdd, Nat.reduceBEq, Nat.reduceLeDiff, Nat.reduceLT, Nat.reduceMul, Nat.reduceSub, Int.reduceEq, Int.reduceLT, Int.reduceLE, Int.reduceNeg] <;> rfl
  · intro i hi hP
    rcases Nat.lt_or_ge i S.length with hlt | hge
    · obtain ⟨s, hs⟩ := getS hlt
      have hw := w64_suc hlt hS.1
      have h39 := fun H => s39 n H s (hS.2 s (List.mem_of_getElem? hs))
      cases hb : srB s with
      | false => simp only [go_sem, Int.cast_ofNat_Int, Int.reduceToNat, Bool.true_xor, Bool.false_xor, Bool.xor_true, Bool.xor_false, Nat.reduceAdd, Nat.reduceBEq, Nat.reduceLeDiff, Nat.reduceLT, Nat.reduceMul, Nat.reduceSub, Int.reduceEq, Int.reduceLT, Int.reduceLE, Int.reduceNeg, hlt, hs, h39, hb, ck_s hs hb]
      | true =>
        simp only [go_sem, Int.cast_ofNat_Int, Int.reduceToNat, Bool.true_xor, Bool.false_xor, Bool.xor_true, Bool.xor_false, Nat.reduceAdd, Nat.reduceBEq, Nat.reduceLeDiff, Nat.reduceLT, Nat.reduceMul, Nat.reduceSub, Int.reduceEq, Int.reduceLT, Int.reduceLE, Int.reduceNeg, hlt, hs, h39, hb, hw]
        refine ⟨by first | trivial | omega, by first | trivial | rfl, ?_⟩
        intro j s' hj hs'
        rcases Nat.lt_or_ge j i with h3 | h3
        · exact hP j s' h3 hs'
        · have : j = i := by omega
          subst this
          rw [hs] at hs'; cases hs'
          exact hb
    · have hlt : ¬ i < S.length := by omega
      simp only [go_sem, Int.cast_ofNat_Int, Int.reduceToNat, Bool.true_xor, Bool.false_xor, Bool.xor_true, Bool.xor_false, Nat.reduceAdd, Nat.reduceBEq, Nat.reduceLeDiff, Nat.reduceLT, Nat.reduceMul, Nat.reduceSub, Int.reduceEq, Int.reduceLT, Int.reduceLE, Int.reduceNeg, hlt]
      refine loop_rule (fun i => ([(1, .ptr 0 0 0 0), (4, .int .i64 i)], ⟨[.box [.lst 7 (srsS S) f1, .lst 6 (fdsS F) f2]], [], 0⟩)) (fun i => ∀ (j : Nat) s, j < i → F[j]? = some s → fdB s = true) F.length ?_ (fun j s h => by omega) ?_
      · simp only [go_sem, Int.cast_ofNat_Int, Int.reduceToNat, Bool.true_xor, Bool.false_xor, Bool.xor_true, Bool.xor_false, Nat.reduceAdd, Nat.reduceBEq, Nat.reduceLeDiff, Nat.reduceLT, Nat.reduceMul, Nat.reduceSub, Int.reduceEq, Int.reduceLT, Int.reduceLE, Int.reduceNeg] <;> rfl
      · intro k hk hK
        rcases Nat.lt_or_ge k F.length with hlt3 | hge3
        · obtain ⟨s, hs⟩ := getS hlt3
          have hw := w64_suc hlt3 hF
          have h40 := fun H => s40 n H s
          cases hb : fdB s with
          | false => simp only [go_sem, Int.cast_ofNat_Int, Int.reduceToNat, Bool.true_xor, Bool.false_xor, Bool.xor_true, Bool.xor_false, Nat.reduceAdd, Nat.reduceBEq, Nat.reduceLeDiff, Nat.reduceLT, Nat.reduceMul, Nat.reduceSub, Int.reduceEq, Int.reduceLT, Int.reduceLE, Int.reduceNeg, hlt3, hs, h40, hb, ck_f hs hb]
          | true =>
            simp only [go_sem, Int.cast_ofNat_Int, Int.reduceToNat, Bool.true_xor, Bool.false_xor, Bool.xor_true, Bool.xor_false, Nat.reduceAdd, Nat.reduceBEq, Nat.reduceLeDiff, Nat.reduceLT, Nat.reduceMul, Nat.reduceSub, Int.reduceEq, Int.reduceLT, Int.reduceLE, Int.reduceNeg, hlt3, hs, h40, hb, hw]
            refine ⟨by first | trivial | omega, by first | trivial | rfl, ?_⟩
            intro j s' hj hs'
            rcases Nat.lt_or_ge j k with h3 | h3
            · exact hK j s' h3 hs'
            · have : j = k := by omega
              subst this
              rw [hs] at hs'; cases hs'
              exact hb
        · have hlt3 : ¬ k < F.length := by omega
          have hck := ck_ok hl1 hl2 (fun j s hj => hP j s (by have := (List.getElem?_eq_some_iff.1 hj).1; omega) hj) (fun j s hj => hK j s (by have := (List.getElem?_eq_some_iff.1 hj).1; omega) hj)
          simp only [go_sem, Int.cast_ofNat_Int, Int.reduceToNat, Bool.true_xor, Bool.false_xor, Bool.xor_true, Bool.xor_false, Nat.reduceAdd, Nat.reduceBEq, Nat.reduceLeDiff, Nat.reduceLT, Nat.reduceMul, Nat.reduceSub, Int.reduceEq, Int.reduceLT, Int.reduceLE, Int.reduceNeg, hlt3, hck]
end Go.Sh
namespace Go.Sh
set_option linter.unusedSectionVars false
set_option linter.unnecessarySimpa false
set_option linter.unusedVariables false
set_option linter.unusedSimpArgs false
set_option maxRecDepth 100000
set_option maxHeartbeats 4000000
theorem s10 (H : Heap) : call1 T 40 (.fn 10) [] H = some (.bool true, H) := pure_any e10 (by rfl) (callB_up (T := T) 100 40 (.fn 10) [] heap0 (.bool true, heap0) (by kernel_rfl))
def fewB (S : List Src) (F : List Fd) : Bool := decide (S.length ≤ 20) && decide (F.length ≤ 70) && !S.any (fun s => decide (20 < s.C.length))
theorem few_no {S : List Src} {F : List Fd} {i : Nat} {s : Src} (h : S[i]? = some s) (hb : 20 < s.C.length) : fewB S F = false := by
  have : S.any (fun s => decide (20 < s.C.length)) = true := List.any_eq_true.2 ⟨s, List.mem_of_getElem? h, by simp [hb]⟩
  simp only [fewB, this, Bool.not_true, Bool.and_false]
theorem few_ok {S : List Src} {F : List Fd} (h1 : S.length ≤ 20) (h2 : F.length ≤ 70) (hS : ∀ (j : Nat) s, S[j]? = some s → s.C.length ≤ 20) : fewB S F = true := by
  have a : S.any (fun s => decide (20 < s.C.length)) = false := by
    rw [List.any_eq_false]; intro s hs
    obtain ⟨j, hj⟩ := List.mem_iff_getElem?.1 hs
    have := hS j s hj
    simp; omega
  simp only [fewB, a, h1, h2, decide_true, Bool.not_false, Bool.and_true]
theorem few_of {S : List Src} {F : List Fd} (h : fewB S F = true) : S.length ≤ 20 ∧ F.length ≤ 70 ∧ ∀ s ∈ S, s.C.length ≤ 20 := by
  simp only [fewB, Bool.and_eq_true, decide_eq_true_eq, Bool.not_eq_true', List.any_eq_false, Nat.not_lt] at h
  exact ⟨h.1.1, h.1.2, h.2⟩
theorem s11 (n : Nat) (H : Heap) (S F f1 f2) (hS : S.length ≤ maxLen) : call1 T (n + 2) (.fn 11) [sp S f1 F f2] H = some (.bool (fewB S F), H) := by
  refine call_pure e11 (by rfl) ?_
  simp only [c11, heap0, go_sem, Int.cast_ofNat_Int, Int.reduceToNat, Bool.true_xor, Bool.false_xor, Bool.xor_true, Bool.xor_false, Nat.reduceAdd, Nat.reduceBEq, Nat.reduceLeDiff, Nat.reduceLT, Nat.reduceMul, Nat.reduceSub, Int.reduceEq, Int.reduceLT, Int.reduceLE, Int.reduceNeg]
  repeat' (with_reducible refine fork_split (fun _ => ?_) (fun _ => ?_) <;> simp only [*, go_sem, Int.cast_ofNat_Int, Int.reduceToNat, Bool.true_xor, Bool.false_xor, Bool.xor_true, Bool.xor_false, Nat.reduceAdd, Nat.reduceBEq, Nat.reduceLeDiff, Nat.reduceLT, Nat.reduceMul, Nat.reduceSub, Int.reduceEq, Int.reduceLT, Int.reduceLE, Int.reduceNeg])
  all_goals try (
    with_reducible refine congrArg some (congrArg SV.bool ?_)
    simp only [decide_eq_true_eq] at *
    rw [eq_comm, Bool.eq_false_iff]
    intro hq
    have := few_of hq
    omega)
  have hl1 : S.length ≤ 20 := by simp only [decide_eq_false_iff_not] at *; omega
  have hl2 : F.length ≤ 70 := by simp only [decide_eq_false_iff_not] at *; omega
  refine loop_rule (fun i => ([(1, .ptr 0 0 0 0), (3, .int .i64 i)], ⟨[.box [.lst 7 (srsS S) f1, .lst 6 (fdsS F) f2]], [], 0⟩)) (fun i => ∀ (j : Nat) s, j < i → S[j]? = some s → s.C.length ≤ 20) S.length ?_ (fun j s h => by omega) ?_
  · simp only [go_sem, Int.cast_ofNat_Int, Int.reduceToNat, Bool.true_xor, Bool.false_xor, Bool.xor_true, Bool.xor_false, Nat.reduceAdd, Nat.reduceBEq, Nat.reduceLeDiff, Nat.reduceLT, Nat.reduceMul, Nat.reduceSub, Int.reduceEq, Int.reduceLT, Int.reduceLE, Int.reduceNeg] <;> rfl
  · intro i hi hP
    rcases Nat.lt_or_ge i S.length with hlt | hge
    · obtain ⟨s, hs⟩ := getS hlt
      have hw := w64_suc hlt hS
      rcases Nat.lt_or_ge 20 s.C.length with hb | hb
      · have hb' : decide (20 < (s.C.length : Int)) = true := decide_eq_true (by omega)
        simp only [go_sem, Int.cast_ofNat_Int, Int.reduceToNat, Bool.true_xor, Bool.false_xor, Bool.xor_true, Bool.xor_false, Nat.reduceAdd, Nat.reduceBEq, Nat.reduceLeDiff, Nat.reduceLT, Nat.reduceMul, Nat.reduceSub, Int.reduceEq, Int.reduceLT, Int.reduceLE, Int.reduceNeg, hlt, hs, hb', few_no hs hb]
      · have hb' : decide (20 < (s.C.length : Int)) = false := decide_eq_false (by omega)
        simp only [go_sem, Int.cast_ofNat_Int, Int.reduceToNat, Bool.true_xor, Bool.false_xor, Bool.xor_true, Bool.xor_false, Nat.reduceAdd, Nat.reduceBEq, Nat.reduceLeDiff, Nat.reduceLT, Nat.reduceMul, Nat.reduceSub, Int.reduceEq, Int.reduceLT, Int.reduceLE, Int.reduceNeg, hlt, hs, hb', hw]
        refine ⟨by first | trivial | omega, by first | trivial | rfl, ?_⟩
        intro j s' hj hs'
        rcases Nat.lt_or_ge j i with h3 | h3
        · exact hP j s' h3 hs'
        · have : j = i := by omega
          subst this
          rw [hs] at hs'; cases hs'
          exact hb
    · have hlt : ¬ i < S.length := by omega
      have hfo := few_ok hl1 hl2 (fun j s hj => hP j s (by have := (List.getElem?_eq_some_iff.1 hj).1; omega) hj)
      simp only [go_sem, Int.cast_ofNat_Int, Int.reduceToNat, Bool.true_xor, Bool.false_xor, Bool.xor_true, Bool.xor_false, Nat.reduceAdd, Nat.reduceBEq, Nat.reduceLeDiff, Nat.reduceLT, Nat.reduceMul, Nat.reduceSub, Int.reduceEq, Int.reduceLT, Int.reduceLE, Int.reduceNeg, hlt, hfo]
theorem s3 (S F f1 f2) (s : Src) (a : Nat → Int) (x y z q r : Int) (hS : S.length ≤ maxLen) : call1 T 41 (.fn 3) [sp S f1 F f2, .agg (srC s), .agg [.int .i64 x, .int .i64 y, .int .i64 z, .int .i64 q, .int .i64 r]] heap0 = some (.bool true, heap0) := by
  refine call_pure e3 (by rfl) ?_
  have h10 := s10
  have h11 := fun H => s11 38 H S F f1 f2 hS
  simp only [c3, heap0, go_sem, Int.cast_ofNat_Int, Int.reduceToNat, Bool.true_xor, Bool.false_xor, Bool.xor_true, Bool.xor_false, Nat.reduceAdd, Nat.reduceBEq, Nat.reduceLeDiff, Nat.reduceLT, Nat.reduceMul, Nat.reduceSub, Int.reduceEq, Int.reduceLT, Int.reduceLE, Int.reduceNeg, h10, h11]
  cases hf : fewB S F with
  | false => simp only [go_sem, Int.cast_ofNat_Int, Int.reduceToNat, Bool.true_xor, Bool.false_xor, Bool.xor_true, Bool.xor_false, Nat.reduceAdd, Nat.reduceBEq, Nat.reduceLeDiff, Nat.reduceLT, Nat.reduceMul, Nat.reduceSub, Int.reduceEq, Int.reduceLT, Int.reduceLE, Int.reduceNeg]
  | true =>
    simp only [go_sem, Int.cast_ofNat_Int, Int.reduceToNat, Bool.true_xor, Bool.false_xor, Bool.xor_true, Bool.xor_false, Nat.reduceAdd, Nat.reduceBEq, Nat.reduceLeDiff, Nat.reduceLT, Nat.reduceMul, Nat.reduceSub, Int.reduceEq, Int.reduceLT, Int.reduceLE, Int.reduceNeg]
    with_reducible refine fork_split (fun h => ?_) (fun h => ?_)
    · simp only [go_sem, Int.cast_ofNat_Int, Int.reduceToNat, Bool.true_xor, Bool.false_xor, Bool.xor_true, Bool.xor_false, Nat.reduceAdd, Nat.reduceBEq, Nat.reduceLeDiff, Nat.reduceLT, Nat.reduceMul, Nat.reduceSub, Int.reduceEq, Int.reduceLT, Int.reduceLE, Int.reduceNeg]
    · have hC : s.C.length ≤ maxLen := by simp only [decide_eq_false_iff_not] at h; simp only [maxLen]; omega
      obtain ⟨k1, k2, k3⟩ := few_of hf
      have m20 : 20 ≤ maxLen := by decide
      have hS : okS S := ⟨hS, fun s hs => Nat.le_trans (k3 s hs) m20⟩
      have hF : F.length ≤ maxLen := Nat.le_trans k2 (by decide)
      have h12 := fun H => s12 33 H S F f1 f2 hS hF
      have h13 := fun H => s13 37 H S F f1 f2 hS hF
      have h14 := fun H => s14 37 H s q r hC
      have h15 := fun H => s15 37 H s q r hC
      have h16 := fun H => s16 37 H s hC
      have h17 := fun H => s17 37 H s hC
      simp only [go_sem, Int.cast_ofNat_Int, Int.reduceToNat, Bool.true_xor, Bool.false_xor, Bool.xor_true, Bool.xor_false, Nat.reduceAdd, Nat.reduceBEq, Nat.reduceLeDiff, Nat.reduceLT, Nat.reduceMul, Nat.reduceSub, Int.reduceEq, Int.reduceLT, Int.reduceLE, Int.reduceNeg, h12, h13, h14, h15, h16, h17]
end Go.Sh
namespace Go.Sh
set_option linter.unusedSectionVars false
set_option linter.unnecessarySimpa false
set_option linter.unusedVariables false
set_option linter.unusedSimpArgs false
set_option maxRecDepth 100000
set_option maxHeartbeats 4000000
abbrev srT : List DT := [.int .i64, .int .i64, .int .i64, .lst [.int .i64], .int .i64, .int .i64, .int .i64]
abbrev fdT : List DT := [.int .i64, .int .i64, .int .i64, .int .i64, .int .i64, .int .i64]
theorem ints_of : ∀ {L : List (List SV)}, (∀ q ∈ L, FitsL [.int .i64] q) → ∃ N, L = iS N
  | [], _ => ⟨[], rfl⟩
  | r :: L, h => by
    obtain ⟨N, rfl⟩ := ints_of (L := L) (fun q hq => h q (by simp [hq]))
    have h0 := h r (by simp)
    obtain ⟨a, _, rfl, _, h0⟩ := fitsL_i h0
    cases fitsL_nil' h0
    exact ⟨a :: N, rfl⟩
theorem sr_of {r : List SV} (k : FitsL srT r) : ∃ s : Src, r = srC s ∧ s.C.length ≤ maxLen := by
  obtain ⟨a, _, rfl, _, k⟩ := fitsL_i k
  obtain ⟨b, _, rfl, _, k⟩ := fitsL_i k
  obtain ⟨p, _, rfl, _, k⟩ := fitsL_i k
  obtain ⟨L1, f1, _, rfl, m1, a1, k⟩ := fitsL_l k
  obtain ⟨per, _, rfl, _, k⟩ := fitsL_i k
  obtain ⟨fr, _, rfl, _, k⟩ := fitsL_i k
  obtain ⟨to, _, rfl, _, k⟩ := fitsL_i k
  cases fitsL_nil' k
  obtain ⟨N, rfl⟩ := ints_of a1
  exact ⟨⟨a, b, p, N, f1, per, fr, to⟩, rfl, by simpa [iS] using m1⟩
theorem fd_of {r : List SV} (k : FitsL fdT r) : ∃ s : Fd, r = fdC s := by
  obtain ⟨a, _, rfl, _, k⟩ := fitsL_i k
  obtain ⟨b, _, rfl, _, k⟩ := fitsL_i k
  obtain ⟨c, _, rfl, _, k⟩ := fitsL_i k
  obtain ⟨x, _, rfl, _, k⟩ := fitsL_i k
  obtain ⟨y, _, rfl, _, k⟩ := fitsL_i k
  obtain ⟨f, _, rfl, _, k⟩ := fitsL_i k
  cases fitsL_nil' k
  exact ⟨⟨a, b, c, x, y, f⟩, rfl⟩
theorem srs_of : ∀ {L : List (List SV)}, (∀ q ∈ L, FitsL srT q) → ∃ S, L = srsS S ∧ ∀ s ∈ S, s.C.length ≤ maxLen
  | [], _ => ⟨[], rfl, fun s h => by cases h⟩
  | r :: L, h => by
    obtain ⟨N, rfl, hN⟩ := srs_of (L := L) (fun q hq => h q (by simp [hq]))
    obtain ⟨s, rfl, hs⟩ := sr_of (h r (by simp))
    exact ⟨s :: N, rfl, fun t ht => by
      rcases List.mem_cons.1 ht with rfl | ht
      · exact hs
      · exact hN t ht⟩
theorem fds_of : ∀ {L : List (List SV)}, (∀ q ∈ L, FitsL fdT q) → ∃ S, L = fdsS S
  | [], _ => ⟨[], rfl⟩
  | r :: L, h => by
    obtain ⟨N, rfl⟩ := fds_of (L := L) (fun q hq => h q (by simp [hq]))
    obtain ⟨s, rfl⟩ := fd_of (h r (by simp))
    exact ⟨s :: N, rfl⟩
abbrev srD : Bool × List DT := (true, srT)
abbrev spD : Bool × List DT := (true, [.lst srT, .lst fdT])
theorem src_of {x : SV} (h : FitsA srD x) : ∃ s : Src, x = .agg (srC s) ∧ s.C.length ≤ maxLen := by
  obtain ⟨cs, rfl, k⟩ := fitsA_agg h
  obtain ⟨s, rfl, hs⟩ := sr_of k
  exact ⟨s, rfl, hs⟩
theorem sp_of {x : SV} (h : FitsA spD x) : ∃ S f1 F f2, x = sp S f1 F f2 ∧ okS S ∧ F.length ≤ maxLen := by
  obtain ⟨cs, rfl, k⟩ := fitsA_agg h
  obtain ⟨L1, f1, _, rfl, m1, a1, k⟩ := fitsL_l k
  obtain ⟨L2, f2, _, rfl, m2, a2, k⟩ := fitsL_l k
  cases fitsL_nil' k
  obtain ⟨S, rfl, hS⟩ := srs_of a1
  obtain ⟨F, rfl⟩ := fds_of a2
  exact ⟨S, f1, F, f2, rfl, ⟨by simpa [srsS] using m1, hS⟩, by simpa [fdsS] using m2⟩
theorem law3 (xs : List SV) (h : FitsAll [spD, srD, (true, [.int .i64, .int .i64, .int .i64, .int .i64, .int .i64])] xs) : ∃ m, call1 T m (.fn 3) xs heap0 = some (.bool true, heap0) := by
  obtain ⟨x1, r1, rfl, h1, h⟩ := fitsAll_cons h
  obtain ⟨x2, r2, rfl, h2, h⟩ := fitsAll_cons h
  obtain ⟨x3, r3, rfl, h3, h⟩ := fitsAll_cons h
  cases fitsAll_nil h
  obtain ⟨S, f1, F, f2, rfl, hS, hF⟩ := sp_of h1
  obtain ⟨s, rfl, hs⟩ := src_of h2
  obtain ⟨cs, rfl, k⟩ := fitsA_agg h3
  obtain ⟨x, _, rfl, _, k⟩ := fitsL_i k
  obtain ⟨y, _, rfl, _, k⟩ := fitsL_i k
  obtain ⟨z, _, rfl, _, k⟩ := fitsL_i k
  obtain ⟨q, _, rfl, _, k⟩ := fitsL_i k
  obtain ⟨r, _, rfl, _, k⟩ := fitsL_i k
  cases fitsL_nil' k
  exact ⟨41, s3 S F f1 f2 s (fun _ => 0) x y z q r hS.1⟩
end Go.Sh
namespace Go.Sh
set_option linter.unusedSectionVars false
set_option linter.unnecessarySimpa false
set_option linter.unusedVariables false
set_option linter.unusedSimpArgs false
set_option maxRecDepth 100000
set_option maxHeartbeats 4000000
theorem emod_of {x P q r : Int} (h : x = r + P * q) : x % P = r % P := by rw [h, Int.add_mul_emod_self_left]
theorem on_iff {s : Src} {x y : Int} (hs : perB s.per s.fr s.to = true) (hx : 0 ≤ x) (hxy : x ≤ y) : onB s x y = true ↔ ∃ t, x ≤ t ∧ t < y ∧ s.fr ≤ t % s.per ∧ t % s.per < s.to := by
  simp only [perB, Bool.and_eq_true, decide_eq_true_eq] at hs
  have hP : 0 < s.per := by omega
  have hm1 := Int.emod_nonneg x (show s.per ≠ 0 by omega)
  have hm2 := Int.emod_lt_of_pos x hP
  have hx1 : x = x % s.per + s.per * (x / s.per) := (Int.emod_add_mul_ediv x s.per).symm
  have hfr : s.fr < s.per → s.fr % s.per = s.fr := fun h => Int.emod_eq_of_lt (by omega) h
  generalize hr : x % s.per = r at *
  generalize x / s.per = q at *
  simp only [onB, hr]
  constructor
  · intro h
    split at h
    · cases h
    · rename_i hne
      simp only [Bool.or_eq_true, Bool.and_eq_true, decide_eq_true_eq] at h
      have hlt : s.fr < s.to := by omega
      rcases h with ⟨h1, h2⟩ | h1
      · rcases Int.lt_or_le r s.fr with h3 | h3
        · refine ⟨x + s.fr - r, by omega, by omega, ?_⟩
          rw [emod_of (q := q) (r := s.fr) (P := s.per) (by omega), hfr (by omega)]
          omega
        · refine ⟨x, by omega, by omega, ?_⟩
          rw [hr]; omega
      · refine ⟨x + s.fr - r + s.per, by omega, by omega, ?_⟩
        rw [emod_of (q := q + 1) (r := s.fr) (P := s.per) (by rw [Int.mul_add]; omega), hfr (by omega)]
        omega
  · rintro ⟨t, h1, h2, h3, h4⟩
    rw [if_neg (by omega)]
    simp only [Bool.or_eq_true, Bool.and_eq_true, decide_eq_true_eq]
    have hu : t % s.per = (r + (t - x)) % s.per := emod_of (q := q) (by omega)
    rw [hu] at h3 h4
    rcases Int.lt_or_le (r + (t - x)) s.per with h5 | h5
    · rw [Int.emod_eq_of_lt (by omega) h5] at h3 h4
      left; omega
    · right
      have he := Int.emod_add_mul_ediv (r + (t - x)) s.per
      have hq1 : 1 ≤ (r + (t - x)) / s.per := by
        have := Int.ediv_le_ediv hP h5
        rwa [Int.ediv_self (by omega)] at this
      have hq2 : s.per * 1 ≤ s.per * ((r + (t - x)) / s.per) := Int.mul_le_mul_of_nonneg_left hq1 (by omega)
      omega
theorem on_split {s : Src} {a b c : Int} (ha : 0 ≤ a) (hab : a ≤ b) (hbc : b ≤ c) (hc : c ≤ 1099511627776) : onS s a c = (onS s a b || onS s b c) := by
  have i1 : ivB a c = true := by simp only [ivB, Bool.and_eq_true, decide_eq_true_eq]; omega
  have i2 : ivB a b = true := by simp only [ivB, Bool.and_eq_true, decide_eq_true_eq]; omega
  have i3 : ivB b c = true := by simp only [ivB, Bool.and_eq_true, decide_eq_true_eq]; omega
  simp only [onS, i1, i2, i3, Bool.and_true]
  cases h0 : srB s with
  | false => rfl
  | true =>
    have hs := srB_per h0
    simp only [Bool.true_and]
    rw [Bool.eq_iff_iff, Bool.or_eq_true, on_iff hs ha (by omega), on_iff hs ha hab, on_iff hs (by omega) hbc]
    constructor
    · rintro ⟨t, h1, h2, h3⟩
      rcases Int.lt_or_le t b with h4 | h4
      · exact .inl ⟨t, h1, h4, h3⟩
      · exact .inr ⟨t, h4, h2, h3⟩
    · rintro (⟨t, h1, h2, h3⟩ | ⟨t, h1, h2, h3⟩)
      · exact ⟨t, h1, by omega, h3⟩
      · exact ⟨t, by omega, h2, h3⟩
theorem on_self (s : Src) (a : Int) : onS s a a = false := by simp [onS, onB]
theorem on_one {s : Src} {a : Int} (h0 : srB s = true) (ha : 0 ≤ a) (hc : a < 1099511627776) : onS s a (a + 1) = (decide (s.fr ≤ a % s.per) && decide (a % s.per < s.to)) := by
  have i1 : ivB a (a + 1) = true := by simp only [ivB, Bool.and_eq_true, decide_eq_true_eq]; omega
  simp only [onS, i1, h0, Bool.and_true, Bool.true_and]
  rw [Bool.eq_iff_iff, on_iff (srB_per h0) ha (by omega), Bool.and_eq_true, decide_eq_true_eq, decide_eq_true_eq]
  constructor
  · rintro ⟨t, h1, h2, h3⟩
    obtain rfl : t = a := by omega
    exact h3
  · intro h
    exact ⟨a, by omega, by omega, h⟩
theorem on_per {s : Src} {a : Int} (h0 : srB s = true) (ha : 0 ≤ a) (hc : a < 1099511627776) : onS s a (min (a + s.per) 1099511627776) = (decide (s.fr < s.to) && (decide (a + s.per ≤ 1099511627776) || onS s a 1099511627776)) := by
  have hs := srB_per h0
  have hs' := hs
  simp only [perB, Bool.and_eq_true, decide_eq_true_eq] at hs
  have hm1 := Int.emod_nonneg a (show s.per ≠ 0 by omega)
  have hm2 := Int.emod_lt_of_pos a (show 0 < s.per by omega)
  rcases Int.lt_or_le 1099511627776 (a + s.per) with h | h
  · rw [Int.min_eq_right (by omega)]
    have i1 : ivB a 1099511627776 = true := by simp only [ivB, Bool.and_eq_true, decide_eq_true_eq]; omega
    simp only [onS, i1, h0, Bool.and_true, Bool.true_and, onB]
    generalize a % s.per = r at *
    rw [Bool.eq_iff_iff]
    grind
  · rw [Int.min_eq_left h]
    have i1 : ivB a (a + s.per) = true := by simp only [ivB, Bool.and_eq_true, decide_eq_true_eq]; omega
    simp only [onS, i1, h0, h, decide_true, Bool.true_or, Bool.and_true, Bool.true_and, onB]
    generalize a % s.per = r at *
    rw [Bool.eq_iff_iff]
    grind
end Go.Sh
namespace Go.Sh
set_option linter.unusedSectionVars false
set_option linter.unnecessarySimpa false
set_option linter.unusedVariables false
set_option linter.unusedSimpArgs false
set_option maxRecDepth 100000
set_option maxHeartbeats 4000000
theorem ck_one (s : Src) : ck [s] [] = bif srB s then 0 else 1 := by
  simp only [ck, ckB, List.any_cons, List.any_nil, List.length_cons, List.length_nil, Bool.or_false, Bool.not_not]
  cases srB s <;> rfl
theorem duty_no {s : Src} (h : srB s = false) : duty s = 0 := by simp only [duty, h, Bool.false_eq_true, if_false]
theorem onS_no {s : Src} (h : srB s = false) (x y : Int) : onS s x y = false := by simp only [onS, h, Bool.false_and]
theorem s4 (s : Src) (a b c : Int) : call1 T 41 (.fn 4) [.agg (srC s), .agg [.int .i64 a, .int .i64 b, .int .i64 c]] heap0 = some (.bool true, heap0) := by
  refine call_pure e4 (by rfl) ?_
  have h10 := s10
  simp only [c4, heap0, go_sem, Int.cast_ofNat_Int, Int.reduceToNat, Bool.true_xor, Bool.false_xor, Bool.xor_true, Bool.xor_false, Nat.reduceAdd, Nat.reduceBEq, Nat.reduceLeDiff, Nat.reduceLT, Nat.reduceMul, Nat.reduceSub, Int.reduceEq, Int.reduceLT, Int.reduceLE, Int.reduceNeg, h10]
  repeat' (with_reducible refine fork_split (fun _ => ?_) (fun _ => ?_) <;> simp only [*, go_sem, Int.cast_ofNat_Int, Int.reduceToNat, Bool.true_xor, Bool.false_xor, Bool.xor_true, Bool.xor_false, Nat.reduceAdd, Nat.reduceBEq, Nat.reduceLeDiff, Nat.reduceLT, Nat.reduceMul, Nat.reduceSub, Int.reduceEq, Int.reduceLT, Int.reduceLE, Int.reduceNeg])
  have hC : s.C.length ≤ maxLen := by simp only [decide_eq_false_iff_not] at *; simp only [maxLen]; omega
  have ha : 0 ≤ a := by simp only [decide_eq_false_iff_not] at *; omega
  have hab : a ≤ b := by simp only [decide_eq_false_iff_not] at *; omega
  have hbc : b ≤ c := by simp only [decide_eq_false_iff_not] at *; omega
  have hc : c < 1099511627776 := by simp only [decide_eq_false_iff_not] at *; omega
  have h14 := fun H x y => s14 37 H s x y hC
  have h16 := fun H => s16 37 H s hC
  have hok : okS [s] := ⟨(by show 1 ≤ maxLen; decide), fun t ht => by rw [List.mem_singleton.1 ht]; exact hC⟩
  have h12 := fun H f1 f2 => s12z 33 H [s] [] f1 f2 0 (.inr rfl) hok (by decide)
  simp only [srsS, fdsS, List.map_cons, List.map_nil, ck_one] at h12
  have hself := on_self s a
  have hsp := on_split (s := s) ha hab hbc (by omega)
  cases h0 : srB s with
  | false =>
    simp only [go_sem, Int.cast_ofNat_Int, Int.reduceToNat, Bool.true_xor, Bool.false_xor, Bool.xor_true, Bool.xor_false, Nat.reduceAdd, Nat.reduceBEq, Nat.reduceLeDiff, Nat.reduceLT, Nat.reduceMul, Nat.reduceSub, Int.reduceEq, Int.reduceLT, Int.reduceLE, Int.reduceNeg, h14, onS_no h0, h12, h0, h16, duty_no h0]
  | true =>
    have hs := srB_per h0
    simp only [perB, Bool.and_eq_true, decide_eq_true_eq] at hs
    have hone := on_one h0 ha (by omega : a < 1099511627776)
    have hper := on_per h0 ha (by omega : a < 1099511627776)
    have hne : s.per ≠ 0 := by omega
    have hm1 := Int.emod_nonneg a hne
    have hm2 := Int.emod_lt_of_pos a (show 0 < s.per by omega)
    have ht0 : a.tmod s.per = a % s.per := Int.tmod_eq_emod_of_nonneg ha
    have ht : w64 (a % s.per) = a % s.per := w64_id (by omega) (by omega)
    have a1 : w64 (a + 1) = a + 1 := w64_id (by omega) (by omega)
    have a2 : w64 (a + s.per) = a + s.per := w64_id (by omega) (by omega)
    have hpl : decide (s.per < 1) = false := decide_eq_false (by omega)
    have hbb : ∀ D : Bool, (D == D) = true := fun D => by cases D <;> rfl
    cases hX : onS s a b with
    | false =>
      rw [hX, Bool.false_or] at hsp
      cases hY : onS s b c with
      | false =>
        rw [hY] at hsp
        simp only [go_sem, Int.cast_ofNat_Int, Int.reduceToNat, Bool.true_xor, Bool.false_xor, Bool.xor_true, Bool.xor_false, Nat.reduceAdd, Nat.reduceBEq, Nat.reduceLeDiff, Nat.reduceLT, Nat.reduceMul, Nat.reduceSub, Int.reduceEq, Int.reduceLT, Int.reduceLE, Int.reduceNeg, h14, hX, hY, hsp, hself, h12, h0, hpl, hne, ht0, ht, a1, a2, hone]
        cases h1 : decide (s.fr ≤ a % s.per) <;> simp only [go_sem, Int.cast_ofNat_Int, Int.reduceToNat, Bool.true_xor, Bool.false_xor, Bool.xor_true, Bool.xor_false, Nat.reduceAdd, Nat.reduceBEq, Nat.reduceLeDiff, Nat.reduceLT, Nat.reduceMul, Nat.reduceSub, Int.reduceEq, Int.reduceLT, Int.reduceLE, Int.reduceNeg, h14, hper, hbb, h1, a2] <;> cases h3 : decide (s.fr < s.to) <;> simp only [go_sem, Int.cast_ofNat_Int, Int.reduceToNat, Bool.true_xor, Bool.false_xor, Bool.xor_true, Bool.xor_false, Nat.reduceAdd, Nat.reduceBEq, Nat.reduceLeDiff, Nat.reduceLT, Nat.reduceMul, Nat.reduceSub, Int.reduceEq, Int.reduceLT, Int.reduceLE, Int.reduceNeg, h14, hper, hbb, h1, h3, a2] <;> cases h4 : decide (a + s.per ≤ 1099511627776) <;> simp only [go_sem, Int.cast_ofNat_Int, Int.reduceToNat, Bool.true_xor, Bool.false_xor, Bool.xor_true, Bool.xor_false, Nat.reduceAdd, Nat.reduceBEq, Nat.reduceLeDiff, Nat.reduceLT, Nat.reduceMul, Nat.reduceSub, Int.reduceEq, Int.reduceLT, Int.reduceLE, Int.reduceNeg, h14, hper, hbb, h1, h3, h4, a2]
      | true =>
        rw [hY] at hsp
        simp only [go_sem, Int.cast_ofNat_Int, Int.reduceToNat, Bool.true_xor, Bool.false_xor, Bool.xor_true, Bool.xor_false, Nat.reduceAdd, Nat.reduceBEq, Nat.reduceLeDiff, Nat.reduceLT, Nat.reduceMul, Nat.reduceSub, Int.reduceEq, Int.reduceLT, Int.reduceLE, Int.reduceNeg, h14, hX, hY, hsp, hself, h12, h0, hpl, hne, ht0, ht, a1, a2, hone]
        cases h1 : decide (s.fr ≤ a % s.per) <;> simp only [go_sem, Int.cast_ofNat_Int, Int.reduceToNat, Bool.true_xor, Bool.false_xor, Bool.xor_true, Bool.xor_false, Nat.reduceAdd, Nat.reduceBEq, Nat.reduceLeDiff, Nat.reduceLT, Nat.reduceMul, Nat.reduceSub, Int.reduceEq, Int.reduceLT, Int.reduceLE, Int.reduceNeg, h14, hper, hbb, h1, a2] <;> cases h3 : decide (s.fr < s.to) <;> simp only [go_sem, Int.cast_ofNat_Int, Int.reduceToNat, Bool.true_xor, Bool.false_xor, Bool.xor_true, Bool.xor_false, Nat.reduceAdd, Nat.reduceBEq, Nat.reduceLeDiff, Nat.reduceLT, Nat.reduceMul, Nat.reduceSub, Int.reduceEq, Int.reduceLT, Int.reduceLE, Int.reduceNeg, h14, hper, hbb, h1, h3, a2] <;> cases h4 : decide (a + s.per ≤ 1099511627776) <;> simp only [go_sem, Int.cast_ofNat_Int, Int.reduceToNat, Bool.true_xor, Bool.false_xor, Bool.xor_true, Bool.xor_false, Nat.reduceAdd, Nat.reduceBEq, Nat.reduceLeDiff, Nat.reduceLT, Nat.reduceMul, Nat.reduceSub, Int.reduceEq, Int.reduceLT, Int.reduceLE, Int.reduceNeg, h14, hper, hbb, h1, h3, h4, a2]
    | true =>
      rw [hX, Bool.true_or] at hsp
      simp only [go_sem, Int.cast_ofNat_Int, Int.reduceToNat, Bool.true_xor, Bool.false_xor, Bool.xor_true, Bool.xor_false, Nat.reduceAdd, Nat.reduceBEq, Nat.reduceLeDiff, Nat.reduceLT, Nat.reduceMul, Nat.reduceSub, Int.reduceEq, Int.reduceLT, Int.reduceLE, Int.reduceNeg, h14, hX, hsp, hself, h12, h0, hpl, hne, ht0, ht, a1, a2, hone]
      cases h1 : decide (s.fr ≤ a % s.per) <;> simp only [go_sem, Int.cast_ofNat_Int, Int.reduceToNat, Bool.true_xor, Bool.false_xor, Bool.xor_true, Bool.xor_false, Nat.reduceAdd, Nat.reduceBEq, Nat.reduceLeDiff, Nat.reduceLT, Nat.reduceMul, Nat.reduceSub, Int.reduceEq, Int.reduceLT, Int.reduceLE, Int.reduceNeg, h14, hper, hbb, h1, a2] <;> cases h3 : decide (s.fr < s.to) <;> simp only [go_sem, Int.cast_ofNat_Int, Int.reduceToNat, Bool.true_xor, Bool.false_xor, Bool.xor_true, Bool.xor_false, Nat.reduceAdd, Nat.reduceBEq, Nat.reduceLeDiff, Nat.reduceLT, Nat.reduceMul, Nat.reduceSub, Int.reduceEq, Int.reduceLT, Int.reduceLE, Int.reduceNeg, h14, hper, hbb, h1, h3, a2] <;> cases h4 : decide (a + s.per ≤ 1099511627776) <;> simp only [go_sem, Int.cast_ofNat_Int, Int.reduceToNat, Bool.true_xor, Bool.false_xor, Bool.xor_true, Bool.xor_false, Nat.reduceAdd, Nat.reduceBEq, Nat.reduceLeDiff, Nat.reduceLT, Nat.reduceMul, Nat.reduceSub, Int.reduceEq, Int.reduceLT, Int.reduceLE, Int.reduceNeg, h14, hper, hbb, h1, h3, h4, a2]
theorem law4 (xs : List SV) (h : FitsAll [srD, (true, [.int .i64, .int .i64, .int .i64])] xs) : ∃ m, call1 T m (.fn 4) xs heap0 = some (.bool true, heap0) := by
  obtain ⟨x1, r1, rfl, h1, h⟩ := fitsAll_cons h
  obtain ⟨x2, r2, rfl, h2, h⟩ := fitsAll_cons h
  cases fitsAll_nil h
  obtain ⟨s, rfl, hs⟩ := src_of h1
  obtain ⟨cs, rfl, k⟩ := fitsA_agg h2
  obtain ⟨x, _, rfl, _, k⟩ := fitsL_i k
  obtain ⟨y, _, rfl, _, k⟩ := fitsL_i k
  obtain ⟨z, _, rfl, _, k⟩ := fitsL_i k
  cases fitsL_nil' k
  exact ⟨41, s4 s x y z⟩
end Go.Sh
