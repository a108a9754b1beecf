/-
  THE CODE OF THE FUNCTIONS THAT ARE REACHED, AS THE SHADOW MACHINE READS IT (written by a program of this work, checked by the kernel).
-/
import Derived.Test.YteohbocjhfcbdaaProg
import Derived.KernelRfl
import Derived.Test.YteohbocjhfcbdaaB3
namespace Go.Sh
def pol : Pol := { keep := (fun f => match f with | 64 => some 3 | _ => none), frz := (fun f r => match f, r with | 27, 14 => [7] | 28, 13 => [6] | _, _ => []), lit := fun _ _ => true, vrt := (fun f r => match f, r with | 22, 2 => [(2, 5)] | _, _ => []), keepAt := (fun f r => match f, r with | 7, 49 => some 1 | _, _ => none), viewAt := (fun f r => match f, r with | 7, 62 => true | 7, 71 => true | _, _ => false), loop := (fun f r => match f, r with
  | 4, 5 => ⟨[4, 5, 6, 7, 8, 29, 30, 31], []⟩
  | 5, 4 => ⟨[3, 4, 5, 21, 22, 23], []⟩
  | 10, 17 => ⟨[1, 3, 5, 6, 56, 57, 80, 81], []⟩
  | 10, 11 => ⟨[1, 3, 56, 57], []⟩
  | 27, 10 => ⟨[1, 5, 6, 7, 16, 17, 22, 23], [(7, 1)]⟩
  | 27, 6 => ⟨[1, 5, 16, 17], [(5, 1)]⟩
  | 28, 9 => ⟨[1, 4, 5, 6, 7], [(6, 1)]⟩
  | 28, 5 => ⟨[1, 4, 5], [(4, 1)]⟩
  | 29, 10 => ⟨[1, 5], []⟩
  | 29, 5 => ⟨[1, 3, 4], []⟩
  | 30, 4 => ⟨[1, 2, 15, 16, 17], []⟩
  | 31, 4 => ⟨[0, 1, 12, 13], []⟩
  | 32, 7 => ⟨[2, 3, 6, 18, 19, 20], []⟩
  | 33, 7 => ⟨[2, 3, 6, 7], []⟩
  | 34, 7 => ⟨[1, 2, 6, 26, 27], [(6, 1)]⟩
  | 35, 7 => ⟨[1, 2, 6, 7], [(6, 1)]⟩
  | 36, 2 => ⟨[0, 3], []⟩
  | 54, 6 => ⟨[4, 5, 7, 10, 11], []⟩
  | 60, 2 => ⟨[0, 1, 7, 8], []⟩
  | 61, 2 => ⟨[0, 1, 7, 8], []⟩
  | 66, 2 => ⟨[0, 1, 7, 8], []⟩
  | 67, 2 => ⟨[0, 1, 7, 8], []⟩
  | 70, 4 => ⟨[0, 9, 10, 11], []⟩
  | 72, 1 => ⟨[0, 2, 3, 8, 9, 10], []⟩
  | 73, 3 => ⟨[3, 6, 7, 8], []⟩
  | _, _ => ⟨[], []⟩) }
noncomputable def T : FuncId → Option Fun1 := cfun Go.Proofs.Try.prog pol
set_option maxRecDepth 100000
/- 3: hopmesh/hopmeshlaw05.GeometryShapes -/
def c3 : Fun1 := ⟨[(.tmp 6)], (.seq (.ops [⟨(some 3), (.box (.t 0)), none⟩, ⟨(some 4), (.box (.t 1)), none⟩, ⟨(some 5), (.box (.t 2)), none⟩, ⟨(some 6), (.mov (.c (.bool false))), none⟩]) (.seq (.seq (.ops [⟨(some 7), (.call (.c (.fn 11 [])) []), none⟩, ⟨(some 8), (.notB (.t 7)), none⟩]) (.cond (.t 8) (.seq (.ops [⟨(some 6), (.mov (.c (.bool false))), none⟩]) .ret) .skip)) (.seq (.seq (.ops [⟨(some 9), (.load true 2 (.t 3)), none⟩, ⟨(some 10), (.load true 2 (.t 4)), none⟩, ⟨(some 11), (.faddr 0 (.t 5)), none⟩, ⟨(some 12), (.load true 2 (.t 11)), none⟩, ⟨(some 13), (.faddr 2 (.t 5)), none⟩, ⟨(some 14), (.load true 2 (.t 13)), none⟩, ⟨(some 15), (.blist 2 [(.int .i64 0), (.int .i64 0)] 4 [(0, (.t 9)), (1, (.t 10)), (2, (.t 12)), (3, (.t 14))]), none⟩, ⟨(some 16), (.call (.c (.fn 12 [])) [(.t 15)]), none⟩, ⟨(some 17), (.notB (.t 16)), none⟩]) (.cond (.t 17) (.seq (.ops [⟨(some 6), (.mov (.c (.bool true))), none⟩]) .ret) .skip)) (.seq (.drawn [(⟨(some 18), (.load true 2 (.t 3)), none⟩, ⟨.seg, [], 0, 0⟩), (⟨(some 19), (.load true 2 (.t 4)), none⟩, ⟨.seg, [], 0, 0⟩), (⟨(some 20), (.call (.c (.fn 13 [])) [(.t 18), (.t 19)]), none⟩, ⟨.seg, [], 0, 0⟩), (⟨(some 21), (.load true 2 (.t 3)), none⟩, ⟨.seg, [], 0, 0⟩), (⟨(some 22), (.load true 2 (.t 4)), none⟩, ⟨.seg, [], 0, 0⟩), (⟨(some 23), (.call (.c (.fn 14 [])) [(.t 21), (.t 22)]), none⟩, ⟨.bar, [], 0, 0⟩), (⟨(some 24), (.bin .eql (.t 20) (.t 23)), none⟩, ⟨.pure, [], 0, 0⟩), (⟨(some 25), (.mov (.t 24)), none⟩, ⟨.pure, [], 0, 0⟩), (⟨(some 26), (.load true 2 (.t 3)), (some (25, true))⟩, ⟨.seg, [], 0, 0⟩), (⟨(some 27), (.load true 2 (.t 4)), (some (25, true))⟩, ⟨.seg, [], 0, 0⟩), (⟨(some 28), (.load true 5 (.t 5)), (some (25, true))⟩, ⟨.seg, [], 0, 0⟩), (⟨(some 29), (.call (.c (.fn 15 [])) [(.t 26), (.t 27), (.t 28)]), (some (25, true))⟩, ⟨.seg, [], 0, 0⟩), (⟨(some 30), (.load true 2 (.t 3)), (some (25, true))⟩, ⟨.seg, [], 0, 0⟩), (⟨(some 31), (.load true 2 (.t 4)), (some (25, true))⟩, ⟨.seg, [], 0, 0⟩), (⟨(some 32), (.load true 5 (.t 5)), (some (25, true))⟩, ⟨.seg, [], 0, 0⟩), (⟨(some 33), (.call (.c (.fn 16 [])) [(.t 30), (.t 31), (.t 32)]), (some (25, true))⟩, ⟨.bar, [], 0, 0⟩), (⟨(some 34), (.binB .eql (.t 29) (.t 33)), (some (25, true))⟩, ⟨.pure, [], 0, 0⟩), (⟨(some 35), (.pick (.t 25) (.t 34) (.c (.bool false))), none⟩, ⟨.pure, [], 0, 0⟩), (⟨(some 6), (.mov (.t 35)), none⟩, ⟨.pure, [], 0, 0⟩)]) .ret)))), false⟩
theorem e3 : T 3 = some c3 := by kernel_rfl
/- 6: hopmesh/hopmeshlaw05.GeometryDistances -/
def c6 : Fun1 := ⟨[(.tmp 6)], (.seq (.ops [⟨(some 3), (.box (.t 0)), none⟩, ⟨(some 4), (.box (.t 1)), none⟩, ⟨(some 5), (.box (.t 2)), none⟩, ⟨(some 6), (.mov (.c (.bool false))), none⟩]) (.seq (.seq (.ops [⟨(some 15), (.call (.c (.fn 11 [])) []), none⟩, ⟨(some 16), (.notB (.t 15)), none⟩]) (.cond (.t 16) (.seq (.ops [⟨(some 6), (.mov (.c (.bool false))), none⟩]) .ret) .skip)) (.seq (.drawn [(⟨(some 17), (.faddr 0 (.t 5)), none⟩, ⟨.seg, [], 0, 0⟩), (⟨(some 18), (.load true 2 (.t 17)), none⟩, ⟨.seg, [], 0, 0⟩), (⟨(some 19), (.faddr 2 (.t 5)), none⟩, ⟨.seg, [], 0, 0⟩), (⟨(some 20), (.load false 1 (.t 19)), none⟩, ⟨.seg, [], 0, 0⟩), (⟨(some 7), (.alloc [(.int .i64 0), (.int .i64 0)]), none⟩, ⟨.seg, [], 1, 0⟩), (⟨none, (.store 2 (.t 7) (.t 18)), none⟩, ⟨.seg, [], 0, 1⟩), (⟨(some 8), (.mov (.t 20)), none⟩, ⟨.pure, [], 0, 1⟩)]) (.seq (.seq (.ops [⟨(some 21), (.load true 6 (.t 3)), none⟩, ⟨(some 22), (.call (.c (.fn 20 [])) [(.t 21)]), none⟩, ⟨(some 23), (.notB (.t 22)), none⟩]) (.cond (.t 23) (.seq (.ops [⟨(some 6), (.mov (.c (.bool true))), none⟩]) .ret) .skip)) (.seq (.ops [⟨(some 24), (.faddr 2 (.t 3)), none⟩, ⟨none, (.store 1 (.t 24) (.c (.lst 0 [] true))), none⟩]) (.seq (.ops [⟨(some 26), (.load true 6 (.t 3)), none⟩, ⟨(some 27), (.faddr 0 (.t 4)), none⟩, ⟨(some 28), (.load true 2 (.t 27)), none⟩, ⟨(some 29), (.faddr 4 (.t 4)), none⟩, ⟨(some 30), (.load false 1 (.t 29)), none⟩, ⟨(some 31), (.faddr 2 (.t 4)), none⟩, ⟨(some 32), (.load true 2 (.t 31)), none⟩, ⟨(some 33), (.call (.c (.fn 21 [])) [(.t 26), (.t 28), (.t 30), (.t 32)]), none⟩, ⟨(some 25), (.mov (.t 33)), none⟩, ⟨(some 34), (.extract (.t 25) 0), none⟩, ⟨(some 35), (.extract (.t 25) 1), none⟩, ⟨(some 9), (.mov (.t 34)), none⟩, ⟨(some 10), (.mov (.t 35)), none⟩]) (.seq (.ops [⟨(some 37), (.load true 6 (.t 3)), none⟩, ⟨(some 38), (.faddr 0 (.t 4)), none⟩, ⟨(some 39), (.load true 2 (.t 38)), none⟩, ⟨(some 40), (.faddr 4 (.t 4)), none⟩, ⟨(some 41), (.load false 1 (.t 40)), none⟩, ⟨(some 42), (.load true 2 (.t 7)), none⟩, ⟨(some 43), (.call (.c (.fn 21 [])) [(.t 37), (.t 39), (.t 41), (.t 42)]), none⟩, ⟨(some 36), (.mov (.t 43)), none⟩, ⟨(some 44), (.extract (.t 36) 0), none⟩, ⟨(some 45), (.extract (.t 36) 1), none⟩, ⟨(some 11), (.mov (.t 44)), none⟩, ⟨(some 12), (.mov (.t 45)), none⟩]) (.seq (.seq (.drawn [(⟨(some 46), (.mov (.t 10)), none⟩, ⟨.pure, [], 0, 0⟩), (⟨(some 47), (.bin .eql (.t 46) (.c (.int .i64 0))), none⟩, ⟨.pure, [], 0, 0⟩), (⟨(some 48), (.mov (.t 47)), none⟩, ⟨.pure, [], 0, 0⟩), (⟨(some 49), (.mov (.t 12)), (some (48, true))⟩, ⟨.pure, [], 0, 0⟩), (⟨(some 50), (.bin .eql (.t 49) (.c (.int .i64 0))), (some (48, true))⟩, ⟨.pure, [], 0, 0⟩), (⟨(some 51), (.pick (.t 48) (.t 50) (.c (.bool false))), none⟩, ⟨.pure, [], 0, 0⟩), (⟨(some 52), (.mov (.t 51)), none⟩, ⟨.pure, [], 0, 0⟩), (⟨(some 53), (.faddr 0 (.t 4)), (some (52, true))⟩, ⟨.seg, [], 0, 0⟩), (⟨(some 54), (.load true 2 (.t 53)), (some (52, true))⟩, ⟨.seg, [], 0, 0⟩), (⟨(some 55), (.faddr 2 (.t 4)), (some (52, true))⟩, ⟨.seg, [], 0, 0⟩), (⟨(some 56), (.load true 2 (.t 55)), (some (52, true))⟩, ⟨.seg, [], 0, 0⟩), (⟨(some 57), (.call (.c (.fn 13 [])) [(.t 54), (.t 56)]), (some (52, true))⟩, ⟨.seg, [], 0, 0⟩), (⟨(some 58), (.faddr 0 (.t 4)), (some (52, true))⟩, ⟨.seg, [], 0, 0⟩), (⟨(some 59), (.load true 2 (.t 58)), (some (52, true))⟩, ⟨.seg, [], 0, 0⟩), (⟨(some 60), (.load true 2 (.t 7)), (some (52, true))⟩, ⟨.seg, [], 0, 0⟩), (⟨(some 61), (.call (.c (.fn 13 [])) [(.t 59), (.t 60)]), (some (52, true))⟩, ⟨.bar, [], 0, 0⟩), (⟨(some 62), (.bin .leq (.t 57) (.t 61)), (some (52, true))⟩, ⟨.pure, [], 0, 0⟩), (⟨(some 63), (.pick (.t 52) (.t 62) (.c (.bool false))), none⟩, ⟨.pure, [], 0, 0⟩), (⟨(some 64), (.mov (.t 63)), none⟩, ⟨.pure, [], 0, 0⟩), (⟨(some 65), (.mov (.t 9)), (some (64, true))⟩, ⟨.pure, [], 0, 0⟩), (⟨(some 66), (.mov (.t 11)), (some (64, true))⟩, ⟨.pure, [], 0, 0⟩), (⟨(some 67), (.bin .lss (.t 65) (.t 66)), (some (64, true))⟩, ⟨.pure, [], 0, 0⟩), (⟨(some 68), (.pick (.t 64) (.t 67) (.c (.bool false))), none⟩, ⟨.pure, [], 0, 0⟩)]) (.cond (.t 68) (.seq (.ops [⟨(some 6), (.mov (.c (.bool false))), none⟩]) .ret) .skip)) (.seq (.ops [⟨(some 70), (.load true 6 (.t 3)), none⟩, ⟨(some 71), (.faddr 0 (.t 4)), none⟩, ⟨(some 72), (.load true 2 (.t 71)), none⟩, ⟨(some 73), (.mov (.t 8)), none⟩, ⟨(some 74), (.faddr 2 (.t 4)), none⟩, ⟨(some 75), (.load true 2 (.t 74)), none⟩, ⟨(some 76), (.call (.c (.fn 21 [])) [(.t 70), (.t 72), (.t 73), (.t 75)]), none⟩, ⟨(some 69), (.mov (.t 76)), none⟩, ⟨(some 77), (.extract (.t 69) 0), none⟩, ⟨(some 78), (.extract (.t 69) 1), none⟩, ⟨(some 13), (.mov (.t 77)), none⟩, ⟨(some 14), (.mov (.t 78)), none⟩]) (.seq (.ops [⟨(some 79), (.mov (.t 10)), none⟩, ⟨(some 80), (.bin .neq (.t 79) (.c (.int .i64 0))), none⟩, ⟨(some 81), (.mov (.t 80)), none⟩, ⟨(some 82), (.mov (.t 14)), (some (81, false))⟩, ⟨(some 83), (.bin .neq (.t 82) (.c (.int .i64 0))), (some (81, false))⟩, ⟨(some 84), (.pick (.t 81) (.c (.bool true)) (.t 83)), none⟩, ⟨(some 85), (.mov (.t 84)), none⟩, ⟨(some 86), (.mov (.t 8)), (some (85, false))⟩, ⟨(some 87), (.faddr 4 (.t 4)), (some (85, false))⟩, ⟨(some 88), (.load false 1 (.t 87)), (some (85, false))⟩, ⟨(some 89), (.bin .lss (.t 86) (.t 88)), (some (85, false))⟩, ⟨(some 90), (.pick (.t 85) (.c (.bool true)) (.t 89)), none⟩, ⟨(some 91), (.mov (.t 90)), none⟩, ⟨(some 92), (.mov (.t 13)), (some (91, false))⟩, ⟨(some 93), (.mov (.t 9)), (some (91, false))⟩, ⟨(some 94), (.bin .geq (.t 92) (.t 93)), (some (91, false))⟩, ⟨(some 95), (.pick (.t 91) (.c (.bool true)) (.t 94)), none⟩, ⟨(some 6), (.mov (.t 95)), none⟩]) .ret)))))))))), false⟩
theorem e6 : T 6 = some c6 := by kernel_rfl
/- 7: hopmesh/hopmeshlaw05.GeometryWalls -/
def c7 : Fun1 := ⟨[(.tmp 6)], (.seq (.ops [⟨(some 3), (.box (.t 0)), none⟩, ⟨(some 4), (.box (.t 1)), none⟩, ⟨(some 5), (.box (.t 2)), none⟩, ⟨(some 6), (.mov (.c (.bool false))), none⟩]) (.seq (.seq (.ops [⟨(some 12), (.call (.c (.fn 11 [])) []), none⟩, ⟨(some 13), (.notB (.t 12)), none⟩]) (.cond (.t 13) (.seq (.ops [⟨(some 6), (.mov (.c (.bool false))), none⟩]) .ret) .skip)) (.seq (.seq (.ops [⟨(some 14), (.load true 6 (.t 3)), none⟩, ⟨(some 15), (.call (.c (.fn 20 [])) [(.t 14)]), none⟩, ⟨(some 16), (.notB (.t 15)), none⟩, ⟨(some 17), (.mov (.t 16)), none⟩, ⟨(some 18), (.faddr 2 (.t 3)), (some (17, false))⟩, ⟨(some 19), (.load false 1 (.t 18)), (some (17, false))⟩, ⟨(some 20), (.len (.t 19)), (some (17, false))⟩, ⟨(some 21), (.bin .gtr (.t 20) (.c (.int .i64 31))), (some (17, false))⟩, ⟨(some 22), (.pick (.t 17) (.c (.bool true)) (.t 21)), none⟩]) (.cond (.t 22) (.seq (.ops [⟨(some 6), (.mov (.c (.bool true))), none⟩]) .ret) .skip)) (.seq (.ops [⟨(some 24), (.load true 6 (.t 3)), none⟩, ⟨(some 25), (.faddr 0 (.t 5)), none⟩, ⟨(some 26), (.load true 2 (.t 25)), none⟩, ⟨(some 27), (.faddr 4 (.t 5)), none⟩, ⟨(some 28), (.load false 1 (.t 27)), none⟩, ⟨(some 29), (.faddr 2 (.t 5)), none⟩, ⟨(some 30), (.load true 2 (.t 29)), none⟩, ⟨(some 31), (.call (.c (.fn 21 [])) [(.t 24), (.t 26), (.t 28), (.t 30)]), none⟩, ⟨(some 23), (.mov (.t 31)), none⟩, ⟨(some 32), (.extract (.t 23) 0), none⟩, ⟨(some 33), (.extract (.t 23) 1), none⟩, ⟨(some 7), (.mov (.t 32)), none⟩, ⟨(some 8), (.mov (.t 33)), none⟩]) (.seq (.seq (.ops [⟨(some 34), (.mov (.t 8)), none⟩, ⟨(some 35), (.bin .neq (.t 34) (.c (.int .i64 0))), none⟩]) (.cond (.t 35) (.seq (.ops [⟨(some 36), (.mov (.t 7)), none⟩, ⟨(some 37), (.bin .eql (.t 36) (.c (.int .i64 0))), none⟩, ⟨(some 6), (.mov (.t 37)), none⟩]) .ret) .skip)) (.seq (.seq (.ops [⟨(some 38), (.mov (.t 7)), none⟩, ⟨(some 39), (.bin .lss (.t 38) (.c (.int .i64 0))), none⟩, ⟨(some 40), (.mov (.t 39)), none⟩, ⟨(some 41), (.mov (.t 7)), (some (40, false))⟩, ⟨(some 42), (.faddr 4 (.t 5)), (some (40, false))⟩, ⟨(some 43), (.load false 1 (.t 42)), (some (40, false))⟩, ⟨(some 44), (.bin .gtr (.t 41) (.t 43)), (some (40, false))⟩, ⟨(some 45), (.pick (.t 40) (.c (.bool true)) (.t 44)), none⟩]) (.cond (.t 45) (.seq (.ops [⟨(some 6), (.mov (.c (.bool false))), none⟩]) .ret) .skip)) (.seq (.ops [⟨(some 46), (.load true 6 (.t 3)), none⟩, ⟨(some 9), (.alloc [(.lst 0 [] true), (.lst 0 [] true), (.lst 0 [] true), (.int .i64 0), (.int .i64 0), (.int .i64 0)]), none⟩, ⟨none, (.store 6 (.t 9) (.t 46)), none⟩]) (.seq (.drawn [(⟨(some 47), (.faddr 2 (.t 3)), none⟩, ⟨.seg, [], 0, 0⟩), (⟨(some 48), (.load false 1 (.t 47)), none⟩, ⟨.seg, [], 0, 0⟩), (⟨(some 49), (.callK 22 1 [(.t 48)]), none⟩, ⟨.seg, [], 1, 0⟩), (⟨(some 50), (.load true 5 (.t 4)), none⟩, ⟨.seg, [0], 0, 1⟩), (⟨(some 51), (.blist 5 [(.int .i64 0), (.int .i64 0), (.int .i64 0), (.int .i64 0), (.int .i64 0)] 1 [(0, (.t 50))]), none⟩, ⟨.pure, [], 0, 1⟩), (⟨(some 52), (.append 5 40 (.t 49) (.t 51)), none⟩, ⟨.bar, [], 0, 1⟩), (⟨(some 53), (.faddr 2 (.t 9)), none⟩, ⟨.bar, [], 0, 0⟩), (⟨none, (.store 1 (.t 53) (.t 52)), none⟩, ⟨.bar, [], 0, 0⟩)]) (.seq (.ops [⟨(some 55), (.load true 6 (.t 9)), none⟩, ⟨(some 56), (.faddr 0 (.t 5)), none⟩, ⟨(some 57), (.load true 2 (.t 56)), none⟩, ⟨(some 58), (.faddr 4 (.t 5)), none⟩, ⟨(some 59), (.load false 1 (.t 58)), none⟩, ⟨(some 60), (.faddr 2 (.t 5)), none⟩, ⟨(some 61), (.load true 2 (.t 60)), none⟩, ⟨(some 62), (.callV 21 [(.t 55), (.t 57), (.t 59), (.t 61)]), none⟩, ⟨(some 54), (.mov (.t 62)), none⟩, ⟨(some 63), (.extract (.t 54) 0), none⟩, ⟨(some 64), (.extract (.t 54) 1), none⟩, ⟨(some 10), (.mov (.t 63)), none⟩, ⟨(some 11), (.mov (.t 64)), none⟩]) (.seq (.seq (.ops [⟨(some 65), (.mov (.t 11)), none⟩, ⟨(some 66), (.bin .neq (.t 65) (.c (.int .i64 0))), none⟩]) (.cond (.t 66) (.seq (.ops [⟨(some 67), (.mov (.t 11)), none⟩, ⟨(some 68), (.bin .eql (.t 67) (.c (.int .i64 1))), none⟩, ⟨(some 69), (.mov (.t 68)), none⟩, ⟨(some 70), (.load true 6 (.t 9)), (some (69, true))⟩, ⟨(some 71), (.callV 23 [(.t 70)]), (some (69, true))⟩, ⟨(some 72), (.bin .eql (.t 71) (.c (.int .i64 1))), (some (69, true))⟩, ⟨(some 73), (.pick (.t 69) (.t 72) (.c (.bool false))), none⟩, ⟨(some 6), (.mov (.t 73)), none⟩]) .ret) .skip)) (.seq (.seq (.ops [⟨(some 74), (.faddr 0 (.t 5)), none⟩, ⟨(some 75), (.load true 2 (.t 74)), none⟩, ⟨(some 76), (.faddr 2 (.t 5)), none⟩, ⟨(some 77), (.load true 2 (.t 76)), none⟩, ⟨(some 78), (.load true 5 (.t 4)), none⟩, ⟨(some 79), (.call (.c (.fn 15 [])) [(.t 75), (.t 77), (.t 78)]), none⟩, ⟨(some 80), (.notB (.t 79)), none⟩, ⟨(some 81), (.mov (.t 80)), none⟩, ⟨(some 82), (.faddr 4 (.t 4)), (some (81, false))⟩, ⟨(some 83), (.load false 1 (.t 82)), (some (81, false))⟩, ⟨(some 84), (.bin .eql (.t 83) (.c (.int .i64 1000))), (some (81, false))⟩, ⟨(some 85), (.pick (.t 81) (.c (.bool true)) (.t 84)), none⟩]) (.cond (.t 85) (.seq (.ops [⟨(some 86), (.mov (.t 10)), none⟩, ⟨(some 87), (.mov (.t 7)), none⟩, ⟨(some 88), (.bin .eql (.t 86) (.t 87)), none⟩, ⟨(some 6), (.mov (.t 88)), none⟩]) .ret) .skip)) (.seq (.ops [⟨(some 89), (.mov (.t 10)), none⟩, ⟨(some 90), (.mov (.t 7)), none⟩, ⟨(some 91), (.bin .leq (.t 89) (.t 90)), none⟩, ⟨(some 6), (.mov (.t 91)), none⟩]) .ret)))))))))))), false⟩
theorem e7 : T 7 = some c7 := by kernel_rfl
/- 8: hopmesh/hopmeshlaw05.GeometryPowers -/
def c8 : Fun1 := ⟨[(.tmp 4)], (.seq (.ops [⟨(some 2), (.box (.t 0)), none⟩, ⟨(some 3), (.box (.t 1)), none⟩, ⟨(some 4), (.mov (.c (.bool false))), none⟩]) (.seq (.seq (.ops [⟨(some 17), (.call (.c (.fn 11 [])) []), none⟩, ⟨(some 18), (.notB (.t 17)), none⟩]) (.cond (.t 18) (.seq (.ops [⟨(some 4), (.mov (.c (.bool false))), none⟩]) .ret) .skip)) (.seq (.seq (.ops [⟨(some 19), (.load true 6 (.t 2)), none⟩, ⟨(some 20), (.call (.c (.fn 20 [])) [(.t 19)]), none⟩, ⟨(some 21), (.notB (.t 20)), none⟩]) (.cond (.t 21) (.seq (.ops [⟨(some 4), (.mov (.c (.bool true))), none⟩]) .ret) .skip)) (.seq (.ops [⟨(some 23), (.load true 6 (.t 2)), none⟩, ⟨(some 24), (.faddr 0 (.t 3)), none⟩, ⟨(some 25), (.load true 2 (.t 24)), none⟩, ⟨(some 26), (.faddr 4 (.t 3)), none⟩, ⟨(some 27), (.load false 1 (.t 26)), none⟩, ⟨(some 28), (.faddr 2 (.t 3)), none⟩, ⟨(some 29), (.load true 2 (.t 28)), none⟩, ⟨(some 30), (.call (.c (.fn 21 [])) [(.t 23), (.t 25), (.t 27), (.t 29)]), none⟩, ⟨(some 22), (.mov (.t 30)), none⟩, ⟨(some 31), (.extract (.t 22) 0), none⟩, ⟨(some 32), (.extract (.t 22) 1), none⟩, ⟨(some 5), (.mov (.t 31)), none⟩, ⟨(some 6), (.mov (.t 32)), none⟩]) (.seq (.ops [⟨(some 34), (.load true 6 (.t 2)), none⟩, ⟨(some 35), (.faddr 0 (.t 3)), none⟩, ⟨(some 36), (.load true 2 (.t 35)), none⟩, ⟨(some 37), (.faddr 4 (.t 3)), none⟩, ⟨(some 38), (.load false 1 (.t 37)), none⟩, ⟨(some 39), (.faddr 2 (.t 3)), none⟩, ⟨(some 40), (.load true 2 (.t 39)), none⟩, ⟨(some 41), (.call (.c (.fn 24 [])) [(.t 34), (.t 36), (.t 38), (.t 40)]), none⟩, ⟨(some 33), (.mov (.t 41)), none⟩, ⟨(some 42), (.extract (.t 33) 0), none⟩, ⟨(some 43), (.extract (.t 33) 1), none⟩, ⟨(some 7), (.mov (.t 42)), none⟩, ⟨(some 8), (.mov (.t 43)), none⟩]) (.seq (.ops [⟨(some 45), (.load true 6 (.t 2)), none⟩, ⟨(some 46), (.faddr 5 (.t 3)), none⟩, ⟨(some 47), (.load false 1 (.t 46)), none⟩, ⟨(some 48), (.faddr 6 (.t 3)), none⟩, ⟨(some 49), (.load false 1 (.t 48)), none⟩, ⟨(some 50), (.call (.c (.fn 25 [])) [(.t 45), (.t 47), (.t 49)]), none⟩, ⟨(some 44), (.mov (.t 50)), none⟩, ⟨(some 51), (.extract (.t 44) 0), none⟩, ⟨(some 52), (.extract (.t 44) 1), none⟩, ⟨(some 9), (.mov (.t 51)), none⟩, ⟨(some 10), (.mov (.t 52)), none⟩]) (.seq (.ops [⟨(some 54), (.load true 6 (.t 2)), none⟩, ⟨(some 55), (.faddr 5 (.t 3)), none⟩, ⟨(some 56), (.load false 1 (.t 55)), none⟩, ⟨(some 57), (.faddr 6 (.t 3)), none⟩, ⟨(some 58), (.load false 1 (.t 57)), none⟩, ⟨(some 59), (.call (.c (.fn 26 [])) [(.t 54), (.t 56), (.t 58)]), none⟩, ⟨(some 53), (.mov (.t 59)), none⟩, ⟨(some 60), (.extract (.t 53) 0), none⟩, ⟨(some 61), (.extract (.t 53) 1), none⟩, ⟨(some 11), (.mov (.t 60)), none⟩, ⟨(some 12), (.mov (.t 61)), none⟩]) (.seq (.ops [⟨(some 63), (.load true 6 (.t 2)), none⟩, ⟨(some 64), (.call (.c (.fn 27 [])) [(.t 63)]), none⟩, ⟨(some 62), (.mov (.t 64)), none⟩, ⟨(some 65), (.extract (.t 62) 0), none⟩, ⟨(some 66), (.extract (.t 62) 1), none⟩, ⟨(some 13), (.mov (.t 65)), none⟩, ⟨(some 14), (.mov (.t 66)), none⟩]) (.seq (.ops [⟨(some 68), (.load true 6 (.t 2)), none⟩, ⟨(some 69), (.call (.c (.fn 28 [])) [(.t 68)]), none⟩, ⟨(some 67), (.mov (.t 69)), none⟩, ⟨(some 70), (.extract (.t 67) 0), none⟩, ⟨(some 71), (.extract (.t 67) 1), none⟩, ⟨(some 15), (.mov (.t 70)), none⟩, ⟨(some 16), (.mov (.t 71)), none⟩]) (.seq (.drawn [(⟨(some 72), (.load true 6 (.t 2)), none⟩, ⟨.seg, [], 0, 0⟩), (⟨(some 73), (.call (.c (.fn 23 [])) [(.t 72)]), none⟩, ⟨.seg, [], 0, 0⟩), (⟨(some 74), (.load true 6 (.t 2)), none⟩, ⟨.seg, [], 0, 0⟩), (⟨(some 75), (.call (.c (.fn 29 [])) [(.t 74)]), none⟩, ⟨.bar, [], 0, 0⟩), (⟨(some 76), (.bin .eql (.t 73) (.t 75)), none⟩, ⟨.pure, [], 0, 0⟩), (⟨(some 77), (.mov (.t 76)), none⟩, ⟨.pure, [], 0, 0⟩), (⟨(some 78), (.mov (.t 5)), (some (77, true))⟩, ⟨.pure, [], 0, 0⟩), (⟨(some 79), (.mov (.t 7)), (some (77, true))⟩, ⟨.pure, [], 0, 0⟩), (⟨(some 80), (.bin .eql (.t 78) (.t 79)), (some (77, true))⟩, ⟨.pure, [], 0, 0⟩), (⟨(some 81), (.pick (.t 77) (.t 80) (.c (.bool false))), none⟩, ⟨.pure, [], 0, 0⟩), (⟨(some 82), (.mov (.t 81)), none⟩, ⟨.pure, [], 0, 0⟩), (⟨(some 83), (.mov (.t 6)), (some (82, true))⟩, ⟨.pure, [], 0, 0⟩), (⟨(some 84), (.mov (.t 8)), (some (82, true))⟩, ⟨.pure, [], 0, 0⟩), (⟨(some 85), (.bin .eql (.t 83) (.t 84)), (some (82, true))⟩, ⟨.pure, [], 0, 0⟩), (⟨(some 86), (.pick (.t 82) (.t 85) (.c (.bool false))), none⟩, ⟨.pure, [], 0, 0⟩), (⟨(some 87), (.mov (.t 86)), none⟩, ⟨.pure, [], 0, 0⟩), (⟨(some 88), (.mov (.t 9)), (some (87, true))⟩, ⟨.pure, [], 0, 0⟩), (⟨(some 89), (.mov (.t 11)), (some (87, true))⟩, ⟨.pure, [], 0, 0⟩), (⟨(some 90), (.bin .eql (.t 88) (.t 89)), (some (87, true))⟩, ⟨.pure, [], 0, 0⟩), (⟨(some 91), (.pick (.t 87) (.t 90) (.c (.bool false))), none⟩, ⟨.pure, [], 0, 0⟩), (⟨(some 92), (.mov (.t 91)), none⟩, ⟨.pure, [], 0, 0⟩), (⟨(some 93), (.mov (.t 10)), (some (92, true))⟩, ⟨.pure, [], 0, 0⟩), (⟨(some 94), (.mov (.t 12)), (some (92, true))⟩, ⟨.pure, [], 0, 0⟩), (⟨(some 95), (.bin .eql (.t 93) (.t 94)), (some (92, true))⟩, ⟨.pure, [], 0, 0⟩), (⟨(some 96), (.pick (.t 92) (.t 95) (.c (.bool false))), none⟩, ⟨.pure, [], 0, 0⟩), (⟨(some 97), (.mov (.t 96)), none⟩, ⟨.pure, [], 0, 0⟩), (⟨(some 98), (.mov (.t 14)), (some (97, true))⟩, ⟨.pure, [], 0, 0⟩), (⟨(some 99), (.mov (.t 16)), (some (97, true))⟩, ⟨.pure, [], 0, 0⟩), (⟨(some 100), (.bin .eql (.t 98) (.t 99)), (some (97, true))⟩, ⟨.pure, [], 0, 0⟩), (⟨(some 101), (.pick (.t 97) (.t 100) (.c (.bool false))), none⟩, ⟨.pure, [], 0, 0⟩), (⟨(some 102), (.mov (.t 101)), none⟩, ⟨.pure, [], 0, 0⟩), (⟨(some 103), (.mov (.t 13)), (some (102, true))⟩, ⟨.pure, [], 0, 0⟩), (⟨(some 104), (.mov (.t 15)), (some (102, true))⟩, ⟨.pure, [], 0, 0⟩), (⟨(some 105), (.call (.c (.fn 30 [])) [(.t 103), (.t 104), (.c (.fn 31 []))]), (some (102, true))⟩, ⟨.bar, [], 0, 0⟩), (⟨(some 106), (.pick (.t 102) (.t 105) (.c (.bool false))), none⟩, ⟨.pure, [], 0, 0⟩), (⟨(some 4), (.mov (.t 106)), none⟩, ⟨.pure, [], 0, 0⟩)]) .ret)))))))))), false⟩
theorem e8 : T 8 = some c8 := by kernel_rfl
/- 9: hopmesh/hopmeshlaw05.GeometryFinds -/
def c9 : Fun1 := ⟨[(.tmp 6)], (.seq (.ops [⟨(some 3), (.box (.t 0)), none⟩, ⟨(some 4), (.box (.t 1)), none⟩, ⟨(some 6), (.mov (.c (.bool false))), none⟩]) (.seq (.seq (.ops [⟨(some 15), (.call (.c (.fn 11 [])) []), none⟩, ⟨(some 16), (.notB (.t 15)), none⟩]) (.cond (.t 16) (.seq (.ops [⟨(some 6), (.mov (.c (.bool false))), none⟩]) .ret) .skip)) (.seq (.seq (.ops [⟨(some 17), (.load true 6 (.t 3)), none⟩, ⟨(some 18), (.call (.c (.fn 20 [])) [(.t 17)]), none⟩, ⟨(some 19), (.notB (.t 18)), none⟩]) (.cond (.t 19) (.seq (.ops [⟨(some 6), (.mov (.c (.bool true))), none⟩]) .ret) .skip)) (.seq (.ops [⟨(some 21), (.load true 6 (.t 3)), none⟩, ⟨(some 22), (.load true 2 (.t 4)), none⟩, ⟨(some 23), (.call (.c (.fn 32 [])) [(.t 21), (.t 22)]), none⟩, ⟨(some 20), (.mov (.t 23)), none⟩, ⟨(some 24), (.extract (.t 20) 0), none⟩, ⟨(some 25), (.extract (.t 20) 1), none⟩, ⟨(some 7), (.mov (.t 24)), none⟩, ⟨(some 8), (.mov (.t 25)), none⟩]) (.seq (.ops [⟨(some 27), (.load true 6 (.t 3)), none⟩, ⟨(some 28), (.load true 2 (.t 4)), none⟩, ⟨(some 29), (.call (.c (.fn 33 [])) [(.t 27), (.t 28)]), none⟩, ⟨(some 26), (.mov (.t 29)), none⟩, ⟨(some 30), (.extract (.t 26) 0), none⟩, ⟨(some 31), (.extract (.t 26) 1), none⟩, ⟨(some 9), (.mov (.t 30)), none⟩, ⟨(some 10), (.mov (.t 31)), none⟩]) (.seq (.ops [⟨(some 33), (.load true 6 (.t 3)), none⟩, ⟨(some 34), (.mov (.t 2)), none⟩, ⟨(some 35), (.call (.c (.fn 34 [])) [(.t 33), (.t 34)]), none⟩, ⟨(some 32), (.mov (.t 35)), none⟩, ⟨(some 36), (.extract (.t 32) 0), none⟩, ⟨(some 37), (.extract (.t 32) 1), none⟩, ⟨(some 11), (.mov (.t 36)), none⟩, ⟨(some 12), (.mov (.t 37)), none⟩]) (.seq (.ops [⟨(some 39), (.load true 6 (.t 3)), none⟩, ⟨(some 40), (.mov (.t 2)), none⟩, ⟨(some 41), (.call (.c (.fn 35 [])) [(.t 39), (.t 40)]), none⟩, ⟨(some 38), (.mov (.t 41)), none⟩, ⟨(some 42), (.extract (.t 38) 0), none⟩, ⟨(some 43), (.extract (.t 38) 1), none⟩, ⟨(some 13), (.mov (.t 42)), none⟩, ⟨(some 14), (.mov (.t 43)), none⟩]) (.seq (.ops [⟨(some 44), (.mov (.t 7)), none⟩, ⟨(some 45), (.mov (.t 9)), none⟩, ⟨(some 46), (.bin .eql (.t 44) (.t 45)), none⟩, ⟨(some 47), (.mov (.t 46)), none⟩, ⟨(some 48), (.mov (.t 8)), (some (47, true))⟩, ⟨(some 49), (.mov (.t 10)), (some (47, true))⟩, ⟨(some 50), (.bin .eql (.t 48) (.t 49)), (some (47, true))⟩, ⟨(some 51), (.pick (.t 47) (.t 50) (.c (.bool false))), none⟩, ⟨(some 52), (.mov (.t 51)), none⟩, ⟨(some 53), (.mov (.t 12)), (some (52, true))⟩, ⟨(some 54), (.mov (.t 14)), (some (52, true))⟩, ⟨(some 55), (.bin .eql (.t 53) (.t 54)), (some (52, true))⟩, ⟨(some 56), (.pick (.t 52) (.t 55) (.c (.bool false))), none⟩, ⟨(some 57), (.mov (.t 56)), none⟩, ⟨(some 58), (.mov (.t 11)), (some (57, true))⟩, ⟨(some 59), (.mov (.t 13)), (some (57, true))⟩, ⟨(some 60), (.call (.c (.fn 31 [])) [(.t 58), (.t 59)]), (some (57, true))⟩, ⟨(some 61), (.pick (.t 57) (.t 60) (.c (.bool false))), none⟩, ⟨(some 6), (.mov (.t 61)), none⟩]) .ret)))))))), false⟩
theorem e9 : T 9 = some c9 := by kernel_rfl
/- 11: hopmesh/hopmeshlaw05.awake -/
def c11 : Fun1 := ⟨[(.tmp 0)], (.seq (.ops [⟨(some 0), (.mov (.c (.bool false))), none⟩]) (.seq (.ops [⟨(some 6), (.build [(.int .i64 0), (.int .i64 0)] [(0, (1, (.c (.int .i64 0)))), (1, (1, (.c (.int .i64 50))))]), none⟩, ⟨(some 7), (.build [(.int .i64 0), (.int .i64 0)] [(0, (1, (.c (.int .i64 30)))), (1, (1, (.c (.int .i64 50))))]), none⟩, ⟨(some 8), (.blist 2 [(.int .i64 0), (.int .i64 0)] 2 [(0, (.t 6)), (1, (.t 7))]), none⟩, ⟨(some 9), (.blist 1 [(.int .i64 0)] 2 [(0, (.c (.int .i64 90000))), (1, (.c (.int .i64 90000)))]), none⟩, ⟨(some 10), (.build [(.lst 0 [] true), (.lst 0 [] true), (.lst 0 [] true), (.int .i64 0), (.int .i64 0), (.int .i64 0)] [(0, (1, (.t 8))), (1, (1, (.t 9))), (3, (1, (.c (.int .i64 2)))), (4, (1, (.c (.int .i64 1)))), (5, (1, (.c (.int .i64 1000))))]), none⟩, ⟨(some 1), (.alloc [(.lst 0 [] true), (.lst 0 [] true), (.lst 0 [] true), (.int .i64 0), (.int .i64 0), (.int .i64 0)]), none⟩, ⟨none, (.store 6 (.t 1) (.t 10)), none⟩]) (.seq (.ops [⟨(some 12), (.load true 6 (.t 1)), none⟩, ⟨(some 13), (.call (.c (.fn 25 [])) [(.t 12), (.c (.int .i64 0)), (.c (.int .i64 1))]), none⟩, ⟨(some 11), (.mov (.t 13)), none⟩, ⟨(some 14), (.extract (.t 11) 0), none⟩, ⟨(some 15), (.extract (.t 11) 1), none⟩, ⟨(some 2), (.mov (.t 14)), none⟩, ⟨(some 3), (.mov (.t 15)), none⟩]) (.seq (.ops [⟨(some 16), (.faddr 3 (.t 1)), none⟩, ⟨none, (.store 1 (.t 16) (.c (.int .i64 4))), none⟩]) (.seq (.ops [⟨(some 17), (.build [(.int .i64 0), (.int .i64 0)] [(0, (1, (.c (.int .i64 20)))), (1, (1, (.c (.int .i64 40))))]), none⟩, ⟨(some 18), (.build [(.int .i64 0), (.int .i64 0)] [(0, (1, (.c (.int .i64 20)))), (1, (1, (.c (.int .i64 60))))]), none⟩, ⟨(some 19), (.build [(.int .i64 0), (.int .i64 0), (.int .i64 0), (.int .i64 0), (.int .i64 0)] [(0, (2, (.t 17))), (2, (2, (.t 18))), (4, (1, (.c (.int .i64 250))))]), none⟩, ⟨(some 20), (.blist 5 [(.int .i64 0), (.int .i64 0), (.int .i64 0), (.int .i64 0), (.int .i64 0)] 1 [(0, (.t 19))]), none⟩, ⟨(some 21), (.faddr 2 (.t 1)), none⟩, ⟨none, (.store 1 (.t 21) (.t 20)), none⟩]) (.seq (.ops [⟨(some 23), (.load true 6 (.t 1)), none⟩, ⟨(some 24), (.call (.c (.fn 25 [])) [(.t 23), (.c (.int .i64 0)), (.c (.int .i64 1))]), none⟩, ⟨(some 22), (.mov (.t 24)), none⟩, ⟨(some 25), (.extract (.t 22) 0), none⟩, ⟨(some 26), (.extract (.t 22) 1), none⟩, ⟨(some 4), (.mov (.t 25)), none⟩, ⟨(some 5), (.mov (.t 26)), none⟩]) (.seq (.drawn [(⟨(some 27), (.mov (.t 3)), none⟩, ⟨.pure, [], 0, 0⟩), (⟨(some 28), (.bin .eql (.t 27) (.c (.int .i64 0))), none⟩, ⟨.pure, [], 0, 0⟩), (⟨(some 29), (.mov (.t 28)), none⟩, ⟨.pure, [], 0, 0⟩), (⟨(some 30), (.mov (.t 5)), (some (29, true))⟩, ⟨.pure, [], 0, 0⟩), (⟨(some 31), (.bin .eql (.t 30) (.c (.int .i64 0))), (some (29, true))⟩, ⟨.pure, [], 0, 0⟩), (⟨(some 32), (.pick (.t 29) (.t 31) (.c (.bool false))), none⟩, ⟨.pure, [], 0, 0⟩), (⟨(some 33), (.mov (.t 32)), none⟩, ⟨.pure, [], 0, 0⟩), (⟨(some 34), (.mov (.t 2)), (some (33, true))⟩, ⟨.pure, [], 0, 0⟩), (⟨(some 35), (.bin .eql (.t 34) (.c (.int .i64 10000))), (some (33, true))⟩, ⟨.pure, [], 0, 0⟩), (⟨(some 36), (.pick (.t 33) (.t 35) (.c (.bool false))), none⟩, ⟨.pure, [], 0, 0⟩), (⟨(some 37), (.mov (.t 36)), none⟩, ⟨.pure, [], 0, 0⟩), (⟨(some 38), (.mov (.t 4)), (some (37, true))⟩, ⟨.pure, [], 0, 0⟩), (⟨(some 39), (.bin .eql (.t 38) (.c (.int .i64 277))), (some (37, true))⟩, ⟨.pure, [], 0, 0⟩), (⟨(some 40), (.pick (.t 37) (.t 39) (.c (.bool false))), none⟩, ⟨.pure, [], 0, 0⟩), (⟨(some 41), (.mov (.t 40)), none⟩, ⟨.pure, [], 0, 0⟩), (⟨(some 42), (.load true 6 (.t 1)), (some (41, true))⟩, ⟨.bar, [], 0, 0⟩), (⟨(some 43), (.call (.c (.fn 23 [])) [(.t 42)]), (some (41, true))⟩, ⟨.bar, [], 0, 0⟩), (⟨(some 44), (.bin .eql (.t 43) (.c (.int .i64 0))), (some (41, true))⟩, ⟨.pure, [], 0, 0⟩), (⟨(some 45), (.pick (.t 41) (.t 44) (.c (.bool false))), none⟩, ⟨.pure, [], 0, 0⟩), (⟨(some 46), (.mov (.t 45)), none⟩, ⟨.pure, [], 0, 0⟩), (⟨(some 47), (.faddr 0 (.t 1)), (some (46, true))⟩, ⟨.seg, [], 0, 0⟩), (⟨(some 48), (.load false 1 (.t 47)), (some (46, true))⟩, ⟨.seg, [], 0, 0⟩), (⟨(some 49), (.iaddrS 2 (.t 48) (.c (.int .i64 0))), (some (46, true))⟩, ⟨.seg, [], 0, 0⟩), (⟨(some 50), (.load true 2 (.t 49)), (some (46, true))⟩, ⟨.seg, [], 0, 0⟩), (⟨(some 51), (.faddr 0 (.t 1)), (some (46, true))⟩, ⟨.seg, [], 0, 0⟩), (⟨(some 52), (.load false 1 (.t 51)), (some (46, true))⟩, ⟨.seg, [], 0, 0⟩), (⟨(some 53), (.iaddrS 2 (.t 52) (.c (.int .i64 1))), (some (46, true))⟩, ⟨.seg, [], 0, 0⟩), (⟨(some 54), (.load true 2 (.t 53)), (some (46, true))⟩, ⟨.seg, [], 0, 0⟩), (⟨(some 55), (.call (.c (.fn 13 [])) [(.t 50), (.t 54)]), (some (46, true))⟩, ⟨.bar, [], 0, 0⟩), (⟨(some 56), (.bin .eql (.t 55) (.c (.int .i64 900))), (some (46, true))⟩, ⟨.pure, [], 0, 0⟩), (⟨(some 57), (.pick (.t 46) (.t 56) (.c (.bool false))), none⟩, ⟨.pure, [], 0, 0⟩), (⟨(some 58), (.mov (.t 57)), none⟩, ⟨.pure, [], 0, 0⟩), (⟨(some 59), (.faddr 0 (.t 1)), (some (58, true))⟩, ⟨.seg, [], 0, 0⟩), (⟨(some 60), (.load false 1 (.t 59)), (some (58, true))⟩, ⟨.seg, [], 0, 0⟩), (⟨(some 61), (.iaddrS 2 (.t 60) (.c (.int .i64 0))), (some (58, true))⟩, ⟨.seg, [], 0, 0⟩), (⟨(some 62), (.load true 2 (.t 61)), (some (58, true))⟩, ⟨.seg, [], 0, 0⟩), (⟨(some 63), (.faddr 0 (.t 1)), (some (58, true))⟩, ⟨.seg, [], 0, 0⟩), (⟨(some 64), (.load false 1 (.t 63)), (some (58, true))⟩, ⟨.seg, [], 0, 0⟩), (⟨(some 65), (.iaddrS 2 (.t 64) (.c (.int .i64 1))), (some (58, true))⟩, ⟨.seg, [], 0, 0⟩), (⟨(some 66), (.load true 2 (.t 65)), (some (58, true))⟩, ⟨.seg, [], 0, 0⟩), (⟨(some 67), (.faddr 2 (.t 1)), (some (58, true))⟩, ⟨.seg, [], 0, 0⟩), (⟨(some 68), (.load false 1 (.t 67)), (some (58, true))⟩, ⟨.seg, [], 0, 0⟩), (⟨(some 69), (.iaddrS 5 (.t 68) (.c (.int .i64 0))), (some (58, true))⟩, ⟨.seg, [], 0, 0⟩), (⟨(some 70), (.load true 5 (.t 69)), (some (58, true))⟩, ⟨.seg, [], 0, 0⟩), (⟨(some 71), (.call (.c (.fn 15 [])) [(.t 62), (.t 66), (.t 70)]), (some (58, true))⟩, ⟨.bar, [], 0, 0⟩), (⟨(some 72), (.pick (.t 58) (.t 71) (.c (.bool false))), none⟩, ⟨.pure, [], 0, 0⟩), (⟨(some 0), (.mov (.t 72)), none⟩, ⟨.pure, [], 0, 0⟩)]) .ret))))))), false⟩
theorem e11 : T 11 = some c11 := by kernel_rfl
/- 12: hopmesh/hopmeshlaw05.near -/
def c12 : Fun1 := ⟨[(.tmp 2)], (.seq (.ops [⟨(some 2), (.mov (.c (.bool false))), none⟩]) (.seq (.ops [⟨(some 3), (.mov (.t 0)), none⟩, ⟨(some 4), (.call (.c (.fn 38 [])) [(.t 3), (.c (.fn 39 []))]), none⟩, ⟨(some 5), (.notB (.t 4)), none⟩, ⟨(some 2), (.mov (.t 5)), none⟩]) .ret)), false⟩
theorem e12 : T 12 = some c12 := by kernel_rfl
/- 13: hopmesh/geometry.Square -/
def c13 : Fun1 := ⟨[(.tmp 4)], (.seq (.ops [⟨(some 2), (.box (.t 0)), none⟩, ⟨(some 3), (.box (.t 1)), none⟩, ⟨(some 4), (.mov (.c (.int .i64 0))), none⟩]) (.seq (.drawn [(⟨(some 7), (.faddr 0 (.t 2)), none⟩, ⟨.seg, [], 0, 0⟩), (⟨(some 8), (.load false 1 (.t 7)), none⟩, ⟨.seg, [], 0, 0⟩), (⟨(some 9), (.faddr 0 (.t 3)), none⟩, ⟨.seg, [], 0, 0⟩), (⟨(some 10), (.load false 1 (.t 9)), none⟩, ⟨.seg, [], 0, 0⟩), (⟨(some 11), (.bin .sub (.t 8) (.t 10)), none⟩, ⟨.pure, [], 0, 0⟩), (⟨(some 12), (.faddr 1 (.t 2)), none⟩, ⟨.seg, [], 0, 0⟩), (⟨(some 13), (.load false 1 (.t 12)), none⟩, ⟨.seg, [], 0, 0⟩), (⟨(some 14), (.faddr 1 (.t 3)), none⟩, ⟨.seg, [], 0, 0⟩), (⟨(some 15), (.load false 1 (.t 14)), none⟩, ⟨.seg, [], 0, 0⟩), (⟨(some 16), (.bin .sub (.t 13) (.t 15)), none⟩, ⟨.pure, [], 0, 0⟩), (⟨(some 5), (.mov (.t 11)), none⟩, ⟨.pure, [], 0, 0⟩), (⟨(some 6), (.mov (.t 16)), none⟩, ⟨.pure, [], 0, 0⟩)]) (.seq (.ops [⟨(some 17), (.mov (.t 5)), none⟩, ⟨(some 18), (.mov (.t 5)), none⟩, ⟨(some 19), (.bin .mul (.t 17) (.t 18)), none⟩, ⟨(some 20), (.mov (.t 6)), none⟩, ⟨(some 21), (.mov (.t 6)), none⟩, ⟨(some 22), (.bin .mul (.t 20) (.t 21)), none⟩, ⟨(some 23), (.bin .add (.t 19) (.t 22)), none⟩, ⟨(some 4), (.mov (.t 23)), none⟩]) .ret))), false⟩
theorem e13 : T 13 = some c13 := by kernel_rfl
/- 14: hopmesh/hopmeshref05.Square -/
def c14 : Fun1 := ⟨[(.tmp 4)], (.seq (.ops [⟨(some 2), (.box (.t 0)), none⟩, ⟨(some 3), (.box (.t 1)), none⟩, ⟨(some 4), (.mov (.c (.int .i64 0))), none⟩]) (.seq (.ops [⟨(some 5), (.faddr 0 (.t 2)), none⟩, ⟨(some 6), (.load false 1 (.t 5)), none⟩, ⟨(some 7), (.faddr 0 (.t 3)), none⟩, ⟨(some 8), (.load false 1 (.t 7)), none⟩, ⟨(some 9), (.bin .sub (.t 6) (.t 8)), none⟩, ⟨(some 10), (.faddr 0 (.t 2)), none⟩, ⟨(some 11), (.load false 1 (.t 10)), none⟩, ⟨(some 12), (.faddr 0 (.t 3)), none⟩, ⟨(some 13), (.load false 1 (.t 12)), none⟩, ⟨(some 14), (.bin .sub (.t 11) (.t 13)), none⟩, ⟨(some 15), (.bin .mul (.t 9) (.t 14)), none⟩, ⟨(some 16), (.faddr 1 (.t 2)), none⟩, ⟨(some 17), (.load false 1 (.t 16)), none⟩, ⟨(some 18), (.faddr 1 (.t 3)), none⟩, ⟨(some 19), (.load false 1 (.t 18)), none⟩, ⟨(some 20), (.bin .sub (.t 17) (.t 19)), none⟩, ⟨(some 21), (.faddr 1 (.t 2)), none⟩, ⟨(some 22), (.load false 1 (.t 21)), none⟩, ⟨(some 23), (.faddr 1 (.t 3)), none⟩, ⟨(some 24), (.load false 1 (.t 23)), none⟩, ⟨(some 25), (.bin .sub (.t 22) (.t 24)), none⟩, ⟨(some 26), (.bin .mul (.t 20) (.t 25)), none⟩, ⟨(some 27), (.bin .add (.t 15) (.t 26)), none⟩, ⟨(some 4), (.mov (.t 27)), none⟩]) .ret)), false⟩
theorem e14 : T 14 = some c14 := by kernel_rfl
/- 15: hopmesh/geometry.Crosses -/
def c15 : Fun1 := ⟨[(.tmp 6)], (.seq (.ops [⟨(some 3), (.box (.t 0)), none⟩, ⟨(some 4), (.box (.t 1)), none⟩, ⟨(some 5), (.box (.t 2)), none⟩, ⟨(some 6), (.mov (.c (.bool false))), none⟩]) (.seq (.seq (.ops [⟨(some 7), (.faddr 0 (.t 5)), none⟩, ⟨(some 8), (.load true 2 (.t 7)), none⟩, ⟨(some 9), (.load true 2 (.t 3)), none⟩, ⟨(some 10), (.load true 2 (.t 4)), none⟩, ⟨(some 11), (.call (.c (.fn 40 [])) [(.t 8), (.t 9), (.t 10)]), none⟩, ⟨(some 12), (.mov (.t 11)), none⟩, ⟨(some 13), (.faddr 2 (.t 5)), (some (12, false))⟩, ⟨(some 14), (.load true 2 (.t 13)), (some (12, false))⟩, ⟨(some 15), (.load true 2 (.t 3)), (some (12, false))⟩, ⟨(some 16), (.load true 2 (.t 4)), (some (12, false))⟩, ⟨(some 17), (.call (.c (.fn 40 [])) [(.t 14), (.t 15), (.t 16)]), (some (12, false))⟩, ⟨(some 18), (.pick (.t 12) (.c (.bool true)) (.t 17)), none⟩, ⟨(some 19), (.mov (.t 18)), none⟩, ⟨(some 20), (.load true 2 (.t 3)), (some (19, false))⟩, ⟨(some 21), (.faddr 0 (.t 5)), (some (19, false))⟩, ⟨(some 22), (.load true 2 (.t 21)), (some (19, false))⟩, ⟨(some 23), (.faddr 2 (.t 5)), (some (19, false))⟩, ⟨(some 24), (.load true 2 (.t 23)), (some (19, false))⟩, ⟨(some 25), (.call (.c (.fn 40 [])) [(.t 20), (.t 22), (.t 24)]), (some (19, false))⟩, ⟨(some 26), (.pick (.t 19) (.c (.bool true)) (.t 25)), none⟩, ⟨(some 27), (.mov (.t 26)), none⟩, ⟨(some 28), (.load true 2 (.t 4)), (some (27, false))⟩, ⟨(some 29), (.faddr 0 (.t 5)), (some (27, false))⟩, ⟨(some 30), (.load true 2 (.t 29)), (some (27, false))⟩, ⟨(some 31), (.faddr 2 (.t 5)), (some (27, false))⟩, ⟨(some 32), (.load true 2 (.t 31)), (some (27, false))⟩, ⟨(some 33), (.call (.c (.fn 40 [])) [(.t 28), (.t 30), (.t 32)]), (some (27, false))⟩, ⟨(some 34), (.pick (.t 27) (.c (.bool true)) (.t 33)), none⟩]) (.cond (.t 34) (.seq (.ops [⟨(some 6), (.mov (.c (.bool true))), none⟩]) .ret) .skip)) (.seq (.drawn [(⟨(some 35), (.load true 2 (.t 3)), none⟩, ⟨.seg, [], 0, 0⟩), (⟨(some 36), (.load true 2 (.t 4)), none⟩, ⟨.seg, [], 0, 0⟩), (⟨(some 37), (.faddr 0 (.t 5)), none⟩, ⟨.seg, [], 0, 0⟩), (⟨(some 38), (.load true 2 (.t 37)), none⟩, ⟨.seg, [], 0, 0⟩), (⟨(some 39), (.call (.c (.fn 41 [])) [(.t 35), (.t 36), (.t 38)]), none⟩, ⟨.seg, [], 0, 0⟩), (⟨(some 40), (.load true 2 (.t 3)), none⟩, ⟨.seg, [], 0, 0⟩), (⟨(some 41), (.load true 2 (.t 4)), none⟩, ⟨.seg, [], 0, 0⟩), (⟨(some 42), (.faddr 2 (.t 5)), none⟩, ⟨.seg, [], 0, 0⟩), (⟨(some 43), (.load true 2 (.t 42)), none⟩, ⟨.seg, [], 0, 0⟩), (⟨(some 44), (.call (.c (.fn 41 [])) [(.t 40), (.t 41), (.t 43)]), none⟩, ⟨.bar, [], 0, 0⟩), (⟨(some 45), (.bin .mul (.t 39) (.t 44)), none⟩, ⟨.pure, [], 0, 0⟩), (⟨(some 46), (.bin .lss (.t 45) (.c (.int .i64 0))), none⟩, ⟨.pure, [], 0, 0⟩), (⟨(some 47), (.mov (.t 46)), none⟩, ⟨.pure, [], 0, 0⟩), (⟨(some 48), (.faddr 0 (.t 5)), (some (47, true))⟩, ⟨.seg, [], 0, 0⟩), (⟨(some 49), (.load true 2 (.t 48)), (some (47, true))⟩, ⟨.seg, [], 0, 0⟩), (⟨(some 50), (.faddr 2 (.t 5)), (some (47, true))⟩, ⟨.seg, [], 0, 0⟩), (⟨(some 51), (.load true 2 (.t 50)), (some (47, true))⟩, ⟨.seg, [], 0, 0⟩), (⟨(some 52), (.load true 2 (.t 3)), (some (47, true))⟩, ⟨.seg, [], 0, 0⟩), (⟨(some 53), (.call (.c (.fn 41 [])) [(.t 49), (.t 51), (.t 52)]), (some (47, true))⟩, ⟨.seg, [], 0, 0⟩), (⟨(some 54), (.faddr 0 (.t 5)), (some (47, true))⟩, ⟨.seg, [], 0, 0⟩), (⟨(some 55), (.load true 2 (.t 54)), (some (47, true))⟩, ⟨.seg, [], 0, 0⟩), (⟨(some 56), (.faddr 2 (.t 5)), (some (47, true))⟩, ⟨.seg, [], 0, 0⟩), (⟨(some 57), (.load true 2 (.t 56)), (some (47, true))⟩, ⟨.seg, [], 0, 0⟩), (⟨(some 58), (.load true 2 (.t 4)), (some (47, true))⟩, ⟨.seg, [], 0, 0⟩), (⟨(some 59), (.call (.c (.fn 41 [])) [(.t 55), (.t 57), (.t 58)]), (some (47, true))⟩, ⟨.bar, [], 0, 0⟩), (⟨(some 60), (.bin .mul (.t 53) (.t 59)), (some (47, true))⟩, ⟨.pure, [], 0, 0⟩), (⟨(some 61), (.bin .lss (.t 60) (.c (.int .i64 0))), (some (47, true))⟩, ⟨.pure, [], 0, 0⟩), (⟨(some 62), (.pick (.t 47) (.t 61) (.c (.bool false))), none⟩, ⟨.pure, [], 0, 0⟩), (⟨(some 6), (.mov (.t 62)), none⟩, ⟨.pure, [], 0, 0⟩)]) .ret))), false⟩
theorem e15 : T 15 = some c15 := by kernel_rfl
/- 16: hopmesh/hopmeshref05.Crosses -/
def c16 : Fun1 := ⟨[(.tmp 6)], (.seq (.ops [⟨(some 3), (.box (.t 0)), none⟩, ⟨(some 4), (.box (.t 1)), none⟩, ⟨(some 5), (.box (.t 2)), none⟩, ⟨(some 6), (.mov (.c (.bool false))), none⟩]) (.seq (.drawn [(⟨(some 11), (.load true 2 (.t 3)), none⟩, ⟨.seg, [], 0, 0⟩), (⟨(some 12), (.load true 2 (.t 4)), none⟩, ⟨.seg, [], 0, 0⟩), (⟨(some 13), (.faddr 0 (.t 5)), none⟩, ⟨.seg, [], 0, 0⟩), (⟨(some 14), (.load true 2 (.t 13)), none⟩, ⟨.seg, [], 0, 0⟩), (⟨(some 15), (.call (.c (.fn 42 [])) [(.t 11), (.t 12), (.t 14)]), none⟩, ⟨.seg, [], 0, 0⟩), (⟨(some 16), (.load true 2 (.t 3)), none⟩, ⟨.seg, [], 0, 0⟩), (⟨(some 17), (.load true 2 (.t 4)), none⟩, ⟨.seg, [], 0, 0⟩), (⟨(some 18), (.faddr 2 (.t 5)), none⟩, ⟨.seg, [], 0, 0⟩), (⟨(some 19), (.load true 2 (.t 18)), none⟩, ⟨.seg, [], 0, 0⟩), (⟨(some 20), (.call (.c (.fn 42 [])) [(.t 16), (.t 17), (.t 19)]), none⟩, ⟨.bar, [], 0, 0⟩), (⟨(some 7), (.mov (.t 15)), none⟩, ⟨.pure, [], 0, 0⟩), (⟨(some 8), (.mov (.t 20)), none⟩, ⟨.pure, [], 0, 0⟩)]) (.seq (.drawn [(⟨(some 21), (.faddr 0 (.t 5)), none⟩, ⟨.seg, [], 0, 0⟩), (⟨(some 22), (.load true 2 (.t 21)), none⟩, ⟨.seg, [], 0, 0⟩), (⟨(some 23), (.faddr 2 (.t 5)), none⟩, ⟨.seg, [], 0, 0⟩), (⟨(some 24), (.load true 2 (.t 23)), none⟩, ⟨.seg, [], 0, 0⟩), (⟨(some 25), (.load true 2 (.t 3)), none⟩, ⟨.seg, [], 0, 0⟩), (⟨(some 26), (.call (.c (.fn 42 [])) [(.t 22), (.t 24), (.t 25)]), none⟩, ⟨.seg, [], 0, 0⟩), (⟨(some 27), (.faddr 0 (.t 5)), none⟩, ⟨.seg, [], 0, 0⟩), (⟨(some 28), (.load true 2 (.t 27)), none⟩, ⟨.seg, [], 0, 0⟩), (⟨(some 29), (.faddr 2 (.t 5)), none⟩, ⟨.seg, [], 0, 0⟩), (⟨(some 30), (.load true 2 (.t 29)), none⟩, ⟨.seg, [], 0, 0⟩), (⟨(some 31), (.load true 2 (.t 4)), none⟩, ⟨.seg, [], 0, 0⟩), (⟨(some 32), (.call (.c (.fn 42 [])) [(.t 28), (.t 30), (.t 31)]), none⟩, ⟨.bar, [], 0, 0⟩), (⟨(some 9), (.mov (.t 26)), none⟩, ⟨.pure, [], 0, 0⟩), (⟨(some 10), (.mov (.t 32)), none⟩, ⟨.pure, [], 0, 0⟩)]) (.seq (.seq (.ops [⟨(some 33), (.mov (.t 7)), none⟩, ⟨(some 34), (.mov (.t 8)), none⟩, ⟨(some 35), (.bin .mul (.t 33) (.t 34)), none⟩, ⟨(some 36), (.bin .lss (.t 35) (.c (.int .i64 0))), none⟩, ⟨(some 37), (.mov (.t 36)), none⟩, ⟨(some 38), (.mov (.t 9)), (some (37, true))⟩, ⟨(some 39), (.mov (.t 10)), (some (37, true))⟩, ⟨(some 40), (.bin .mul (.t 38) (.t 39)), (some (37, true))⟩, ⟨(some 41), (.bin .lss (.t 40) (.c (.int .i64 0))), (some (37, true))⟩, ⟨(some 42), (.pick (.t 37) (.t 41) (.c (.bool false))), none⟩]) (.cond (.t 42) (.seq (.ops [⟨(some 6), (.mov (.c (.bool true))), none⟩]) .ret) .skip)) (.seq (.ops [⟨(some 43), (.mov (.t 7)), none⟩, ⟨(some 44), (.bin .eql (.t 43) (.c (.int .i64 0))), none⟩, ⟨(some 45), (.mov (.t 44)), none⟩, ⟨(some 46), (.load true 2 (.t 3)), (some (45, true))⟩, ⟨(some 47), (.load true 2 (.t 4)), (some (45, true))⟩, ⟨(some 48), (.faddr 0 (.t 5)), (some (45, true))⟩, ⟨(some 49), (.load true 2 (.t 48)), (some (45, true))⟩, ⟨(some 50), (.call (.c (.fn 43 [])) [(.t 46), (.t 47), (.t 49)]), (some (45, true))⟩, ⟨(some 51), (.pick (.t 45) (.t 50) (.c (.bool false))), none⟩, ⟨(some 52), (.mov (.t 51)), none⟩, ⟨(some 53), (.mov (.t 8)), (some (52, false))⟩, ⟨(some 54), (.bin .eql (.t 53) (.c (.int .i64 0))), (some (52, false))⟩, ⟨(some 55), (.mov (.t 54)), (some (52, false))⟩, ⟨(some 56), (.load true 2 (.t 3)), (some (55, true))⟩, ⟨(some 57), (.load true 2 (.t 4)), (some (55, true))⟩, ⟨(some 58), (.faddr 2 (.t 5)), (some (55, true))⟩, ⟨(some 59), (.load true 2 (.t 58)), (some (55, true))⟩, ⟨(some 60), (.call (.c (.fn 43 [])) [(.t 56), (.t 57), (.t 59)]), (some (55, true))⟩, ⟨(some 61), (.pick (.t 55) (.t 60) (.c (.bool false))), (some (52, false))⟩, ⟨(some 62), (.pick (.t 52) (.c (.bool true)) (.t 61)), none⟩, ⟨(some 63), (.mov (.t 62)), none⟩, ⟨(some 64), (.mov (.t 9)), (some (63, false))⟩, ⟨(some 65), (.bin .eql (.t 64) (.c (.int .i64 0))), (some (63, false))⟩, ⟨(some 66), (.mov (.t 65)), (some (63, false))⟩, ⟨(some 67), (.faddr 0 (.t 5)), (some (66, true))⟩, ⟨(some 68), (.load true 2 (.t 67)), (some (66, true))⟩, ⟨(some 69), (.faddr 2 (.t 5)), (some (66, true))⟩, ⟨(some 70), (.load true 2 (.t 69)), (some (66, true))⟩, ⟨(some 71), (.load true 2 (.t 3)), (some (66, true))⟩, ⟨(some 72), (.call (.c (.fn 43 [])) [(.t 68), (.t 70), (.t 71)]), (some (66, true))⟩, ⟨(some 73), (.pick (.t 66) (.t 72) (.c (.bool false))), (some (63, false))⟩, ⟨(some 74), (.pick (.t 63) (.c (.bool true)) (.t 73)), none⟩, ⟨(some 75), (.mov (.t 74)), none⟩, ⟨(some 76), (.mov (.t 10)), (some (75, false))⟩, ⟨(some 77), (.bin .eql (.t 76) (.c (.int .i64 0))), (some (75, false))⟩, ⟨(some 78), (.mov (.t 77)), (some (75, false))⟩, ⟨(some 79), (.faddr 0 (.t 5)), (some (78, true))⟩, ⟨(some 80), (.load true 2 (.t 79)), (some (78, true))⟩, ⟨(some 81), (.faddr 2 (.t 5)), (some (78, true))⟩, ⟨(some 82), (.load true 2 (.t 81)), (some (78, true))⟩, ⟨(some 83), (.load true 2 (.t 4)), (some (78, true))⟩, ⟨(some 84), (.call (.c (.fn 43 [])) [(.t 80), (.t 82), (.t 83)]), (some (78, true))⟩, ⟨(some 85), (.pick (.t 78) (.t 84) (.c (.bool false))), (some (75, false))⟩, ⟨(some 86), (.pick (.t 75) (.c (.bool true)) (.t 85)), none⟩, ⟨(some 6), (.mov (.t 86)), none⟩]) .ret))))), false⟩
theorem e16 : T 16 = some c16 := by kernel_rfl
/- 17: hopmesh/hopmeshlaw05.GeometryMoves$1 -/
def c17 : Fun1 := ⟨[(.cell 3 true 2)], (.seq (.ops [⟨(some 2), (.box (.t 0)), none⟩, ⟨(some 3), (.alloc [(.int .i64 0), (.int .i64 0)]), none⟩]) (.seq (.ops [⟨(some 4), (.faddr 0 (.t 2)), none⟩, ⟨(some 5), (.load false 1 (.t 4)), none⟩, ⟨(some 6), (.faddr 0 (.t 1)), none⟩, ⟨(some 7), (.load false 1 (.t 6)), none⟩, ⟨(some 8), (.bin .sub (.t 5) (.t 7)), none⟩, ⟨(some 9), (.faddr 1 (.t 2)), none⟩, ⟨(some 10), (.load false 1 (.t 9)), none⟩, ⟨(some 11), (.faddr 1 (.t 1)), none⟩, ⟨(some 12), (.load false 1 (.t 11)), none⟩, ⟨(some 13), (.bin .add (.t 10) (.t 12)), none⟩, ⟨(some 14), (.build [(.int .i64 0), (.int .i64 0)] [(0, (1, (.t 8))), (1, (1, (.t 13)))]), none⟩, ⟨none, (.store 2 (.t 3) (.t 14)), none⟩]) .ret)), false⟩
theorem e17 : T 17 = some c17 := by kernel_rfl
/- 18: hopmesh/hopmeshlaw05.GeometryMoves$2 -/
def c18 : Fun1 := ⟨[(.cell 2 true 2)], (.seq (.ops [⟨(some 1), (.box (.t 0)), none⟩, ⟨(some 2), (.alloc [(.int .i64 0), (.int .i64 0)]), none⟩]) (.seq (.ops [⟨(some 3), (.faddr 1 (.t 1)), none⟩, ⟨(some 4), (.load false 1 (.t 3)), none⟩, ⟨(some 5), (.faddr 0 (.t 1)), none⟩, ⟨(some 6), (.load false 1 (.t 5)), none⟩, ⟨(some 7), (.build [(.int .i64 0), (.int .i64 0)] [(0, (1, (.t 4))), (1, (1, (.t 6)))]), none⟩, ⟨none, (.store 2 (.t 2) (.t 7)), none⟩]) .ret)), false⟩
theorem e18 : T 18 = some c18 := by kernel_rfl
/- 19: hopmesh/hopmeshlaw05.GeometryMoves$3 -/
def c19 : Fun1 := ⟨[(.cell 5 true 5)], (.seq (.ops [⟨(some 3), (.box (.t 0)), none⟩, ⟨(some 4), (.box (.t 1)), none⟩, ⟨(some 5), (.alloc [(.int .i64 0), (.int .i64 0), (.int .i64 0), (.int .i64 0), (.int .i64 0)]), none⟩]) (.seq (.ops [⟨(some 6), (.load true 2 (.t 3)), none⟩, ⟨(some 7), (.load true 2 (.t 4)), none⟩, ⟨(some 8), (.faddr 4 (.t 2)), none⟩, ⟨(some 9), (.load false 1 (.t 8)), none⟩, ⟨(some 10), (.build [(.int .i64 0), (.int .i64 0), (.int .i64 0), (.int .i64 0), (.int .i64 0)] [(0, (2, (.t 6))), (2, (2, (.t 7))), (4, (1, (.t 9)))]), none⟩, ⟨none, (.store 5 (.t 5) (.t 10)), none⟩]) .ret)), false⟩
theorem e19 : T 19 = some c19 := by kernel_rfl
/- 20: hopmesh/hopmeshref05.Few -/
def c20 : Fun1 := ⟨[(.tmp 2)], (.seq (.ops [⟨(some 1), (.box (.t 0)), none⟩, ⟨(some 2), (.mov (.c (.bool false))), none⟩]) (.seq (.ops [⟨(some 3), (.faddr 0 (.t 1)), none⟩, ⟨(some 4), (.load false 1 (.t 3)), none⟩, ⟨(some 5), (.len (.t 4)), none⟩, ⟨(some 6), (.bin .leq (.t 5) (.c (.int .i64 40))), none⟩, ⟨(some 7), (.mov (.t 6)), none⟩, ⟨(some 8), (.faddr 1 (.t 1)), (some (7, true))⟩, ⟨(some 9), (.load false 1 (.t 8)), (some (7, true))⟩, ⟨(some 10), (.len (.t 9)), (some (7, true))⟩, ⟨(some 11), (.bin .leq (.t 10) (.c (.int .i64 40))), (some (7, true))⟩, ⟨(some 12), (.pick (.t 7) (.t 11) (.c (.bool false))), none⟩, ⟨(some 13), (.mov (.t 12)), none⟩, ⟨(some 14), (.faddr 2 (.t 1)), (some (13, true))⟩, ⟨(some 15), (.load false 1 (.t 14)), (some (13, true))⟩, ⟨(some 16), (.len (.t 15)), (some (13, true))⟩, ⟨(some 17), (.bin .leq (.t 16) (.c (.int .i64 40))), (some (13, true))⟩, ⟨(some 18), (.pick (.t 13) (.t 17) (.c (.bool false))), none⟩, ⟨(some 2), (.mov (.t 18)), none⟩]) .ret)), false⟩
theorem e20 : T 20 = some c20 := by kernel_rfl
/- 21: hopmesh/geometry.At -/
def c21 : Fun1 := ⟨[(.tmp 8), (.tmp 9)], (.seq (.ops [⟨(some 4), (.box (.t 0)), none⟩, ⟨(some 5), (.box (.t 1)), none⟩, ⟨(some 7), (.box (.t 3)), none⟩, ⟨(some 8), (.mov (.c (.int .i64 0))), none⟩, ⟨(some 9), (.mov (.c (.int .i64 0))), none⟩]) (.seq (.block 0 (.seq (.ops [⟨(some 11), (.load true 6 (.t 4)), none⟩, ⟨(some 12), (.call (.c (.fn 23 [])) [(.t 11)]), none⟩, ⟨(some 13), (.bin .neq (.t 12) (.c (.int .i64 0))), none⟩, ⟨(some 10), (.mov (.t 13)), none⟩]) (.cond (.t 10) (.seq (.ops [⟨(some 8), (.mov (.c (.int .i64 0))), none⟩, ⟨(some 9), (.mov (.c (.int .i64 1))), none⟩]) .ret) (.seq (.ops [⟨(some 15), (.load true 2 (.t 5)), none⟩, ⟨(some 16), (.call (.c (.fn 44 [])) [(.t 15)]), none⟩, ⟨(some 17), (.notB (.t 16)), none⟩, ⟨(some 18), (.mov (.t 17)), none⟩, ⟨(some 19), (.load true 2 (.t 7)), (some (18, false))⟩, ⟨(some 20), (.call (.c (.fn 44 [])) [(.t 19)]), (some (18, false))⟩, ⟨(some 21), (.notB (.t 20)), (some (18, false))⟩, ⟨(some 22), (.pick (.t 18) (.c (.bool true)) (.t 21)), none⟩, ⟨(some 23), (.mov (.t 22)), none⟩, ⟨(some 24), (.mov (.t 2)), (some (23, false))⟩, ⟨(some 25), (.call (.c (.fn 45 [])) [(.t 24)]), (some (23, false))⟩, ⟨(some 26), (.notB (.t 25)), (some (23, false))⟩, ⟨(some 27), (.pick (.t 23) (.c (.bool true)) (.t 26)), none⟩, ⟨(some 14), (.mov (.t 27)), none⟩]) (.cond (.t 14) (.seq (.ops [⟨(some 8), (.mov (.c (.int .i64 0))), none⟩, ⟨(some 9), (.mov (.c (.int .i64 2))), none⟩]) .ret) .skip))))) (.seq (.ops [⟨(some 28), (.load true 6 (.t 4)), none⟩, ⟨(some 29), (.load true 2 (.t 5)), none⟩, ⟨(some 30), (.mov (.t 2)), none⟩, ⟨(some 31), (.load true 2 (.t 7)), none⟩, ⟨(some 32), (.call (.c (.fn 46 [])) [(.t 28), (.t 29), (.t 30), (.t 31)]), none⟩, ⟨(some 8), (.mov (.t 32)), none⟩, ⟨(some 9), (.mov (.c (.int .i64 0))), none⟩]) .ret))), false⟩
theorem e21 : T 21 = some c21 := by kernel_rfl
/- 22: slices.Clone[[]hopmesh/api.Wall,hopmesh/api.Wall] -/
def c22 : Fun1 := ⟨[(.tmp 2)], (.seq (.ops [⟨(some 2), (.mov (.c (.lst 0 [] true))), none⟩]) (.seq (.seq (.ops [⟨(some 3), (.mov (.t 0)), none⟩]) (.amb 4 false (.t 3) (.cond (.t 4) (.seq (.seq (.ops [⟨(some 2), (.mov (.c (.lst 0 [] true))), none⟩]) (.virt [(2, 5)])) .ret) .skip))) (.seq (.ops [⟨(some 5), (.blist 5 [(.int .i64 0), (.int .i64 0), (.int .i64 0), (.int .i64 0), (.int .i64 0)] 0 []), none⟩, ⟨(some 6), (.mov (.t 0)), none⟩, ⟨(some 7), (.append 5 40 (.t 5) (.t 6)), none⟩, ⟨(some 2), (.mov (.t 7)), none⟩]) .ret))), false⟩
theorem e22 : T 22 = some c22 := by kernel_rfl
/- 23: hopmesh/geometry.Check -/
def c23 : Fun1 := ⟨[(.tmp 2)], (.seq (.ops [⟨(some 1), (.box (.t 0)), none⟩, ⟨(some 2), (.mov (.c (.int .i64 0))), none⟩]) (.seq (.ops [⟨(some 3), (.alloc [.nilFn]), none⟩, ⟨none, (.store 1 (.t 3) (.c (.fn 47 []))), none⟩]) (.seq (.seq (.ops [⟨(some 4), (.faddr 0 (.t 1)), none⟩, ⟨(some 5), (.load false 1 (.t 4)), none⟩, ⟨(some 6), (.len (.t 5)), none⟩, ⟨(some 7), (.bin .lss (.t 6) (.c (.int .i64 2))), none⟩, ⟨(some 8), (.mov (.t 7)), none⟩, ⟨(some 9), (.faddr 0 (.t 1)), (some (8, false))⟩, ⟨(some 10), (.load false 1 (.t 9)), (some (8, false))⟩, ⟨(some 11), (.len (.t 10)), (some (8, false))⟩, ⟨(some 12), (.bin .gtr (.t 11) (.c (.int .i64 32))), (some (8, false))⟩, ⟨(some 13), (.pick (.t 8) (.c (.bool true)) (.t 12)), none⟩, ⟨(some 14), (.mov (.t 13)), none⟩, ⟨(some 15), (.faddr 0 (.t 1)), (some (14, false))⟩, ⟨(some 16), (.load false 1 (.t 15)), (some (14, false))⟩, ⟨(some 17), (.load false 1 (.t 3)), (some (14, false))⟩, ⟨(some 18), (.call (.c (.fn 38 [])) [(.t 16), (.t 17)]), (some (14, false))⟩, ⟨(some 19), (.pick (.t 14) (.c (.bool true)) (.t 18)), none⟩]) (.cond (.t 19) (.seq (.ops [⟨(some 2), (.mov (.c (.int .i64 1))), none⟩]) .ret) .skip)) (.seq (.seq (.ops [⟨(some 20), (.faddr 1 (.t 1)), none⟩, ⟨(some 21), (.load false 1 (.t 20)), none⟩, ⟨(some 22), (.len (.t 21)), none⟩, ⟨(some 23), (.faddr 0 (.t 1)), none⟩, ⟨(some 24), (.load false 1 (.t 23)), none⟩, ⟨(some 25), (.len (.t 24)), none⟩, ⟨(some 26), (.bin .neq (.t 22) (.t 25)), none⟩, ⟨(some 27), (.mov (.t 26)), none⟩, ⟨(some 28), (.faddr 1 (.t 1)), (some (27, false))⟩, ⟨(some 29), (.load false 1 (.t 28)), (some (27, false))⟩, ⟨(some 30), (.call (.c (.fn 48 [])) [(.t 29), (.c (.fn 49 []))]), (some (27, false))⟩, ⟨(some 31), (.pick (.t 27) (.c (.bool true)) (.t 30)), none⟩]) (.cond (.t 31) (.seq (.ops [⟨(some 2), (.mov (.c (.int .i64 1))), none⟩]) .ret) .skip)) (.seq (.seq (.ops [⟨(some 32), (.faddr 2 (.t 1)), none⟩, ⟨(some 33), (.load false 1 (.t 32)), none⟩, ⟨(some 34), (.len (.t 33)), none⟩, ⟨(some 35), (.bin .gtr (.t 34) (.c (.int .i64 32))), none⟩, ⟨(some 36), (.mov (.t 35)), none⟩, ⟨(some 37), (.faddr 2 (.t 1)), (some (36, false))⟩, ⟨(some 38), (.load false 1 (.t 37)), (some (36, false))⟩, ⟨(some 39), (.mkfn 51 [(.t 3)]), (some (36, false))⟩, ⟨(some 40), (.call (.c (.fn 50 [])) [(.t 38), (.t 39)]), (some (36, false))⟩, ⟨(some 41), (.pick (.t 36) (.c (.bool true)) (.t 40)), none⟩]) (.cond (.t 41) (.seq (.ops [⟨(some 2), (.mov (.c (.int .i64 1))), none⟩]) .ret) .skip)) (.seq (.seq (.ops [⟨(some 42), (.faddr 3 (.t 1)), none⟩, ⟨(some 43), (.load false 1 (.t 42)), none⟩, ⟨(some 44), (.bin .neq (.t 43) (.c (.int .i64 2))), none⟩, ⟨(some 45), (.mov (.t 44)), none⟩, ⟨(some 46), (.faddr 3 (.t 1)), (some (45, true))⟩, ⟨(some 47), (.load false 1 (.t 46)), (some (45, true))⟩, ⟨(some 48), (.bin .neq (.t 47) (.c (.int .i64 4))), (some (45, true))⟩, ⟨(some 49), (.pick (.t 45) (.t 48) (.c (.bool false))), none⟩, ⟨(some 50), (.mov (.t 49)), none⟩, ⟨(some 51), (.faddr 5 (.t 1)), (some (50, false))⟩, ⟨(some 52), (.load false 1 (.t 51)), (some (50, false))⟩, ⟨(some 53), (.bin .lss (.t 52) (.c (.int .i64 1000))), (some (50, false))⟩, ⟨(some 54), (.pick (.t 50) (.c (.bool true)) (.t 53)), none⟩, ⟨(some 55), (.mov (.t 54)), none⟩, ⟨(some 56), (.faddr 5 (.t 1)), (some (55, false))⟩, ⟨(some 57), (.load false 1 (.t 56)), (some (55, false))⟩, ⟨(some 58), (.bin .gtr (.t 57) (.c (.int .i64 100000))), (some (55, false))⟩, ⟨(some 59), (.pick (.t 55) (.c (.bool true)) (.t 58)), none⟩, ⟨(some 60), (.mov (.t 59)), none⟩, ⟨(some 61), (.faddr 4 (.t 1)), (some (60, false))⟩, ⟨(some 62), (.load false 1 (.t 61)), (some (60, false))⟩, ⟨(some 63), (.bin .lss (.t 62) (.c (.int .i64 1))), (some (60, false))⟩, ⟨(some 64), (.pick (.t 60) (.c (.bool true)) (.t 63)), none⟩, ⟨(some 65), (.mov (.t 64)), none⟩, ⟨(some 66), (.faddr 4 (.t 1)), (some (65, false))⟩, ⟨(some 67), (.load false 1 (.t 66)), (some (65, false))⟩, ⟨(some 68), (.bin .gtr (.t 67) (.c (.int .i64 68719476736))), (some (65, false))⟩, ⟨(some 69), (.pick (.t 65) (.c (.bool true)) (.t 68)), none⟩]) (.cond (.t 69) (.seq (.ops [⟨(some 2), (.mov (.c (.int .i64 1))), none⟩]) .ret) .skip)) (.seq (.ops [⟨(some 2), (.mov (.c (.int .i64 0))), none⟩]) .ret))))))), false⟩
theorem e23 : T 23 = some c23 := by kernel_rfl
/- 24: hopmesh/hopmeshref05.At -/
def c24 : Fun1 := ⟨[(.tmp 8), (.tmp 9)], (.seq (.ops [⟨(some 4), (.box (.t 0)), none⟩, ⟨(some 5), (.box (.t 1)), none⟩, ⟨(some 7), (.box (.t 3)), none⟩, ⟨(some 8), (.mov (.c (.int .i64 0))), none⟩, ⟨(some 9), (.mov (.c (.int .i64 0))), none⟩]) (.seq (.seq (.ops [⟨(some 10), (.load true 6 (.t 4)), none⟩, ⟨(some 11), (.call (.c (.fn 29 [])) [(.t 10)]), none⟩, ⟨(some 12), (.bin .neq (.t 11) (.c (.int .i64 0))), none⟩]) (.cond (.t 12) (.seq (.ops [⟨(some 8), (.mov (.c (.int .i64 0))), none⟩, ⟨(some 9), (.mov (.c (.int .i64 1))), none⟩]) .ret) .skip)) (.seq (.seq (.ops [⟨(some 13), (.load true 2 (.t 5)), none⟩, ⟨(some 14), (.call (.c (.fn 52 [])) [(.t 13)]), none⟩, ⟨(some 15), (.notB (.t 14)), none⟩, ⟨(some 16), (.mov (.t 15)), none⟩, ⟨(some 17), (.load true 2 (.t 7)), (some (16, false))⟩, ⟨(some 18), (.call (.c (.fn 52 [])) [(.t 17)]), (some (16, false))⟩, ⟨(some 19), (.notB (.t 18)), (some (16, false))⟩, ⟨(some 20), (.pick (.t 16) (.c (.bool true)) (.t 19)), none⟩, ⟨(some 21), (.mov (.t 20)), none⟩, ⟨(some 22), (.mov (.t 2)), (some (21, false))⟩, ⟨(some 23), (.call (.c (.fn 53 [])) [(.t 22)]), (some (21, false))⟩, ⟨(some 24), (.notB (.t 23)), (some (21, false))⟩, ⟨(some 25), (.pick (.t 21) (.c (.bool true)) (.t 24)), none⟩]) (.cond (.t 25) (.seq (.ops [⟨(some 8), (.mov (.c (.int .i64 0))), none⟩, ⟨(some 9), (.mov (.c (.int .i64 2))), none⟩]) .ret) .skip)) (.seq (.ops [⟨(some 26), (.load true 6 (.t 4)), none⟩, ⟨(some 27), (.load true 2 (.t 5)), none⟩, ⟨(some 28), (.mov (.t 2)), none⟩, ⟨(some 29), (.load true 2 (.t 7)), none⟩, ⟨(some 30), (.call (.c (.fn 54 [])) [(.t 26), (.t 27), (.t 28), (.t 29)]), none⟩, ⟨(some 8), (.mov (.t 30)), none⟩, ⟨(some 9), (.mov (.c (.int .i64 0))), none⟩]) .ret)))), false⟩
theorem e24 : T 24 = some c24 := by kernel_rfl
/- 25: hopmesh/geometry.Between -/
def c25 : Fun1 := ⟨[(.tmp 6), (.tmp 7)], (.seq (.ops [⟨(some 3), (.box (.t 0)), none⟩, ⟨(some 6), (.mov (.c (.int .i64 0))), none⟩, ⟨(some 7), (.mov (.c (.int .i64 0))), none⟩]) (.seq (.block 0 (.seq (.ops [⟨(some 9), (.load true 6 (.t 3)), none⟩, ⟨(some 10), (.call (.c (.fn 23 [])) [(.t 9)]), none⟩, ⟨(some 11), (.bin .neq (.t 10) (.c (.int .i64 0))), none⟩, ⟨(some 8), (.mov (.t 11)), none⟩]) (.cond (.t 8) (.seq (.ops [⟨(some 6), (.mov (.c (.int .i64 0))), none⟩, ⟨(some 7), (.mov (.c (.int .i64 1))), none⟩]) .ret) (.seq (.ops [⟨(some 13), (.mov (.t 1)), none⟩, ⟨(some 14), (.mov (.t 2)), none⟩, ⟨(some 15), (.minI [(.t 13), (.t 14)]), none⟩, ⟨(some 16), (.bin .lss (.t 15) (.c (.int .i64 0))), none⟩, ⟨(some 17), (.mov (.t 16)), none⟩, ⟨(some 18), (.mov (.t 1)), (some (17, false))⟩, ⟨(some 19), (.mov (.t 2)), (some (17, false))⟩, ⟨(some 20), (.maxI [(.t 18), (.t 19)]), (some (17, false))⟩, ⟨(some 21), (.faddr 0 (.t 3)), (some (17, false))⟩, ⟨(some 22), (.load false 1 (.t 21)), (some (17, false))⟩, ⟨(some 23), (.len (.t 22)), (some (17, false))⟩, ⟨(some 24), (.bin .geq (.t 20) (.t 23)), (some (17, false))⟩, ⟨(some 25), (.pick (.t 17) (.c (.bool true)) (.t 24)), none⟩, ⟨(some 12), (.mov (.t 25)), none⟩]) (.cond (.t 12) (.seq (.ops [⟨(some 6), (.mov (.c (.int .i64 0))), none⟩, ⟨(some 7), (.mov (.c (.int .i64 7))), none⟩]) .ret) .skip))))) (.seq (.ops [⟨(some 26), (.load true 6 (.t 3)), none⟩, ⟨(some 27), (.mov (.t 1)), none⟩, ⟨(some 28), (.mov (.t 2)), none⟩, ⟨(some 29), (.call (.c (.fn 55 [])) [(.t 26), (.t 27), (.t 28)]), none⟩, ⟨(some 6), (.mov (.t 29)), none⟩, ⟨(some 7), (.mov (.c (.int .i64 0))), none⟩]) .ret))), false⟩
theorem e25 : T 25 = some c25 := by kernel_rfl
/- 26: hopmesh/hopmeshref05.Between -/
def c26 : Fun1 := ⟨[(.tmp 6), (.tmp 7)], (.seq (.ops [⟨(some 3), (.box (.t 0)), none⟩, ⟨(some 6), (.mov (.c (.int .i64 0))), none⟩, ⟨(some 7), (.mov (.c (.int .i64 0))), none⟩]) (.seq (.seq (.ops [⟨(some 8), (.load true 6 (.t 3)), none⟩, ⟨(some 9), (.call (.c (.fn 29 [])) [(.t 8)]), none⟩, ⟨(some 10), (.bin .neq (.t 9) (.c (.int .i64 0))), none⟩]) (.cond (.t 10) (.seq (.ops [⟨(some 6), (.mov (.c (.int .i64 0))), none⟩, ⟨(some 7), (.mov (.c (.int .i64 1))), none⟩]) .ret) .skip)) (.seq (.seq (.ops [⟨(some 11), (.mov (.t 1)), none⟩, ⟨(some 12), (.bin .lss (.t 11) (.c (.int .i64 0))), none⟩, ⟨(some 13), (.mov (.t 12)), none⟩, ⟨(some 14), (.mov (.t 1)), (some (13, false))⟩, ⟨(some 15), (.faddr 0 (.t 3)), (some (13, false))⟩, ⟨(some 16), (.load false 1 (.t 15)), (some (13, false))⟩, ⟨(some 17), (.len (.t 16)), (some (13, false))⟩, ⟨(some 18), (.bin .geq (.t 14) (.t 17)), (some (13, false))⟩, ⟨(some 19), (.pick (.t 13) (.c (.bool true)) (.t 18)), none⟩, ⟨(some 20), (.mov (.t 19)), none⟩, ⟨(some 21), (.mov (.t 2)), (some (20, false))⟩, ⟨(some 22), (.bin .lss (.t 21) (.c (.int .i64 0))), (some (20, false))⟩, ⟨(some 23), (.pick (.t 20) (.c (.bool true)) (.t 22)), none⟩, ⟨(some 24), (.mov (.t 23)), none⟩, ⟨(some 25), (.mov (.t 2)), (some (24, false))⟩, ⟨(some 26), (.faddr 0 (.t 3)), (some (24, false))⟩, ⟨(some 27), (.load false 1 (.t 26)), (some (24, false))⟩, ⟨(some 28), (.len (.t 27)), (some (24, false))⟩, ⟨(some 29), (.bin .geq (.t 25) (.t 28)), (some (24, false))⟩, ⟨(some 30), (.pick (.t 24) (.c (.bool true)) (.t 29)), none⟩]) (.cond (.t 30) (.seq (.ops [⟨(some 6), (.mov (.c (.int .i64 0))), none⟩, ⟨(some 7), (.mov (.c (.int .i64 7))), none⟩]) .ret) .skip)) (.seq (.seq (.ops [⟨(some 31), (.mov (.t 1)), none⟩, ⟨(some 32), (.mov (.t 2)), none⟩, ⟨(some 33), (.bin .eql (.t 31) (.t 32)), none⟩]) (.cond (.t 33) (.seq (.ops [⟨(some 6), (.mov (.c (.int .i64 0))), none⟩, ⟨(some 7), (.mov (.c (.int .i64 0))), none⟩]) .ret) .skip)) (.seq (.drawn [(⟨(some 34), (.load true 6 (.t 3)), none⟩, ⟨.seg, [], 0, 0⟩), (⟨(some 35), (.faddr 0 (.t 3)), none⟩, ⟨.seg, [], 0, 0⟩), (⟨(some 36), (.load false 1 (.t 35)), none⟩, ⟨.seg, [], 0, 0⟩), (⟨(some 37), (.mov (.t 1)), none⟩, ⟨.pure, [], 0, 0⟩), (⟨(some 38), (.iaddrS 2 (.t 36) (.t 37)), none⟩, ⟨.seg, [], 0, 0⟩), (⟨(some 39), (.load true 2 (.t 38)), none⟩, ⟨.seg, [], 0, 0⟩), (⟨(some 40), (.faddr 1 (.t 3)), none⟩, ⟨.seg, [], 0, 0⟩), (⟨(some 41), (.load false 1 (.t 40)), none⟩, ⟨.seg, [], 0, 0⟩), (⟨(some 42), (.mov (.t 1)), none⟩, ⟨.pure, [], 0, 0⟩), (⟨(some 43), (.iaddrS 1 (.t 41) (.t 42)), none⟩, ⟨.seg, [], 0, 0⟩), (⟨(some 44), (.load false 1 (.t 43)), none⟩, ⟨.seg, [], 0, 0⟩), (⟨(some 45), (.faddr 0 (.t 3)), none⟩, ⟨.seg, [], 0, 0⟩), (⟨(some 46), (.load false 1 (.t 45)), none⟩, ⟨.seg, [], 0, 0⟩), (⟨(some 47), (.mov (.t 2)), none⟩, ⟨.pure, [], 0, 0⟩), (⟨(some 48), (.iaddrS 2 (.t 46) (.t 47)), none⟩, ⟨.seg, [], 0, 0⟩), (⟨(some 49), (.load true 2 (.t 48)), none⟩, ⟨.seg, [], 0, 0⟩), (⟨(some 50), (.call (.c (.fn 54 [])) [(.t 34), (.t 39), (.t 44), (.t 49)]), none⟩, ⟨.bar, [], 0, 0⟩), (⟨(some 6), (.mov (.t 50)), none⟩, ⟨.pure, [], 0, 0⟩), (⟨(some 7), (.mov (.c (.int .i64 0))), none⟩, ⟨.pure, [], 0, 0⟩)]) .ret))))), false⟩
theorem e26 : T 26 = some c26 := by kernel_rfl
/- 27: hopmesh/geometry.Table -/
def c27 : Fun1 := ⟨[(.tmp 2), (.tmp 3)], (.seq (.ops [⟨(some 1), (.box (.t 0)), none⟩, ⟨(some 2), (.mov (.c (.lst 0 [] true))), none⟩, ⟨(some 3), (.mov (.c (.int .i64 0))), none⟩]) (.seq (.seq (.ops [⟨(some 9), (.load true 6 (.t 1)), none⟩, ⟨(some 10), (.call (.c (.fn 23 [])) [(.t 9)]), none⟩, ⟨(some 4), (.mov (.t 10)), none⟩]) (.seq (.ops [⟨(some 11), (.mov (.t 4)), none⟩, ⟨(some 12), (.bin .neq (.t 11) (.c (.int .i64 0))), none⟩]) (.cond (.t 12) (.seq (.ops [⟨(some 13), (.mov (.t 4)), none⟩, ⟨(some 2), (.mov (.c (.lst 0 [] true))), none⟩, ⟨(some 3), (.mov (.t 13)), none⟩]) .ret) .skip))) (.seq (.ops [⟨(some 5), (.mov (.c (.lst 0 [] true))), none⟩]) (.seq (.seq (.ops [⟨(some 14), (.faddr 0 (.t 1)), none⟩, ⟨(some 15), (.load false 1 (.t 14)), none⟩, ⟨(some 16), (.len (.t 15)), none⟩, ⟨(some 17), (.mov (.c (.int .i64 0))), none⟩]) (.block 0 (.loop ⟨[1, 5, 16, 17], [(5, 1)]⟩ (.seq (.ops [⟨(some 18), (.bin .lss (.t 17) (.t 16)), none⟩]) (.seq (.cond (.t 18) .skip (.exit 0)) (.seq (.block 1 (.seq (.ops [⟨(some 19), (.mov (.t 17)), none⟩, ⟨(some 6), (.mov (.t 19)), none⟩]) (.seq (.ops [⟨(some 7), (.mov (.c (.lst 0 [] true))), none⟩]) (.seq (.seq (.ops [⟨(some 20), (.faddr 0 (.t 1)), none⟩, ⟨(some 21), (.load false 1 (.t 20)), none⟩, ⟨(some 22), (.len (.t 21)), none⟩, ⟨(some 23), (.mov (.c (.int .i64 0))), none⟩]) (.block 2 (.loop ⟨[1, 5, 6, 7, 16, 17, 22, 23], [(7, 1)]⟩ (.seq (.ops [⟨(some 24), (.bin .lss (.t 23) (.t 22)), none⟩]) (.seq (.cond (.t 24) .skip (.exit 2)) (.seq (.block 3 (.seq (.ops [⟨(some 25), (.mov (.t 23)), none⟩, ⟨(some 8), (.mov (.t 25)), none⟩]) (.ops [⟨(some 26), (.mov (.t 7)), none⟩, ⟨(some 27), (.load true 6 (.t 1)), none⟩, ⟨(some 28), (.mov (.t 6)), none⟩, ⟨(some 29), (.mov (.t 8)), none⟩, ⟨(some 30), (.call (.c (.fn 55 [])) [(.t 27), (.t 28), (.t 29)]), none⟩, ⟨(some 31), (.blist 1 [(.int .i64 0)] 1 [(0, (.t 30))]), none⟩, ⟨(some 32), (.append 1 8 (.t 26) (.t 31)), none⟩, ⟨(some 7), (.mov (.t 32)), none⟩]))) (.ops [⟨(some 33), (.bin .add (.t 23) (.c (.int .i64 1))), none⟩, ⟨(some 23), (.mov (.t 33)), none⟩]))))))) (.seq (.freeze 7) (.ops [⟨(some 34), (.mov (.t 5)), none⟩, ⟨(some 35), (.mov (.t 7)), none⟩, ⟨(some 36), (.blist 1 [(.lst 0 [] true)] 1 [(0, (.t 35))]), none⟩, ⟨(some 37), (.append 1 24 (.t 34) (.t 36)), none⟩, ⟨(some 5), (.mov (.t 37)), none⟩])))))) (.ops [⟨(some 38), (.bin .add (.t 17) (.c (.int .i64 1))), none⟩, ⟨(some 17), (.mov (.t 38)), none⟩]))))))) (.seq (.ops [⟨(some 39), (.mov (.t 5)), none⟩, ⟨(some 2), (.mov (.t 39)), none⟩, ⟨(some 3), (.mov (.c (.int .i64 0))), none⟩]) .ret))))), false⟩
theorem e27 : T 27 = some c27 := by kernel_rfl
/- 28: hopmesh/hopmeshref05.Table -/
def c28 : Fun1 := ⟨[(.tmp 2), (.tmp 3)], (.seq (.ops [⟨(some 1), (.box (.t 0)), none⟩, ⟨(some 2), (.mov (.c (.lst 0 [] true))), none⟩, ⟨(some 3), (.mov (.c (.int .i64 0))), none⟩]) (.seq (.seq (.ops [⟨(some 10), (.load true 6 (.t 1)), none⟩, ⟨(some 11), (.call (.c (.fn 29 [])) [(.t 10)]), none⟩, ⟨(some 12), (.bin .neq (.t 11) (.c (.int .i64 0))), none⟩]) (.cond (.t 12) (.seq (.ops [⟨(some 2), (.mov (.c (.lst 0 [] true))), none⟩, ⟨(some 3), (.mov (.c (.int .i64 1))), none⟩]) .ret) .skip)) (.seq (.ops [⟨(some 13), (.blist 1 [(.lst 0 [] true)] 0 []), none⟩, ⟨(some 4), (.mov (.t 13)), none⟩]) (.seq (.seq (.ops [⟨(some 5), (.mov (.c (.int .i64 0))), none⟩]) (.block 0 (.loop ⟨[1, 4, 5], [(4, 1)]⟩ (.seq (.seq (.ops [⟨(some 14), (.mov (.t 5)), none⟩, ⟨(some 15), (.faddr 0 (.t 1)), none⟩, ⟨(some 16), (.load false 1 (.t 15)), none⟩, ⟨(some 17), (.len (.t 16)), none⟩, ⟨(some 18), (.bin .lss (.t 14) (.t 17)), none⟩]) (.cond (.t 18) .skip (.exit 0))) (.seq (.block 1 (.seq (.ops [⟨(some 21), (.blist 1 [(.int .i64 0)] 0 []), none⟩, ⟨(some 6), (.mov (.t 21)), none⟩]) (.seq (.seq (.ops [⟨(some 7), (.mov (.c (.int .i64 0))), none⟩]) (.block 2 (.loop ⟨[1, 4, 5, 6, 7], [(6, 1)]⟩ (.seq (.seq (.ops [⟨(some 22), (.mov (.t 7)), none⟩, ⟨(some 23), (.faddr 0 (.t 1)), none⟩, ⟨(some 24), (.load false 1 (.t 23)), none⟩, ⟨(some 25), (.len (.t 24)), none⟩, ⟨(some 26), (.bin .lss (.t 22) (.t 25)), none⟩]) (.cond (.t 26) .skip (.exit 2))) (.seq (.block 3 (.seq (.ops [⟨(some 30), (.load true 6 (.t 1)), none⟩, ⟨(some 31), (.mov (.t 5)), none⟩, ⟨(some 32), (.mov (.t 7)), none⟩, ⟨(some 33), (.call (.c (.fn 26 [])) [(.t 30), (.t 31), (.t 32)]), none⟩, ⟨(some 29), (.mov (.t 33)), none⟩, ⟨(some 34), (.extract (.t 29) 0), none⟩, ⟨(some 35), (.extract (.t 29) 1), none⟩, ⟨(some 8), (.mov (.t 34)), none⟩, ⟨(some 9), (.mov (.t 35)), none⟩]) (.ops [⟨(some 36), (.mov (.t 6)), none⟩, ⟨(some 37), (.mov (.t 8)), none⟩, ⟨(some 38), (.blist 1 [(.int .i64 0)] 1 [(0, (.t 37))]), none⟩, ⟨(some 39), (.append 1 8 (.t 36) (.t 38)), none⟩, ⟨(some 6), (.mov (.t 39)), none⟩]))) (.ops [⟨(some 27), (.mov (.t 7)), none⟩, ⟨(some 28), (.bin .add (.t 27) (.c (.int .i64 1))), none⟩, ⟨(some 7), (.mov (.t 28)), none⟩])))))) (.seq (.freeze 6) (.ops [⟨(some 40), (.mov (.t 4)), none⟩, ⟨(some 41), (.mov (.t 6)), none⟩, ⟨(some 42), (.blist 1 [(.lst 0 [] true)] 1 [(0, (.t 41))]), none⟩, ⟨(some 43), (.append 1 24 (.t 40) (.t 42)), none⟩, ⟨(some 4), (.mov (.t 43)), none⟩]))))) (.ops [⟨(some 19), (.mov (.t 5)), none⟩, ⟨(some 20), (.bin .add (.t 19) (.c (.int .i64 1))), none⟩, ⟨(some 5), (.mov (.t 20)), none⟩])))))) (.seq (.ops [⟨(some 44), (.mov (.t 4)), none⟩, ⟨(some 2), (.mov (.t 44)), none⟩, ⟨(some 3), (.mov (.c (.int .i64 0))), none⟩]) .ret))))), false⟩
theorem e28 : T 28 = some c28 := by kernel_rfl
/- 29: hopmesh/hopmeshref05.Check -/
def c29 : Fun1 := ⟨[(.tmp 2)], (.seq (.ops [⟨(some 1), (.box (.t 0)), none⟩, ⟨(some 2), (.mov (.c (.int .i64 0))), none⟩]) (.seq (.ops [⟨(some 7), (.faddr 0 (.t 1)), none⟩, ⟨(some 8), (.load false 1 (.t 7)), none⟩, ⟨(some 9), (.len (.t 8)), none⟩, ⟨(some 3), (.mov (.t 9)), none⟩]) (.seq (.seq (.ops [⟨(some 10), (.mov (.t 3)), none⟩, ⟨(some 11), (.bin .lss (.t 10) (.c (.int .i64 2))), none⟩, ⟨(some 12), (.mov (.t 11)), none⟩, ⟨(some 13), (.mov (.t 3)), (some (12, false))⟩, ⟨(some 14), (.bin .gtr (.t 13) (.c (.int .i64 32))), (some (12, false))⟩, ⟨(some 15), (.pick (.t 12) (.c (.bool true)) (.t 14)), none⟩, ⟨(some 16), (.mov (.t 15)), none⟩, ⟨(some 17), (.faddr 1 (.t 1)), (some (16, false))⟩, ⟨(some 18), (.load false 1 (.t 17)), (some (16, false))⟩, ⟨(some 19), (.len (.t 18)), (some (16, false))⟩, ⟨(some 20), (.mov (.t 3)), (some (16, false))⟩, ⟨(some 21), (.bin .neq (.t 19) (.t 20)), (some (16, false))⟩, ⟨(some 22), (.pick (.t 16) (.c (.bool true)) (.t 21)), none⟩, ⟨(some 23), (.mov (.t 22)), none⟩, ⟨(some 24), (.faddr 2 (.t 1)), (some (23, false))⟩, ⟨(some 25), (.load false 1 (.t 24)), (some (23, false))⟩, ⟨(some 26), (.len (.t 25)), (some (23, false))⟩, ⟨(some 27), (.bin .gtr (.t 26) (.c (.int .i64 32))), (some (23, false))⟩, ⟨(some 28), (.pick (.t 23) (.c (.bool true)) (.t 27)), none⟩, ⟨(some 29), (.mov (.t 28)), none⟩, ⟨(some 30), (.faddr 3 (.t 1)), (some (29, false))⟩, ⟨(some 31), (.load false 1 (.t 30)), (some (29, false))⟩, ⟨(some 32), (.bin .neq (.t 31) (.c (.int .i64 2))), (some (29, false))⟩, ⟨(some 33), (.mov (.t 32)), (some (29, false))⟩, ⟨(some 34), (.faddr 3 (.t 1)), (some (33, true))⟩, ⟨(some 35), (.load false 1 (.t 34)), (some (33, true))⟩, ⟨(some 36), (.bin .neq (.t 35) (.c (.int .i64 4))), (some (33, true))⟩, ⟨(some 37), (.pick (.t 33) (.t 36) (.c (.bool false))), (some (29, false))⟩, ⟨(some 38), (.pick (.t 29) (.c (.bool true)) (.t 37)), none⟩, ⟨(some 39), (.mov (.t 38)), none⟩, ⟨(some 40), (.faddr 5 (.t 1)), (some (39, false))⟩, ⟨(some 41), (.load false 1 (.t 40)), (some (39, false))⟩, ⟨(some 42), (.faddr 4 (.t 1)), (some (39, false))⟩, ⟨(some 43), (.load false 1 (.t 42)), (some (39, false))⟩, ⟨(some 44), (.call (.c (.fn 56 [])) [(.t 41), (.t 43)]), (some (39, false))⟩, ⟨(some 45), (.notB (.t 44)), (some (39, false))⟩, ⟨(some 46), (.pick (.t 39) (.c (.bool true)) (.t 45)), none⟩]) (.cond (.t 46) (.seq (.ops [⟨(some 2), (.mov (.c (.int .i64 1))), none⟩]) .ret) .skip)) (.seq (.seq (.ops [⟨(some 4), (.mov (.c (.int .i64 0))), none⟩]) (.block 0 (.loop ⟨[1, 3, 4], []⟩ (.seq (.seq (.ops [⟨(some 47), (.mov (.t 4)), none⟩, ⟨(some 48), (.mov (.t 3)), none⟩, ⟨(some 49), (.bin .lss (.t 47) (.t 48)), none⟩]) (.cond (.t 49) .skip (.exit 0))) (.seq (.block 1 (.seq (.ops [⟨(some 52), (.faddr 0 (.t 1)), none⟩, ⟨(some 53), (.load false 1 (.t 52)), none⟩, ⟨(some 54), (.mov (.t 4)), none⟩, ⟨(some 55), (.iaddrS 2 (.t 53) (.t 54)), none⟩, ⟨(some 56), (.load true 2 (.t 55)), none⟩, ⟨(some 57), (.call (.c (.fn 52 [])) [(.t 56)]), none⟩, ⟨(some 58), (.notB (.t 57)), none⟩, ⟨(some 59), (.mov (.t 58)), none⟩, ⟨(some 60), (.faddr 1 (.t 1)), (some (59, false))⟩, ⟨(some 61), (.load false 1 (.t 60)), (some (59, false))⟩, ⟨(some 62), (.mov (.t 4)), (some (59, false))⟩, ⟨(some 63), (.iaddrS 1 (.t 61) (.t 62)), (some (59, false))⟩, ⟨(some 64), (.load false 1 (.t 63)), (some (59, false))⟩, ⟨(some 65), (.call (.c (.fn 53 [])) [(.t 64)]), (some (59, false))⟩, ⟨(some 66), (.notB (.t 65)), (some (59, false))⟩, ⟨(some 67), (.pick (.t 59) (.c (.bool true)) (.t 66)), none⟩]) (.cond (.t 67) (.seq (.ops [⟨(some 2), (.mov (.c (.int .i64 1))), none⟩]) .ret) .skip))) (.ops [⟨(some 50), (.mov (.t 4)), none⟩, ⟨(some 51), (.bin .add (.t 50) (.c (.int .i64 1))), none⟩, ⟨(some 4), (.mov (.t 51)), none⟩])))))) (.seq (.seq (.ops [⟨(some 5), (.mov (.c (.int .i64 0))), none⟩]) (.block 2 (.loop ⟨[1, 5], []⟩ (.seq (.seq (.ops [⟨(some 68), (.mov (.t 5)), none⟩, ⟨(some 69), (.faddr 2 (.t 1)), none⟩, ⟨(some 70), (.load false 1 (.t 69)), none⟩, ⟨(some 71), (.len (.t 70)), none⟩, ⟨(some 72), (.bin .lss (.t 68) (.t 71)), none⟩]) (.cond (.t 72) .skip (.exit 2))) (.seq (.block 3 (.seq (.ops [⟨(some 75), (.faddr 2 (.t 1)), none⟩, ⟨(some 76), (.load false 1 (.t 75)), none⟩, ⟨(some 77), (.mov (.t 5)), none⟩, ⟨(some 78), (.iaddrS 5 (.t 76) (.t 77)), none⟩, ⟨(some 79), (.load true 5 (.t 78)), none⟩, ⟨(some 6), (.alloc [(.int .i64 0), (.int .i64 0), (.int .i64 0), (.int .i64 0), (.int .i64 0)]), none⟩, ⟨none, (.store 5 (.t 6) (.t 79)), none⟩]) (.seq (.ops [⟨(some 80), (.faddr 0 (.t 6)), none⟩, ⟨(some 81), (.load true 2 (.t 80)), none⟩, ⟨(some 82), (.call (.c (.fn 52 [])) [(.t 81)]), none⟩, ⟨(some 83), (.notB (.t 82)), none⟩, ⟨(some 84), (.mov (.t 83)), none⟩, ⟨(some 85), (.faddr 2 (.t 6)), (some (84, false))⟩, ⟨(some 86), (.load true 2 (.t 85)), (some (84, false))⟩, ⟨(some 87), (.call (.c (.fn 52 [])) [(.t 86)]), (some (84, false))⟩, ⟨(some 88), (.notB (.t 87)), (some (84, false))⟩, ⟨(some 89), (.pick (.t 84) (.c (.bool true)) (.t 88)), none⟩, ⟨(some 90), (.mov (.t 89)), none⟩, ⟨(some 91), (.faddr 4 (.t 6)), (some (90, false))⟩, ⟨(some 92), (.load false 1 (.t 91)), (some (90, false))⟩, ⟨(some 93), (.bin .lss (.t 92) (.c (.int .i64 0))), (some (90, false))⟩, ⟨(some 94), (.pick (.t 90) (.c (.bool true)) (.t 93)), none⟩, ⟨(some 95), (.mov (.t 94)), none⟩, ⟨(some 96), (.faddr 4 (.t 6)), (some (95, false))⟩, ⟨(some 97), (.load false 1 (.t 96)), (some (95, false))⟩, ⟨(some 98), (.bin .gtr (.t 97) (.c (.int .i64 1000))), (some (95, false))⟩, ⟨(some 99), (.pick (.t 95) (.c (.bool true)) (.t 98)), none⟩]) (.cond (.t 99) (.seq (.ops [⟨(some 2), (.mov (.c (.int .i64 1))), none⟩]) .ret) .skip)))) (.ops [⟨(some 73), (.mov (.t 5)), none⟩, ⟨(some 74), (.bin .add (.t 73) (.c (.int .i64 1))), none⟩, ⟨(some 5), (.mov (.t 74)), none⟩])))))) (.seq (.ops [⟨(some 2), (.mov (.c (.int .i64 0))), none⟩]) .ret)))))), false⟩
theorem e29 : T 29 = some c29 := by kernel_rfl
/- 30: slices.EqualFunc[[][]int,[][]int,[]int,[]int] -/
def c30 : Fun1 := ⟨[(.tmp 6)], (.seq (.ops [⟨(some 6), (.mov (.c (.bool false))), none⟩]) (.seq (.seq (.ops [⟨(some 10), (.mov (.t 0)), none⟩, ⟨(some 11), (.len (.t 10)), none⟩, ⟨(some 12), (.mov (.t 1)), none⟩, ⟨(some 13), (.len (.t 12)), none⟩, ⟨(some 14), (.bin .neq (.t 11) (.t 13)), none⟩]) (.cond (.t 14) (.seq (.ops [⟨(some 6), (.mov (.c (.bool false))), none⟩]) .ret) .skip)) (.seq (.seq (.ops [⟨(some 15), (.mov (.t 0)), none⟩, ⟨(some 16), (.len (.t 15)), none⟩, ⟨(some 17), (.mov (.c (.int .i64 0))), none⟩]) (.block 0 (.loop ⟨[1, 2, 15, 16, 17], []⟩ (.seq (.ops [⟨(some 18), (.bin .lss (.t 17) (.t 16)), none⟩]) (.seq (.cond (.t 18) .skip (.exit 0)) (.seq (.block 1 (.seq (.ops [⟨(some 19), (.mov (.t 17)), none⟩, ⟨(some 20), (.iaddrS 1 (.t 15) (.t 17)), none⟩, ⟨(some 21), (.load false 1 (.t 20)), none⟩, ⟨(some 7), (.mov (.t 19)), none⟩, ⟨(some 8), (.mov (.t 21)), none⟩]) (.seq (.ops [⟨(some 22), (.mov (.t 1)), none⟩, ⟨(some 23), (.mov (.t 7)), none⟩, ⟨(some 24), (.iaddrS 1 (.t 22) (.t 23)), none⟩, ⟨(some 25), (.load false 1 (.t 24)), none⟩, ⟨(some 9), (.mov (.t 25)), none⟩]) (.seq (.ops [⟨(some 26), (.mov (.t 2)), none⟩, ⟨(some 27), (.mov (.t 8)), none⟩, ⟨(some 28), (.mov (.t 9)), none⟩, ⟨(some 29), (.call (.t 26) [(.t 27), (.t 28)]), none⟩, ⟨(some 30), (.notB (.t 29)), none⟩]) (.cond (.t 30) (.seq (.ops [⟨(some 6), (.mov (.c (.bool false))), none⟩]) .ret) .skip))))) (.ops [⟨(some 31), (.bin .add (.t 17) (.c (.int .i64 1))), none⟩, ⟨(some 17), (.mov (.t 31)), none⟩]))))))) (.seq (.ops [⟨(some 6), (.mov (.c (.bool true))), none⟩]) .ret)))), false⟩
theorem e30 : T 30 = some c30 := by kernel_rfl
/- 31: slices.Equal[[]int,int] -/
def c31 : Fun1 := ⟨[(.tmp 4)], (.seq (.ops [⟨(some 4), (.mov (.c (.bool false))), none⟩]) (.seq (.seq (.ops [⟨(some 6), (.mov (.t 0)), none⟩, ⟨(some 7), (.len (.t 6)), none⟩, ⟨(some 8), (.mov (.t 1)), none⟩, ⟨(some 9), (.len (.t 8)), none⟩, ⟨(some 10), (.bin .neq (.t 7) (.t 9)), none⟩]) (.cond (.t 10) (.seq (.ops [⟨(some 4), (.mov (.c (.bool false))), none⟩]) .ret) .skip)) (.seq (.seq (.ops [⟨(some 11), (.mov (.t 0)), none⟩, ⟨(some 12), (.len (.t 11)), none⟩, ⟨(some 13), (.mov (.c (.int .i64 0))), none⟩]) (.block 0 (.loop ⟨[0, 1, 12, 13], []⟩ (.seq (.ops [⟨(some 14), (.bin .lss (.t 13) (.t 12)), none⟩]) (.seq (.cond (.t 14) .skip (.exit 0)) (.seq (.block 1 (.seq (.ops [⟨(some 15), (.mov (.t 13)), none⟩, ⟨(some 5), (.mov (.t 15)), none⟩]) (.seq (.drawn [(⟨(some 16), (.mov (.t 0)), none⟩, ⟨.pure, [], 0, 0⟩), (⟨(some 17), (.mov (.t 5)), none⟩, ⟨.pure, [], 0, 0⟩), (⟨(some 18), (.iaddrS 1 (.t 16) (.t 17)), none⟩, ⟨.seg, [], 0, 0⟩), (⟨(some 19), (.load false 1 (.t 18)), none⟩, ⟨.seg, [], 0, 0⟩), (⟨(some 20), (.mov (.t 1)), none⟩, ⟨.pure, [], 0, 0⟩), (⟨(some 21), (.mov (.t 5)), none⟩, ⟨.pure, [], 0, 0⟩), (⟨(some 22), (.iaddrS 1 (.t 20) (.t 21)), none⟩, ⟨.seg, [], 0, 0⟩), (⟨(some 23), (.load false 1 (.t 22)), none⟩, ⟨.seg, [], 0, 0⟩), (⟨(some 24), (.bin .neq (.t 19) (.t 23)), none⟩, ⟨.pure, [], 0, 0⟩)]) (.cond (.t 24) (.seq (.ops [⟨(some 4), (.mov (.c (.bool false))), none⟩]) .ret) .skip)))) (.ops [⟨(some 25), (.bin .add (.t 13) (.c (.int .i64 1))), none⟩, ⟨(some 13), (.mov (.t 25)), none⟩]))))))) (.seq (.ops [⟨(some 4), (.mov (.c (.bool true))), none⟩]) .ret)))), false⟩
theorem e31 : T 31 = some c31 := by kernel_rfl
/- 32: hopmesh/geometry.Nearest -/
def c32 : Fun1 := ⟨[(.tmp 4), (.tmp 5)], (.seq (.ops [⟨(some 2), (.box (.t 0)), none⟩, ⟨(some 3), (.box (.t 1)), none⟩, ⟨(some 4), (.mov (.c (.int .i64 0))), none⟩, ⟨(some 5), (.mov (.c (.int .i64 0))), none⟩]) (.seq (.block 0 (.seq (.ops [⟨(some 10), (.load true 6 (.t 2)), none⟩, ⟨(some 11), (.call (.c (.fn 23 [])) [(.t 10)]), none⟩, ⟨(some 12), (.bin .neq (.t 11) (.c (.int .i64 0))), none⟩, ⟨(some 9), (.mov (.t 12)), none⟩]) (.cond (.t 9) (.seq (.ops [⟨(some 4), (.mov (.c (.int .i64 0))), none⟩, ⟨(some 5), (.mov (.c (.int .i64 1))), none⟩]) .ret) (.seq (.ops [⟨(some 14), (.load true 2 (.t 3)), none⟩, ⟨(some 15), (.call (.c (.fn 44 [])) [(.t 14)]), none⟩, ⟨(some 16), (.notB (.t 15)), none⟩, ⟨(some 13), (.mov (.t 16)), none⟩]) (.cond (.t 13) (.seq (.ops [⟨(some 4), (.mov (.c (.int .i64 0))), none⟩, ⟨(some 5), (.mov (.c (.int .i64 2))), none⟩]) .ret) .skip))))) (.seq (.ops [⟨(some 6), (.mov (.c (.int .i64 0))), none⟩]) (.seq (.seq (.ops [⟨(some 17), (.faddr 0 (.t 2)), none⟩, ⟨(some 18), (.load false 1 (.t 17)), none⟩, ⟨(some 19), (.len (.t 18)), none⟩, ⟨(some 20), (.mov (.c (.int .i64 0))), none⟩]) (.block 1 (.loop ⟨[2, 3, 6, 18, 19, 20], []⟩ (.seq (.ops [⟨(some 21), (.bin .lss (.t 20) (.t 19)), none⟩]) (.seq (.cond (.t 21) .skip (.exit 1)) (.seq (.block 2 (.seq (.ops [⟨(some 22), (.mov (.t 20)), none⟩, ⟨(some 23), (.iaddrS 2 (.t 18) (.t 20)), none⟩, ⟨(some 24), (.load true 2 (.t 23)), none⟩, ⟨(some 8), (.alloc [(.int .i64 0), (.int .i64 0)]), none⟩, ⟨(some 7), (.mov (.t 22)), none⟩, ⟨none, (.store 2 (.t 8) (.t 24)), none⟩]) (.seq (.drawn [(⟨(some 25), (.load true 2 (.t 8)), none⟩, ⟨.seg, [], 0, 0⟩), (⟨(some 26), (.load true 2 (.t 3)), none⟩, ⟨.seg, [], 0, 0⟩), (⟨(some 27), (.call (.c (.fn 13 [])) [(.t 25), (.t 26)]), none⟩, ⟨.seg, [], 0, 0⟩), (⟨(some 28), (.faddr 0 (.t 2)), none⟩, ⟨.seg, [], 0, 0⟩), (⟨(some 29), (.load false 1 (.t 28)), none⟩, ⟨.seg, [], 0, 0⟩), (⟨(some 30), (.mov (.t 6)), none⟩, ⟨.pure, [], 0, 0⟩), (⟨(some 31), (.iaddrS 2 (.t 29) (.t 30)), none⟩, ⟨.seg, [], 0, 0⟩), (⟨(some 32), (.load true 2 (.t 31)), none⟩, ⟨.seg, [], 0, 0⟩), (⟨(some 33), (.load true 2 (.t 3)), none⟩, ⟨.seg, [], 0, 0⟩), (⟨(some 34), (.call (.c (.fn 13 [])) [(.t 32), (.t 33)]), none⟩, ⟨.bar, [], 0, 0⟩), (⟨(some 35), (.bin .lss (.t 27) (.t 34)), none⟩, ⟨.pure, [], 0, 0⟩)]) (.cond (.t 35) (.ops [⟨(some 36), (.mov (.t 7)), none⟩, ⟨(some 6), (.mov (.t 36)), none⟩]) .skip)))) (.ops [⟨(some 37), (.bin .add (.t 20) (.c (.int .i64 1))), none⟩, ⟨(some 20), (.mov (.t 37)), none⟩]))))))) (.seq (.ops [⟨(some 38), (.mov (.t 6)), none⟩, ⟨(some 4), (.mov (.t 38)), none⟩, ⟨(some 5), (.mov (.c (.int .i64 0))), none⟩]) .ret))))), false⟩
theorem e32 : T 32 = some c32 := by kernel_rfl
/- 33: hopmesh/hopmeshref05.Nearest -/
def c33 : Fun1 := ⟨[(.tmp 4), (.tmp 5)], (.seq (.ops [⟨(some 2), (.box (.t 0)), none⟩, ⟨(some 3), (.box (.t 1)), none⟩, ⟨(some 4), (.mov (.c (.int .i64 0))), none⟩, ⟨(some 5), (.mov (.c (.int .i64 0))), none⟩]) (.seq (.seq (.ops [⟨(some 8), (.load true 6 (.t 2)), none⟩, ⟨(some 9), (.call (.c (.fn 29 [])) [(.t 8)]), none⟩, ⟨(some 10), (.bin .neq (.t 9) (.c (.int .i64 0))), none⟩]) (.cond (.t 10) (.seq (.ops [⟨(some 4), (.mov (.c (.int .i64 0))), none⟩, ⟨(some 5), (.mov (.c (.int .i64 1))), none⟩]) .ret) .skip)) (.seq (.seq (.ops [⟨(some 11), (.load true 2 (.t 3)), none⟩, ⟨(some 12), (.call (.c (.fn 52 [])) [(.t 11)]), none⟩, ⟨(some 13), (.notB (.t 12)), none⟩]) (.cond (.t 13) (.seq (.ops [⟨(some 4), (.mov (.c (.int .i64 0))), none⟩, ⟨(some 5), (.mov (.c (.int .i64 2))), none⟩]) .ret) .skip)) (.seq (.ops [⟨(some 6), (.mov (.c (.int .i64 0))), none⟩]) (.seq (.seq (.ops [⟨(some 7), (.mov (.c (.int .i64 1))), none⟩]) (.block 0 (.loop ⟨[2, 3, 6, 7], []⟩ (.seq (.seq (.ops [⟨(some 14), (.mov (.t 7)), none⟩, ⟨(some 15), (.faddr 0 (.t 2)), none⟩, ⟨(some 16), (.load false 1 (.t 15)), none⟩, ⟨(some 17), (.len (.t 16)), none⟩, ⟨(some 18), (.bin .lss (.t 14) (.t 17)), none⟩]) (.cond (.t 18) .skip (.exit 0))) (.seq (.block 1 (.seq (.drawn [(⟨(some 21), (.faddr 0 (.t 2)), none⟩, ⟨.seg, [], 0, 0⟩), (⟨(some 22), (.load false 1 (.t 21)), none⟩, ⟨.seg, [], 0, 0⟩), (⟨(some 23), (.mov (.t 7)), none⟩, ⟨.pure, [], 0, 0⟩), (⟨(some 24), (.iaddrS 2 (.t 22) (.t 23)), none⟩, ⟨.seg, [], 0, 0⟩), (⟨(some 25), (.load true 2 (.t 24)), none⟩, ⟨.seg, [], 0, 0⟩), (⟨(some 26), (.load true 2 (.t 3)), none⟩, ⟨.seg, [], 0, 0⟩), (⟨(some 27), (.call (.c (.fn 14 [])) [(.t 25), (.t 26)]), none⟩, ⟨.seg, [], 0, 0⟩), (⟨(some 28), (.faddr 0 (.t 2)), none⟩, ⟨.seg, [], 0, 0⟩), (⟨(some 29), (.load false 1 (.t 28)), none⟩, ⟨.seg, [], 0, 0⟩), (⟨(some 30), (.mov (.t 6)), none⟩, ⟨.pure, [], 0, 0⟩), (⟨(some 31), (.iaddrS 2 (.t 29) (.t 30)), none⟩, ⟨.seg, [], 0, 0⟩), (⟨(some 32), (.load true 2 (.t 31)), none⟩, ⟨.seg, [], 0, 0⟩), (⟨(some 33), (.load true 2 (.t 3)), none⟩, ⟨.seg, [], 0, 0⟩), (⟨(some 34), (.call (.c (.fn 14 [])) [(.t 32), (.t 33)]), none⟩, ⟨.bar, [], 0, 0⟩), (⟨(some 35), (.bin .lss (.t 27) (.t 34)), none⟩, ⟨.pure, [], 0, 0⟩)]) (.cond (.t 35) (.ops [⟨(some 36), (.mov (.t 7)), none⟩, ⟨(some 6), (.mov (.t 36)), none⟩]) .skip))) (.ops [⟨(some 19), (.mov (.t 7)), none⟩, ⟨(some 20), (.bin .add (.t 19) (.c (.int .i64 1))), none⟩, ⟨(some 7), (.mov (.t 20)), none⟩])))))) (.seq (.ops [⟨(some 37), (.mov (.t 6)), none⟩, ⟨(some 4), (.mov (.t 37)), none⟩, ⟨(some 5), (.mov (.c (.int .i64 0))), none⟩]) .ret)))))), false⟩
theorem e33 : T 33 = some c33 := by kernel_rfl
/- 34: hopmesh/geometry.Hears -/
def c34 : Fun1 := ⟨[(.tmp 4), (.tmp 5)], (.seq (.ops [⟨(some 2), (.box (.t 0)), none⟩, ⟨(some 4), (.mov (.c (.lst 0 [] true))), none⟩, ⟨(some 5), (.mov (.c (.int .i64 0))), none⟩]) (.seq (.block 0 (.seq (.ops [⟨(some 11), (.load true 6 (.t 2)), none⟩, ⟨(some 12), (.call (.c (.fn 23 [])) [(.t 11)]), none⟩, ⟨(some 13), (.bin .neq (.t 12) (.c (.int .i64 0))), none⟩, ⟨(some 10), (.mov (.t 13)), none⟩]) (.cond (.t 10) (.seq (.ops [⟨(some 4), (.mov (.c (.lst 0 [] true))), none⟩, ⟨(some 5), (.mov (.c (.int .i64 1))), none⟩]) .ret) (.seq (.ops [⟨(some 15), (.mov (.t 1)), none⟩, ⟨(some 16), (.bin .lss (.t 15) (.c (.int .i64 0))), none⟩, ⟨(some 17), (.mov (.t 16)), none⟩, ⟨(some 18), (.mov (.t 1)), (some (17, false))⟩, ⟨(some 19), (.faddr 0 (.t 2)), (some (17, false))⟩, ⟨(some 20), (.load false 1 (.t 19)), (some (17, false))⟩, ⟨(some 21), (.len (.t 20)), (some (17, false))⟩, ⟨(some 22), (.bin .geq (.t 18) (.t 21)), (some (17, false))⟩, ⟨(some 23), (.pick (.t 17) (.c (.bool true)) (.t 22)), none⟩, ⟨(some 14), (.mov (.t 23)), none⟩]) (.cond (.t 14) (.seq (.ops [⟨(some 4), (.mov (.c (.lst 0 [] true))), none⟩, ⟨(some 5), (.mov (.c (.int .i64 7))), none⟩]) .ret) .skip))))) (.seq (.ops [⟨(some 6), (.mov (.c (.lst 0 [] true))), none⟩]) (.seq (.seq (.ops [⟨(some 24), (.faddr 0 (.t 2)), none⟩, ⟨(some 25), (.load false 1 (.t 24)), none⟩, ⟨(some 26), (.len (.t 25)), none⟩, ⟨(some 27), (.mov (.c (.int .i64 0))), none⟩]) (.block 1 (.loop ⟨[1, 2, 6, 26, 27], [(6, 1)]⟩ (.seq (.ops [⟨(some 28), (.bin .lss (.t 27) (.t 26)), none⟩]) (.seq (.cond (.t 28) .skip (.exit 1)) (.seq (.block 2 (.seq (.ops [⟨(some 29), (.mov (.t 27)), none⟩, ⟨(some 7), (.mov (.t 29)), none⟩]) (.seq (.drawn [(⟨(some 31), (.load true 6 (.t 2)), none⟩, ⟨.seg, [], 0, 0⟩), (⟨(some 32), (.mov (.t 7)), none⟩, ⟨.pure, [], 0, 0⟩), (⟨(some 33), (.mov (.t 1)), none⟩, ⟨.pure, [], 0, 0⟩), (⟨(some 34), (.call (.c (.fn 55 [])) [(.t 31), (.t 32), (.t 33)]), none⟩, ⟨.seg, [], 0, 0⟩), (⟨(some 35), (.faddr 5 (.t 2)), none⟩, ⟨.seg, [], 0, 0⟩), (⟨(some 36), (.load false 1 (.t 35)), none⟩, ⟨.seg, [], 0, 0⟩), (⟨(some 37), (.faddr 4 (.t 2)), none⟩, ⟨.seg, [], 0, 0⟩), (⟨(some 38), (.load false 1 (.t 37)), none⟩, ⟨.seg, [], 0, 0⟩), (⟨(some 39), (.call (.c (.fn 57 [])) [(.t 34), (.t 36), (.t 38), (.c (.lst 0 [] true))]), none⟩, ⟨.bar, [], 0, 0⟩), (⟨(some 30), (.mov (.t 39)), none⟩, ⟨.pure, [], 0, 0⟩), (⟨(some 40), (.extract (.t 30) 0), none⟩, ⟨.pure, [], 0, 0⟩), (⟨(some 41), (.extract (.t 30) 1), none⟩, ⟨.pure, [], 0, 0⟩), (⟨(some 8), (.mov (.t 40)), none⟩, ⟨.pure, [], 0, 0⟩), (⟨(some 9), (.mov (.t 41)), none⟩, ⟨.pure, [], 0, 0⟩)]) (.seq (.ops [⟨(some 42), (.mov (.t 8)), none⟩]) (.cond (.t 42) (.ops [⟨(some 43), (.mov (.t 6)), none⟩, ⟨(some 44), (.mov (.t 7)), none⟩, ⟨(some 45), (.blist 1 [(.int .i64 0)] 1 [(0, (.t 44))]), none⟩, ⟨(some 46), (.append 1 8 (.t 43) (.t 45)), none⟩, ⟨(some 6), (.mov (.t 46)), none⟩]) .skip))))) (.ops [⟨(some 47), (.bin .add (.t 27) (.c (.int .i64 1))), none⟩, ⟨(some 27), (.mov (.t 47)), none⟩]))))))) (.seq (.ops [⟨(some 48), (.mov (.t 6)), none⟩, ⟨(some 4), (.mov (.t 48)), none⟩, ⟨(some 5), (.mov (.c (.int .i64 0))), none⟩]) .ret))))), false⟩
theorem e34 : T 34 = some c34 := by kernel_rfl
/- 35: hopmesh/hopmeshref05.Hears -/
def c35 : Fun1 := ⟨[(.tmp 4), (.tmp 5)], (.seq (.ops [⟨(some 2), (.box (.t 0)), none⟩, ⟨(some 4), (.mov (.c (.lst 0 [] true))), none⟩, ⟨(some 5), (.mov (.c (.int .i64 0))), none⟩]) (.seq (.seq (.ops [⟨(some 10), (.load true 6 (.t 2)), none⟩, ⟨(some 11), (.call (.c (.fn 29 [])) [(.t 10)]), none⟩, ⟨(some 12), (.bin .neq (.t 11) (.c (.int .i64 0))), none⟩]) (.cond (.t 12) (.seq (.ops [⟨(some 4), (.mov (.c (.lst 0 [] true))), none⟩, ⟨(some 5), (.mov (.c (.int .i64 1))), none⟩]) .ret) .skip)) (.seq (.seq (.ops [⟨(some 13), (.mov (.t 1)), none⟩, ⟨(some 14), (.bin .lss (.t 13) (.c (.int .i64 0))), none⟩, ⟨(some 15), (.mov (.t 14)), none⟩, ⟨(some 16), (.mov (.t 1)), (some (15, false))⟩, ⟨(some 17), (.faddr 0 (.t 2)), (some (15, false))⟩, ⟨(some 18), (.load false 1 (.t 17)), (some (15, false))⟩, ⟨(some 19), (.len (.t 18)), (some (15, false))⟩, ⟨(some 20), (.bin .geq (.t 16) (.t 19)), (some (15, false))⟩, ⟨(some 21), (.pick (.t 15) (.c (.bool true)) (.t 20)), none⟩]) (.cond (.t 21) (.seq (.ops [⟨(some 4), (.mov (.c (.lst 0 [] true))), none⟩, ⟨(some 5), (.mov (.c (.int .i64 7))), none⟩]) .ret) .skip)) (.seq (.ops [⟨(some 22), (.blist 1 [(.int .i64 0)] 0 []), none⟩, ⟨(some 6), (.mov (.t 22)), none⟩]) (.seq (.seq (.ops [⟨(some 7), (.mov (.c (.int .i64 0))), none⟩]) (.block 0 (.loop ⟨[1, 2, 6, 7], [(6, 1)]⟩ (.seq (.seq (.ops [⟨(some 23), (.mov (.t 7)), none⟩, ⟨(some 24), (.faddr 0 (.t 2)), none⟩, ⟨(some 25), (.load false 1 (.t 24)), none⟩, ⟨(some 26), (.len (.t 25)), none⟩, ⟨(some 27), (.bin .lss (.t 23) (.t 26)), none⟩]) (.cond (.t 27) .skip (.exit 0))) (.seq (.block 1 (.seq (.ops [⟨(some 31), (.load true 6 (.t 2)), none⟩, ⟨(some 32), (.mov (.t 7)), none⟩, ⟨(some 33), (.mov (.t 1)), none⟩, ⟨(some 34), (.call (.c (.fn 26 [])) [(.t 31), (.t 32), (.t 33)]), none⟩, ⟨(some 30), (.mov (.t 34)), none⟩, ⟨(some 35), (.extract (.t 30) 0), none⟩, ⟨(some 36), (.extract (.t 30) 1), none⟩, ⟨(some 8), (.mov (.t 35)), none⟩, ⟨(some 9), (.mov (.t 36)), none⟩]) (.seq (.ops [⟨(some 37), (.mov (.t 8)), none⟩, ⟨(some 38), (.faddr 5 (.t 2)), none⟩, ⟨(some 39), (.load false 1 (.t 38)), none⟩, ⟨(some 40), (.faddr 4 (.t 2)), none⟩, ⟨(some 41), (.load false 1 (.t 40)), none⟩, ⟨(some 42), (.call (.c (.fn 58 [])) [(.t 37), (.t 39), (.t 41), (.c (.int .i64 0))]), none⟩]) (.cond (.t 42) (.ops [⟨(some 43), (.mov (.t 6)), none⟩, ⟨(some 44), (.mov (.t 7)), none⟩, ⟨(some 45), (.blist 1 [(.int .i64 0)] 1 [(0, (.t 44))]), none⟩, ⟨(some 46), (.append 1 8 (.t 43) (.t 45)), none⟩, ⟨(some 6), (.mov (.t 46)), none⟩]) .skip)))) (.ops [⟨(some 28), (.mov (.t 7)), none⟩, ⟨(some 29), (.bin .add (.t 28) (.c (.int .i64 1))), none⟩, ⟨(some 7), (.mov (.t 29)), none⟩])))))) (.seq (.ops [⟨(some 47), (.mov (.t 6)), none⟩, ⟨(some 4), (.mov (.t 47)), none⟩, ⟨(some 5), (.mov (.c (.int .i64 0))), none⟩]) .ret)))))), false⟩
theorem e35 : T 35 = some c35 := by kernel_rfl
/- 36: slices.IsSorted[[]int,int] -/
def c36 : Fun1 := ⟨[(.tmp 2)], (.seq (.ops [⟨(some 2), (.mov (.c (.bool false))), none⟩]) (.seq (.seq (.ops [⟨(some 4), (.mov (.t 0)), none⟩, ⟨(some 5), (.len (.t 4)), none⟩, ⟨(some 6), (.bin .sub (.t 5) (.c (.int .i64 1))), none⟩, ⟨(some 3), (.mov (.t 6)), none⟩]) (.block 0 (.loop ⟨[0, 3], []⟩ (.seq (.seq (.ops [⟨(some 7), (.mov (.t 3)), none⟩, ⟨(some 8), (.bin .gtr (.t 7) (.c (.int .i64 0))), none⟩]) (.cond (.t 8) .skip (.exit 0))) (.seq (.block 1 (.seq (.drawn [(⟨(some 11), (.mov (.t 0)), none⟩, ⟨.pure, [], 0, 0⟩), (⟨(some 12), (.mov (.t 3)), none⟩, ⟨.pure, [], 0, 0⟩), (⟨(some 13), (.iaddrS 1 (.t 11) (.t 12)), none⟩, ⟨.seg, [], 0, 0⟩), (⟨(some 14), (.load false 1 (.t 13)), none⟩, ⟨.seg, [], 0, 0⟩), (⟨(some 15), (.mov (.t 0)), none⟩, ⟨.pure, [], 0, 0⟩), (⟨(some 16), (.mov (.t 3)), none⟩, ⟨.pure, [], 0, 0⟩), (⟨(some 17), (.bin .sub (.t 16) (.c (.int .i64 1))), none⟩, ⟨.pure, [], 0, 0⟩), (⟨(some 18), (.iaddrS 1 (.t 15) (.t 17)), none⟩, ⟨.seg, [], 0, 0⟩), (⟨(some 19), (.load false 1 (.t 18)), none⟩, ⟨.seg, [], 0, 0⟩), (⟨(some 20), (.call (.c (.fn 59 [])) [(.t 14), (.t 19)]), none⟩, ⟨.bar, [], 0, 0⟩)]) (.cond (.t 20) (.seq (.ops [⟨(some 2), (.mov (.c (.bool false))), none⟩]) .ret) .skip))) (.ops [⟨(some 9), (.mov (.t 3)), none⟩, ⟨(some 10), (.bin .sub (.t 9) (.c (.int .i64 1))), none⟩, ⟨(some 3), (.mov (.t 10)), none⟩])))))) (.seq (.ops [⟨(some 2), (.mov (.c (.bool true))), none⟩]) .ret))), false⟩
theorem e36 : T 36 = some c36 := by kernel_rfl
/- 37: slices.Contains[[]int,int] -/
def c37 : Fun1 := ⟨[(.tmp 4)], (.seq (.ops [⟨(some 4), (.mov (.c (.bool false))), none⟩]) (.seq (.ops [⟨(some 5), (.mov (.t 0)), none⟩, ⟨(some 6), (.mov (.t 1)), none⟩, ⟨(some 7), (.call (.c (.fn 60 [])) [(.t 5), (.t 6)]), none⟩, ⟨(some 8), (.bin .geq (.t 7) (.c (.int .i64 0))), none⟩, ⟨(some 4), (.mov (.t 8)), none⟩]) .ret)), false⟩
theorem e37 : T 37 = some c37 := by kernel_rfl
/- 38: slices.ContainsFunc[[]hopmesh/api.Point,hopmesh/api.Point] -/
def c38 : Fun1 := ⟨[(.tmp 4)], (.seq (.ops [⟨(some 4), (.mov (.c (.bool false))), none⟩]) (.seq (.ops [⟨(some 5), (.mov (.t 0)), none⟩, ⟨(some 6), (.mov (.t 1)), none⟩, ⟨(some 7), (.call (.c (.fn 61 [])) [(.t 5), (.t 6)]), none⟩, ⟨(some 8), (.bin .geq (.t 7) (.c (.int .i64 0))), none⟩, ⟨(some 4), (.mov (.t 8)), none⟩]) .ret)), false⟩
theorem e38 : T 38 = some c38 := by kernel_rfl
/- 39: hopmesh/hopmeshlaw05.near$1 -/
def c39 : Fun1 := ⟨[(.tmp 2)], (.seq (.ops [⟨(some 1), (.box (.t 0)), none⟩, ⟨(some 2), (.mov (.c (.bool false))), none⟩]) (.seq (.ops [⟨(some 3), (.faddr 0 (.t 1)), none⟩, ⟨(some 4), (.load false 1 (.t 3)), none⟩, ⟨(some 5), (.bin .lss (.t 4) (.c (.int .i64 (-20000)))), none⟩, ⟨(some 6), (.mov (.t 5)), none⟩, ⟨(some 7), (.faddr 0 (.t 1)), (some (6, false))⟩, ⟨(some 8), (.load false 1 (.t 7)), (some (6, false))⟩, ⟨(some 9), (.bin .gtr (.t 8) (.c (.int .i64 20000))), (some (6, false))⟩, ⟨(some 10), (.pick (.t 6) (.c (.bool true)) (.t 9)), none⟩, ⟨(some 11), (.mov (.t 10)), none⟩, ⟨(some 12), (.faddr 1 (.t 1)), (some (11, false))⟩, ⟨(some 13), (.load false 1 (.t 12)), (some (11, false))⟩, ⟨(some 14), (.bin .lss (.t 13) (.c (.int .i64 (-20000)))), (some (11, false))⟩, ⟨(some 15), (.pick (.t 11) (.c (.bool true)) (.t 14)), none⟩, ⟨(some 16), (.mov (.t 15)), none⟩, ⟨(some 17), (.faddr 1 (.t 1)), (some (16, false))⟩, ⟨(some 18), (.load false 1 (.t 17)), (some (16, false))⟩, ⟨(some 19), (.bin .gtr (.t 18) (.c (.int .i64 20000))), (some (16, false))⟩, ⟨(some 20), (.pick (.t 16) (.c (.bool true)) (.t 19)), none⟩, ⟨(some 2), (.mov (.t 20)), none⟩]) .ret)), false⟩
theorem e39 : T 39 = some c39 := by kernel_rfl
/- 40: hopmesh/geometry.on -/
def c40 : Fun1 := ⟨[(.tmp 6)], (.seq (.ops [⟨(some 3), (.box (.t 0)), none⟩, ⟨(some 4), (.box (.t 1)), none⟩, ⟨(some 5), (.box (.t 2)), none⟩, ⟨(some 6), (.mov (.c (.bool false))), none⟩]) (.seq (.ops [⟨(some 7), (.load true 2 (.t 3)), none⟩, ⟨(some 8), (.load true 2 (.t 4)), none⟩, ⟨(some 9), (.eqAgg false [.i, .i] (.t 7) (.t 8)), none⟩, ⟨(some 10), (.mov (.t 9)), none⟩, ⟨(some 11), (.load true 2 (.t 3)), (some (10, false))⟩, ⟨(some 12), (.load true 2 (.t 5)), (some (10, false))⟩, ⟨(some 13), (.eqAgg false [.i, .i] (.t 11) (.t 12)), (some (10, false))⟩, ⟨(some 14), (.pick (.t 10) (.c (.bool true)) (.t 13)), none⟩, ⟨(some 15), (.mov (.t 14)), none⟩, ⟨(some 16), (.load true 2 (.t 4)), (some (15, false))⟩, ⟨(some 17), (.load true 2 (.t 5)), (some (15, false))⟩, ⟨(some 18), (.load true 2 (.t 3)), (some (15, false))⟩, ⟨(some 19), (.call (.c (.fn 41 [])) [(.t 16), (.t 17), (.t 18)]), (some (15, false))⟩, ⟨(some 20), (.bin .eql (.t 19) (.c (.int .i64 0))), (some (15, false))⟩, ⟨(some 21), (.mov (.t 20)), (some (15, false))⟩, ⟨(some 22), (.load true 2 (.t 3)), (some (21, true))⟩, ⟨(some 23), (.load true 2 (.t 4)), (some (21, true))⟩, ⟨(some 24), (.load true 2 (.t 5)), (some (21, true))⟩, ⟨(some 25), (.call (.c (.fn 62 [])) [(.t 22), (.t 23), (.t 24)]), (some (21, true))⟩, ⟨(some 26), (.pick (.t 21) (.t 25) (.c (.bool false))), (some (15, false))⟩, ⟨(some 27), (.pick (.t 15) (.c (.bool true)) (.t 26)), none⟩, ⟨(some 6), (.mov (.t 27)), none⟩]) .ret)), false⟩
theorem e40 : T 40 = some c40 := by kernel_rfl
/- 41: hopmesh/geometry.turn -/
def c41 : Fun1 := ⟨[(.tmp 6)], (.seq (.ops [⟨(some 3), (.box (.t 0)), none⟩, ⟨(some 4), (.box (.t 1)), none⟩, ⟨(some 5), (.box (.t 2)), none⟩, ⟨(some 6), (.mov (.c (.int .i64 0))), none⟩]) (.seq (.ops [⟨(some 7), (.faddr 0 (.t 4)), none⟩, ⟨(some 8), (.load false 1 (.t 7)), none⟩, ⟨(some 9), (.faddr 0 (.t 3)), none⟩, ⟨(some 10), (.load false 1 (.t 9)), none⟩, ⟨(some 11), (.bin .sub (.t 8) (.t 10)), none⟩, ⟨(some 12), (.faddr 1 (.t 5)), none⟩, ⟨(some 13), (.load false 1 (.t 12)), none⟩, ⟨(some 14), (.faddr 1 (.t 3)), none⟩, ⟨(some 15), (.load false 1 (.t 14)), none⟩, ⟨(some 16), (.bin .sub (.t 13) (.t 15)), none⟩, ⟨(some 17), (.bin .mul (.t 11) (.t 16)), none⟩, ⟨(some 18), (.faddr 1 (.t 4)), none⟩, ⟨(some 19), (.load false 1 (.t 18)), none⟩, ⟨(some 20), (.faddr 1 (.t 3)), none⟩, ⟨(some 21), (.load false 1 (.t 20)), none⟩, ⟨(some 22), (.bin .sub (.t 19) (.t 21)), none⟩, ⟨(some 23), (.faddr 0 (.t 5)), none⟩, ⟨(some 24), (.load false 1 (.t 23)), none⟩, ⟨(some 25), (.faddr 0 (.t 3)), none⟩, ⟨(some 26), (.load false 1 (.t 25)), none⟩, ⟨(some 27), (.bin .sub (.t 24) (.t 26)), none⟩, ⟨(some 28), (.bin .mul (.t 22) (.t 27)), none⟩, ⟨(some 29), (.call (.c (.fn 63 [])) [(.t 17), (.t 28)]), none⟩, ⟨(some 6), (.mov (.t 29)), none⟩]) .ret)), false⟩
theorem e41 : T 41 = some c41 := by kernel_rfl
/- 42: hopmesh/hopmeshref05.turn -/
def c42 : Fun1 := ⟨[(.tmp 6)], (.seq (.ops [⟨(some 3), (.box (.t 0)), none⟩, ⟨(some 4), (.box (.t 1)), none⟩, ⟨(some 5), (.box (.t 2)), none⟩, ⟨(some 6), (.mov (.c (.int .i64 0))), none⟩]) (.seq (.ops [⟨(some 8), (.faddr 0 (.t 4)), none⟩, ⟨(some 9), (.load false 1 (.t 8)), none⟩, ⟨(some 10), (.faddr 0 (.t 3)), none⟩, ⟨(some 11), (.load false 1 (.t 10)), none⟩, ⟨(some 12), (.bin .sub (.t 9) (.t 11)), none⟩, ⟨(some 13), (.faddr 1 (.t 5)), none⟩, ⟨(some 14), (.load false 1 (.t 13)), none⟩, ⟨(some 15), (.faddr 1 (.t 3)), none⟩, ⟨(some 16), (.load false 1 (.t 15)), none⟩, ⟨(some 17), (.bin .sub (.t 14) (.t 16)), none⟩, ⟨(some 18), (.bin .mul (.t 12) (.t 17)), none⟩, ⟨(some 19), (.faddr 1 (.t 4)), none⟩, ⟨(some 20), (.load false 1 (.t 19)), none⟩, ⟨(some 21), (.faddr 1 (.t 3)), none⟩, ⟨(some 22), (.load false 1 (.t 21)), none⟩, ⟨(some 23), (.bin .sub (.t 20) (.t 22)), none⟩, ⟨(some 24), (.faddr 0 (.t 5)), none⟩, ⟨(some 25), (.load false 1 (.t 24)), none⟩, ⟨(some 26), (.faddr 0 (.t 3)), none⟩, ⟨(some 27), (.load false 1 (.t 26)), none⟩, ⟨(some 28), (.bin .sub (.t 25) (.t 27)), none⟩, ⟨(some 29), (.bin .mul (.t 23) (.t 28)), none⟩, ⟨(some 30), (.bin .sub (.t 18) (.t 29)), none⟩, ⟨(some 7), (.mov (.t 30)), none⟩]) (.seq (.seq (.ops [⟨(some 31), (.mov (.t 7)), none⟩, ⟨(some 32), (.bin .gtr (.t 31) (.c (.int .i64 0))), none⟩]) (.cond (.t 32) (.seq (.ops [⟨(some 6), (.mov (.c (.int .i64 1))), none⟩]) .ret) .skip)) (.seq (.seq (.ops [⟨(some 33), (.mov (.t 7)), none⟩, ⟨(some 34), (.bin .lss (.t 33) (.c (.int .i64 0))), none⟩]) (.cond (.t 34) (.seq (.ops [⟨(some 6), (.mov (.c (.int .i64 (-1)))), none⟩]) .ret) .skip)) (.seq (.ops [⟨(some 6), (.mov (.c (.int .i64 0))), none⟩]) .ret))))), false⟩
theorem e42 : T 42 = some c42 := by kernel_rfl
/- 43: hopmesh/hopmeshref05.within -/
def c43 : Fun1 := ⟨[(.tmp 6)], (.seq (.ops [⟨(some 3), (.box (.t 0)), none⟩, ⟨(some 4), (.box (.t 1)), none⟩, ⟨(some 5), (.box (.t 2)), none⟩, ⟨(some 6), (.mov (.c (.bool false))), none⟩]) (.seq (.ops [⟨(some 7), (.faddr 0 (.t 3)), none⟩, ⟨(some 8), (.load false 1 (.t 7)), none⟩, ⟨(some 9), (.faddr 0 (.t 4)), none⟩, ⟨(some 10), (.load false 1 (.t 9)), none⟩, ⟨(some 11), (.minI [(.t 8), (.t 10)]), none⟩, ⟨(some 12), (.faddr 0 (.t 5)), none⟩, ⟨(some 13), (.load false 1 (.t 12)), none⟩, ⟨(some 14), (.bin .leq (.t 11) (.t 13)), none⟩, ⟨(some 15), (.mov (.t 14)), none⟩, ⟨(some 16), (.faddr 0 (.t 5)), (some (15, true))⟩, ⟨(some 17), (.load false 1 (.t 16)), (some (15, true))⟩, ⟨(some 18), (.faddr 0 (.t 3)), (some (15, true))⟩, ⟨(some 19), (.load false 1 (.t 18)), (some (15, true))⟩, ⟨(some 20), (.faddr 0 (.t 4)), (some (15, true))⟩, ⟨(some 21), (.load false 1 (.t 20)), (some (15, true))⟩, ⟨(some 22), (.maxI [(.t 19), (.t 21)]), (some (15, true))⟩, ⟨(some 23), (.bin .leq (.t 17) (.t 22)), (some (15, true))⟩, ⟨(some 24), (.pick (.t 15) (.t 23) (.c (.bool false))), none⟩, ⟨(some 25), (.mov (.t 24)), none⟩, ⟨(some 26), (.faddr 1 (.t 3)), (some (25, true))⟩, ⟨(some 27), (.load false 1 (.t 26)), (some (25, true))⟩, ⟨(some 28), (.faddr 1 (.t 4)), (some (25, true))⟩, ⟨(some 29), (.load false 1 (.t 28)), (some (25, true))⟩, ⟨(some 30), (.minI [(.t 27), (.t 29)]), (some (25, true))⟩, ⟨(some 31), (.faddr 1 (.t 5)), (some (25, true))⟩, ⟨(some 32), (.load false 1 (.t 31)), (some (25, true))⟩, ⟨(some 33), (.bin .leq (.t 30) (.t 32)), (some (25, true))⟩, ⟨(some 34), (.pick (.t 25) (.t 33) (.c (.bool false))), none⟩, ⟨(some 35), (.mov (.t 34)), none⟩, ⟨(some 36), (.faddr 1 (.t 5)), (some (35, true))⟩, ⟨(some 37), (.load false 1 (.t 36)), (some (35, true))⟩, ⟨(some 38), (.faddr 1 (.t 3)), (some (35, true))⟩, ⟨(some 39), (.load false 1 (.t 38)), (some (35, true))⟩, ⟨(some 40), (.faddr 1 (.t 4)), (some (35, true))⟩, ⟨(some 41), (.load false 1 (.t 40)), (some (35, true))⟩, ⟨(some 42), (.maxI [(.t 39), (.t 41)]), (some (35, true))⟩, ⟨(some 43), (.bin .leq (.t 37) (.t 42)), (some (35, true))⟩, ⟨(some 44), (.pick (.t 35) (.t 43) (.c (.bool false))), none⟩, ⟨(some 6), (.mov (.t 44)), none⟩]) .ret)), false⟩
theorem e43 : T 43 = some c43 := by kernel_rfl
/- 44: hopmesh/geometry.point -/
def c44 : Fun1 := ⟨[(.tmp 2)], (.seq (.ops [⟨(some 1), (.box (.t 0)), none⟩, ⟨(some 2), (.mov (.c (.bool false))), none⟩]) (.seq (.ops [⟨(some 3), (.faddr 0 (.t 1)), none⟩, ⟨(some 4), (.load false 1 (.t 3)), none⟩, ⟨(some 5), (.faddr 1 (.t 1)), none⟩, ⟨(some 6), (.load false 1 (.t 5)), none⟩, ⟨(some 7), (.minI [(.t 4), (.t 6)]), none⟩, ⟨(some 8), (.bin .geq (.t 7) (.c (.int .i64 0))), none⟩, ⟨(some 9), (.mov (.t 8)), none⟩, ⟨(some 10), (.faddr 0 (.t 1)), (some (9, true))⟩, ⟨(some 11), (.load false 1 (.t 10)), (some (9, true))⟩, ⟨(some 12), (.faddr 1 (.t 1)), (some (9, true))⟩, ⟨(some 13), (.load false 1 (.t 12)), (some (9, true))⟩, ⟨(some 14), (.maxI [(.t 11), (.t 13)]), (some (9, true))⟩, ⟨(some 15), (.bin .leq (.t 14) (.c (.int .i64 10000))), (some (9, true))⟩, ⟨(some 16), (.pick (.t 9) (.t 15) (.c (.bool false))), none⟩, ⟨(some 2), (.mov (.t 16)), none⟩]) .ret)), false⟩
theorem e44 : T 44 = some c44 := by kernel_rfl
/- 45: hopmesh/geometry.isPower -/
def c45 : Fun1 := ⟨[(.tmp 2)], (.seq (.ops [⟨(some 2), (.mov (.c (.bool false))), none⟩]) (.seq (.ops [⟨(some 3), (.mov (.t 0)), none⟩, ⟨(some 4), (.bin .geq (.t 3) (.c (.int .i64 0))), none⟩, ⟨(some 5), (.mov (.t 4)), none⟩, ⟨(some 6), (.mov (.t 0)), (some (5, true))⟩, ⟨(some 7), (.bin .leq (.t 6) (.c (.int .i64 68719476736))), (some (5, true))⟩, ⟨(some 8), (.pick (.t 5) (.t 7) (.c (.bool false))), none⟩, ⟨(some 2), (.mov (.t 8)), none⟩]) .ret)), false⟩
theorem e45 : T 45 = some c45 := by kernel_rfl
/- 46: hopmesh/geometry.at -/
def c46 : Fun1 := ⟨[(.tmp 8)], (.seq (.ops [⟨(some 4), (.box (.t 0)), none⟩, ⟨(some 5), (.box (.t 1)), none⟩, ⟨(some 6), (.box (.t 2)), none⟩, ⟨(some 7), (.box (.t 3)), none⟩, ⟨(some 8), (.mov (.c (.int .i64 0))), none⟩]) (.seq (.ops [⟨(some 11), (.load true 2 (.t 5)), none⟩, ⟨(some 12), (.load true 2 (.t 7)), none⟩, ⟨(some 13), (.call (.c (.fn 13 [])) [(.t 11), (.t 12)]), none⟩, ⟨(some 14), (.maxI [(.t 13), (.c (.int .i64 100))]), none⟩, ⟨(some 9), (.mov (.t 14)), none⟩]) (.seq (.ops [⟨(some 15), (.load false 1 (.t 6)), none⟩, ⟨(some 16), (.bin .mul (.t 15) (.c (.int .i64 100))), none⟩, ⟨(some 17), (.mov (.t 9)), none⟩, ⟨(some 18), (.bin .quo (.t 16) (.t 17)), none⟩, ⟨none, (.store 1 (.t 6) (.t 18)), none⟩]) (.seq (.seq (.ops [⟨(some 19), (.faddr 3 (.t 4)), none⟩, ⟨(some 20), (.load false 1 (.t 19)), none⟩, ⟨(some 21), (.bin .eql (.t 20) (.c (.int .i64 4))), none⟩]) (.cond (.t 21) (.ops [⟨(some 22), (.load false 1 (.t 6)), none⟩, ⟨(some 23), (.bin .mul (.t 22) (.c (.int .i64 100))), none⟩, ⟨(some 24), (.mov (.t 9)), none⟩, ⟨(some 25), (.bin .quo (.t 23) (.t 24)), none⟩, ⟨none, (.store 1 (.t 6) (.t 25)), none⟩]) .skip)) (.seq (.seq (.ops [⟨(some 26), (.load true 6 (.t 4)), none⟩, ⟨(some 27), (.load true 2 (.t 5)), none⟩, ⟨(some 28), (.load true 2 (.t 7)), none⟩, ⟨(some 29), (.call (.c (.fn 64 [])) [(.t 26), (.t 27), (.t 28)]), none⟩]) (.block 0 (.rangeF (.t 29) [30] (.ops [⟨(some 10), (.alloc [(.int .i64 0), (.int .i64 0), (.int .i64 0), (.int .i64 0), (.int .i64 0)]), none⟩, ⟨none, (.store 5 (.t 10) (.t 30)), none⟩]) (.block 1 (.ops [⟨(some 32), (.load false 1 (.t 6)), none⟩, ⟨(some 33), (.faddr 4 (.t 10)), none⟩, ⟨(some 34), (.load false 1 (.t 33)), none⟩, ⟨(some 35), (.call (.c (.fn 65 [])) [(.t 32), (.t 34)]), none⟩, ⟨(some 31), (.mov (.t 35)), none⟩, ⟨(some 36), (.extract (.t 31) 0), none⟩, ⟨(some 37), (.extract (.t 31) 1), none⟩, ⟨none, (.store 1 (.t 6) (.t 36)), none⟩]))))) (.seq (.ops [⟨(some 38), (.load false 1 (.t 6)), none⟩, ⟨(some 8), (.mov (.t 38)), none⟩]) .ret)))))), false⟩
theorem e46 : T 46 = some c46 := by kernel_rfl
/- 47: hopmesh/geometry.Check$1 -/
def c47 : Fun1 := ⟨[(.tmp 2)], (.seq (.ops [⟨(some 1), (.box (.t 0)), none⟩, ⟨(some 2), (.mov (.c (.bool false))), none⟩]) (.seq (.ops [⟨(some 3), (.load true 2 (.t 1)), none⟩, ⟨(some 4), (.call (.c (.fn 44 [])) [(.t 3)]), none⟩, ⟨(some 5), (.notB (.t 4)), none⟩, ⟨(some 2), (.mov (.t 5)), none⟩]) .ret)), false⟩
theorem e47 : T 47 = some c47 := by kernel_rfl
/- 48: slices.ContainsFunc[[]int,int] -/
def c48 : Fun1 := ⟨[(.tmp 4)], (.seq (.ops [⟨(some 4), (.mov (.c (.bool false))), none⟩]) (.seq (.ops [⟨(some 5), (.mov (.t 0)), none⟩, ⟨(some 6), (.mov (.t 1)), none⟩, ⟨(some 7), (.call (.c (.fn 66 [])) [(.t 5), (.t 6)]), none⟩, ⟨(some 8), (.bin .geq (.t 7) (.c (.int .i64 0))), none⟩, ⟨(some 4), (.mov (.t 8)), none⟩]) .ret)), false⟩
theorem e48 : T 48 = some c48 := by kernel_rfl
/- 49: hopmesh/geometry.Check$2 -/
def c49 : Fun1 := ⟨[(.tmp 2)], (.seq (.ops [⟨(some 2), (.mov (.c (.bool false))), none⟩]) (.seq (.ops [⟨(some 3), (.mov (.t 0)), none⟩, ⟨(some 4), (.call (.c (.fn 45 [])) [(.t 3)]), none⟩, ⟨(some 5), (.notB (.t 4)), none⟩, ⟨(some 2), (.mov (.t 5)), none⟩]) .ret)), false⟩
theorem e49 : T 49 = some c49 := by kernel_rfl
/- 50: slices.ContainsFunc[[]hopmesh/api.Wall,hopmesh/api.Wall] -/
def c50 : Fun1 := ⟨[(.tmp 4)], (.seq (.ops [⟨(some 4), (.mov (.c (.bool false))), none⟩]) (.seq (.ops [⟨(some 5), (.mov (.t 0)), none⟩, ⟨(some 6), (.mov (.t 1)), none⟩, ⟨(some 7), (.call (.c (.fn 67 [])) [(.t 5), (.t 6)]), none⟩, ⟨(some 8), (.bin .geq (.t 7) (.c (.int .i64 0))), none⟩, ⟨(some 4), (.mov (.t 8)), none⟩]) .ret)), false⟩
theorem e50 : T 50 = some c50 := by kernel_rfl
/- 51: hopmesh/geometry.Check$3 -/
def c51 : Fun1 := ⟨[(.tmp 3)], (.seq (.ops [⟨(some 2), (.box (.t 0)), none⟩, ⟨(some 3), (.mov (.c (.bool false))), none⟩]) (.seq (.ops [⟨(some 4), (.load false 1 (.t 1)), none⟩, ⟨(some 5), (.faddr 0 (.t 2)), none⟩, ⟨(some 6), (.load true 2 (.t 5)), none⟩, ⟨(some 7), (.call (.t 4) [(.t 6)]), none⟩, ⟨(some 8), (.mov (.t 7)), none⟩, ⟨(some 9), (.load false 1 (.t 1)), (some (8, false))⟩, ⟨(some 10), (.faddr 2 (.t 2)), (some (8, false))⟩, ⟨(some 11), (.load true 2 (.t 10)), (some (8, false))⟩, ⟨(some 12), (.call (.t 9) [(.t 11)]), (some (8, false))⟩, ⟨(some 13), (.pick (.t 8) (.c (.bool true)) (.t 12)), none⟩, ⟨(some 14), (.mov (.t 13)), none⟩, ⟨(some 15), (.faddr 4 (.t 2)), (some (14, false))⟩, ⟨(some 16), (.load false 1 (.t 15)), (some (14, false))⟩, ⟨(some 17), (.bin .lss (.t 16) (.c (.int .i64 0))), (some (14, false))⟩, ⟨(some 18), (.pick (.t 14) (.c (.bool true)) (.t 17)), none⟩, ⟨(some 19), (.mov (.t 18)), none⟩, ⟨(some 20), (.faddr 4 (.t 2)), (some (19, false))⟩, ⟨(some 21), (.load false 1 (.t 20)), (some (19, false))⟩, ⟨(some 22), (.bin .gtr (.t 21) (.c (.int .i64 1000))), (some (19, false))⟩, ⟨(some 23), (.pick (.t 19) (.c (.bool true)) (.t 22)), none⟩, ⟨(some 3), (.mov (.t 23)), none⟩]) .ret)), false⟩
theorem e51 : T 51 = some c51 := by kernel_rfl
/- 52: hopmesh/hopmeshref05.Point -/
def c52 : Fun1 := ⟨[(.tmp 2)], (.seq (.ops [⟨(some 1), (.box (.t 0)), none⟩, ⟨(some 2), (.mov (.c (.bool false))), none⟩]) (.seq (.ops [⟨(some 3), (.faddr 0 (.t 1)), none⟩, ⟨(some 4), (.load false 1 (.t 3)), none⟩, ⟨(some 5), (.bin .geq (.t 4) (.c (.int .i64 0))), none⟩, ⟨(some 6), (.mov (.t 5)), none⟩, ⟨(some 7), (.faddr 0 (.t 1)), (some (6, true))⟩, ⟨(some 8), (.load false 1 (.t 7)), (some (6, true))⟩, ⟨(some 9), (.bin .leq (.t 8) (.c (.int .i64 10000))), (some (6, true))⟩, ⟨(some 10), (.pick (.t 6) (.t 9) (.c (.bool false))), none⟩, ⟨(some 11), (.mov (.t 10)), none⟩, ⟨(some 12), (.faddr 1 (.t 1)), (some (11, true))⟩, ⟨(some 13), (.load false 1 (.t 12)), (some (11, true))⟩, ⟨(some 14), (.bin .geq (.t 13) (.c (.int .i64 0))), (some (11, true))⟩, ⟨(some 15), (.pick (.t 11) (.t 14) (.c (.bool false))), none⟩, ⟨(some 16), (.mov (.t 15)), none⟩, ⟨(some 17), (.faddr 1 (.t 1)), (some (16, true))⟩, ⟨(some 18), (.load false 1 (.t 17)), (some (16, true))⟩, ⟨(some 19), (.bin .leq (.t 18) (.c (.int .i64 10000))), (some (16, true))⟩, ⟨(some 20), (.pick (.t 16) (.t 19) (.c (.bool false))), none⟩, ⟨(some 2), (.mov (.t 20)), none⟩]) .ret)), false⟩
theorem e52 : T 52 = some c52 := by kernel_rfl
/- 53: hopmesh/hopmeshref04.Is -/
def c53 : Fun1 := ⟨[(.tmp 2)], (.seq (.ops [⟨(some 2), (.mov (.c (.bool false))), none⟩]) (.seq (.ops [⟨(some 3), (.mov (.t 0)), none⟩, ⟨(some 4), (.bin .geq (.t 3) (.c (.int .i64 0))), none⟩, ⟨(some 5), (.mov (.t 4)), none⟩, ⟨(some 6), (.mov (.t 0)), (some (5, true))⟩, ⟨(some 7), (.bin .leq (.t 6) (.c (.int .i64 68719476736))), (some (5, true))⟩, ⟨(some 8), (.pick (.t 5) (.t 7) (.c (.bool false))), none⟩, ⟨(some 2), (.mov (.t 8)), none⟩]) .ret)), false⟩
theorem e53 : T 53 = some c53 := by kernel_rfl
/- 54: hopmesh/hopmeshref05.at -/
def c54 : Fun1 := ⟨[(.tmp 8)], (.seq (.ops [⟨(some 4), (.box (.t 0)), none⟩, ⟨(some 5), (.box (.t 1)), none⟩, ⟨(some 7), (.box (.t 3)), none⟩, ⟨(some 8), (.mov (.c (.int .i64 0))), none⟩]) (.seq (.ops [⟨(some 12), (.load true 2 (.t 5)), none⟩, ⟨(some 13), (.load true 2 (.t 7)), none⟩, ⟨(some 14), (.call (.c (.fn 14 [])) [(.t 12), (.t 13)]), none⟩, ⟨(some 15), (.maxI [(.t 14), (.c (.int .i64 100))]), none⟩, ⟨(some 9), (.mov (.t 15)), none⟩]) (.seq (.ops [⟨(some 16), (.mov (.t 2)), none⟩, ⟨(some 17), (.bin .mul (.t 16) (.c (.int .i64 100))), none⟩, ⟨(some 18), (.mov (.t 9)), none⟩, ⟨(some 19), (.bin .quo (.t 17) (.t 18)), none⟩, ⟨(some 10), (.mov (.t 19)), none⟩]) (.seq (.seq (.ops [⟨(some 20), (.faddr 3 (.t 4)), none⟩, ⟨(some 21), (.load false 1 (.t 20)), none⟩, ⟨(some 22), (.bin .eql (.t 21) (.c (.int .i64 4))), none⟩]) (.cond (.t 22) (.ops [⟨(some 23), (.mov (.t 10)), none⟩, ⟨(some 24), (.bin .mul (.t 23) (.c (.int .i64 100))), none⟩, ⟨(some 25), (.mov (.t 9)), none⟩, ⟨(some 26), (.bin .quo (.t 24) (.t 25)), none⟩, ⟨(some 10), (.mov (.t 26)), none⟩]) .skip)) (.seq (.seq (.ops [⟨(some 11), (.mov (.c (.int .i64 0))), none⟩]) (.block 0 (.loop ⟨[4, 5, 7, 10, 11], []⟩ (.seq (.seq (.ops [⟨(some 27), (.mov (.t 11)), none⟩, ⟨(some 28), (.faddr 2 (.t 4)), none⟩, ⟨(some 29), (.load false 1 (.t 28)), none⟩, ⟨(some 30), (.len (.t 29)), none⟩, ⟨(some 31), (.bin .lss (.t 27) (.t 30)), none⟩]) (.cond (.t 31) .skip (.exit 0))) (.seq (.block 1 (.seq (.drawn [(⟨(some 34), (.load true 2 (.t 5)), none⟩, ⟨.seg, [], 0, 0⟩), (⟨(some 35), (.load true 2 (.t 7)), none⟩, ⟨.seg, [], 0, 0⟩), (⟨(some 36), (.faddr 2 (.t 4)), none⟩, ⟨.seg, [], 0, 0⟩), (⟨(some 37), (.load false 1 (.t 36)), none⟩, ⟨.seg, [], 0, 0⟩), (⟨(some 38), (.mov (.t 11)), none⟩, ⟨.pure, [], 0, 0⟩), (⟨(some 39), (.iaddrS 5 (.t 37) (.t 38)), none⟩, ⟨.seg, [], 0, 0⟩), (⟨(some 40), (.load true 5 (.t 39)), none⟩, ⟨.seg, [], 0, 0⟩), (⟨(some 41), (.call (.c (.fn 16 [])) [(.t 34), (.t 35), (.t 40)]), none⟩, ⟨.bar, [], 0, 0⟩)]) (.cond (.t 41) (.ops [⟨(some 42), (.mov (.t 10)), none⟩, ⟨(some 43), (.faddr 2 (.t 4)), none⟩, ⟨(some 44), (.load false 1 (.t 43)), none⟩, ⟨(some 45), (.mov (.t 11)), none⟩, ⟨(some 46), (.iaddrS 5 (.t 44) (.t 45)), none⟩, ⟨(some 47), (.faddr 4 (.t 46)), none⟩, ⟨(some 48), (.load false 1 (.t 47)), none⟩, ⟨(some 49), (.bin .mul (.t 42) (.t 48)), none⟩, ⟨(some 50), (.bin .quo (.t 49) (.c (.int .i64 1000))), none⟩, ⟨(some 10), (.mov (.t 50)), none⟩]) .skip))) (.ops [⟨(some 32), (.mov (.t 11)), none⟩, ⟨(some 33), (.bin .add (.t 32) (.c (.int .i64 1))), none⟩, ⟨(some 11), (.mov (.t 33)), none⟩])))))) (.seq (.ops [⟨(some 51), (.mov (.t 10)), none⟩, ⟨(some 8), (.mov (.t 51)), none⟩]) .ret)))))), false⟩
theorem e54 : T 54 = some c54 := by kernel_rfl
/- 55: hopmesh/geometry.between -/
def c55 : Fun1 := ⟨[(.tmp 6)], (.seq (.ops [⟨(some 3), (.box (.t 0)), none⟩, ⟨(some 6), (.mov (.c (.int .i64 0))), none⟩]) (.seq (.seq (.ops [⟨(some 7), (.mov (.t 1)), none⟩, ⟨(some 8), (.mov (.t 2)), none⟩, ⟨(some 9), (.bin .eql (.t 7) (.t 8)), none⟩]) (.cond (.t 9) (.seq (.ops [⟨(some 6), (.mov (.c (.int .i64 0))), none⟩]) .ret) .skip)) (.seq (.drawn [(⟨(some 10), (.load true 6 (.t 3)), none⟩, ⟨.seg, [], 0, 0⟩), (⟨(some 11), (.faddr 0 (.t 3)), none⟩, ⟨.seg, [], 0, 0⟩), (⟨(some 12), (.load false 1 (.t 11)), none⟩, ⟨.seg, [], 0, 0⟩), (⟨(some 13), (.mov (.t 1)), none⟩, ⟨.pure, [], 0, 0⟩), (⟨(some 14), (.iaddrS 2 (.t 12) (.t 13)), none⟩, ⟨.seg, [], 0, 0⟩), (⟨(some 15), (.load true 2 (.t 14)), none⟩, ⟨.seg, [], 0, 0⟩), (⟨(some 16), (.faddr 1 (.t 3)), none⟩, ⟨.seg, [], 0, 0⟩), (⟨(some 17), (.load false 1 (.t 16)), none⟩, ⟨.seg, [], 0, 0⟩), (⟨(some 18), (.mov (.t 1)), none⟩, ⟨.pure, [], 0, 0⟩), (⟨(some 19), (.iaddrS 1 (.t 17) (.t 18)), none⟩, ⟨.seg, [], 0, 0⟩), (⟨(some 20), (.load false 1 (.t 19)), none⟩, ⟨.seg, [], 0, 0⟩), (⟨(some 21), (.faddr 0 (.t 3)), none⟩, ⟨.seg, [], 0, 0⟩), (⟨(some 22), (.load false 1 (.t 21)), none⟩, ⟨.seg, [], 0, 0⟩), (⟨(some 23), (.mov (.t 2)), none⟩, ⟨.pure, [], 0, 0⟩), (⟨(some 24), (.iaddrS 2 (.t 22) (.t 23)), none⟩, ⟨.seg, [], 0, 0⟩), (⟨(some 25), (.load true 2 (.t 24)), none⟩, ⟨.seg, [], 0, 0⟩), (⟨(some 26), (.call (.c (.fn 46 [])) [(.t 10), (.t 15), (.t 20), (.t 25)]), none⟩, ⟨.bar, [], 0, 0⟩), (⟨(some 6), (.mov (.t 26)), none⟩, ⟨.pure, [], 0, 0⟩)]) .ret))), false⟩
theorem e55 : T 55 = some c55 := by kernel_rfl
/- 56: hopmesh/hopmeshref04.Right -/
def c56 : Fun1 := ⟨[(.tmp 4)], (.seq (.ops [⟨(some 4), (.mov (.c (.bool false))), none⟩]) (.seq (.ops [⟨(some 5), (.mov (.t 0)), none⟩, ⟨(some 6), (.bin .geq (.t 5) (.c (.int .i64 1000))), none⟩, ⟨(some 7), (.mov (.t 6)), none⟩, ⟨(some 8), (.mov (.t 0)), (some (7, true))⟩, ⟨(some 9), (.bin .leq (.t 8) (.c (.int .i64 100000))), (some (7, true))⟩, ⟨(some 10), (.pick (.t 7) (.t 9) (.c (.bool false))), none⟩, ⟨(some 11), (.mov (.t 10)), none⟩, ⟨(some 12), (.mov (.t 1)), (some (11, true))⟩, ⟨(some 13), (.bin .geq (.t 12) (.c (.int .i64 1))), (some (11, true))⟩, ⟨(some 14), (.pick (.t 11) (.t 13) (.c (.bool false))), none⟩, ⟨(some 15), (.mov (.t 14)), none⟩, ⟨(some 16), (.mov (.t 1)), (some (15, true))⟩, ⟨(some 17), (.bin .leq (.t 16) (.c (.int .i64 68719476736))), (some (15, true))⟩, ⟨(some 18), (.pick (.t 15) (.t 17) (.c (.bool false))), none⟩, ⟨(some 4), (.mov (.t 18)), none⟩]) .ret)), false⟩
theorem e56 : T 56 = some c56 := by kernel_rfl
/- 57: hopmesh/power.Received -/
def c57 : Fun1 := ⟨[(.tmp 8), (.tmp 9)], (.seq (.ops [⟨(some 8), (.mov (.c (.bool false))), none⟩, ⟨(some 9), (.mov (.c (.int .i64 0))), none⟩]) (.seq (.seq (.ops [⟨(some 12), (.mov (.t 0)), none⟩, ⟨(some 13), (.call (.c (.fn 68 [])) [(.t 12)]), none⟩, ⟨(some 14), (.notB (.t 13)), none⟩, ⟨(some 15), (.mov (.t 14)), none⟩, ⟨(some 16), (.mov (.t 1)), (some (15, false))⟩, ⟨(some 17), (.mov (.t 2)), (some (15, false))⟩, ⟨(some 18), (.call (.c (.fn 69 [])) [(.t 16), (.t 17)]), (some (15, false))⟩, ⟨(some 19), (.notB (.t 18)), (some (15, false))⟩, ⟨(some 20), (.pick (.t 15) (.c (.bool true)) (.t 19)), none⟩]) (.cond (.t 20) (.seq (.ops [⟨(some 8), (.mov (.c (.bool false))), none⟩, ⟨(some 9), (.mov (.c (.int .i64 2))), none⟩]) .ret) .skip)) (.seq (.ops [⟨(some 22), (.mov (.t 3)), none⟩, ⟨(some 23), (.call (.c (.fn 70 [])) [(.t 22)]), none⟩, ⟨(some 21), (.mov (.t 23)), none⟩, ⟨(some 24), (.extract (.t 21) 0), none⟩, ⟨(some 25), (.extract (.t 21) 1), none⟩, ⟨(some 10), (.mov (.t 24)), none⟩, ⟨(some 11), (.mov (.t 25)), none⟩]) (.seq (.seq (.ops [⟨(some 26), (.mov (.t 11)), none⟩, ⟨(some 27), (.bin .neq (.t 26) (.c (.int .i64 0))), none⟩]) (.cond (.t 27) (.seq (.ops [⟨(some 28), (.mov (.t 11)), none⟩, ⟨(some 8), (.mov (.c (.bool false))), none⟩, ⟨(some 9), (.mov (.t 28)), none⟩]) .ret) .skip)) (.seq (.ops [⟨(some 29), (.mov (.t 0)), none⟩, ⟨(some 30), (.bin .mul (.c (.int .i64 1000)) (.t 29)), none⟩, ⟨(some 31), (.mov (.t 1)), none⟩, ⟨(some 32), (.mov (.t 2)), none⟩, ⟨(some 33), (.mov (.t 10)), none⟩, ⟨(some 34), (.bin .add (.t 32) (.t 33)), none⟩, ⟨(some 35), (.bin .mul (.t 31) (.t 34)), none⟩, ⟨(some 36), (.bin .geq (.t 30) (.t 35)), none⟩, ⟨(some 8), (.mov (.t 36)), none⟩, ⟨(some 9), (.mov (.c (.int .i64 0))), none⟩]) .ret))))), false⟩
theorem e57 : T 57 = some c57 := by kernel_rfl
/- 58: hopmesh/hopmeshref04.Decide -/
def c58 : Fun1 := ⟨[(.tmp 8)], (.seq (.ops [⟨(some 8), (.mov (.c (.bool false))), none⟩]) (.seq (.ops [⟨(some 9), (.mov (.t 0)), none⟩, ⟨(some 10), (.bin .mul (.c (.int .i64 1000)) (.t 9)), none⟩, ⟨(some 11), (.mov (.t 1)), none⟩, ⟨(some 12), (.mov (.t 2)), none⟩, ⟨(some 13), (.mov (.t 3)), none⟩, ⟨(some 14), (.bin .add (.t 12) (.t 13)), none⟩, ⟨(some 15), (.bin .mul (.t 11) (.t 14)), none⟩, ⟨(some 16), (.bin .geq (.t 10) (.t 15)), none⟩, ⟨(some 8), (.mov (.t 16)), none⟩]) .ret)), false⟩
theorem e58 : T 58 = some c58 := by kernel_rfl
/- 59: cmp.Less[int] -/
def c59 : Fun1 := ⟨[(.tmp 4)], (.seq (.ops [⟨(some 4), (.mov (.c (.bool false))), none⟩]) (.seq (.ops [⟨(some 5), (.mov (.t 0)), none⟩, ⟨(some 6), (.call (.c (.fn 71 [])) [(.t 5)]), none⟩, ⟨(some 7), (.mov (.t 6)), none⟩, ⟨(some 8), (.mov (.t 1)), (some (7, true))⟩, ⟨(some 9), (.call (.c (.fn 71 [])) [(.t 8)]), (some (7, true))⟩, ⟨(some 10), (.notB (.t 9)), (some (7, true))⟩, ⟨(some 11), (.pick (.t 7) (.t 10) (.c (.bool false))), none⟩, ⟨(some 12), (.mov (.t 11)), none⟩, ⟨(some 13), (.mov (.t 0)), (some (12, false))⟩, ⟨(some 14), (.mov (.t 1)), (some (12, false))⟩, ⟨(some 15), (.bin .lss (.t 13) (.t 14)), (some (12, false))⟩, ⟨(some 16), (.pick (.t 12) (.c (.bool true)) (.t 15)), none⟩, ⟨(some 4), (.mov (.t 16)), none⟩]) .ret)), false⟩
theorem e59 : T 59 = some c59 := by kernel_rfl
/- 60: slices.Index[[]int,int] -/
def c60 : Fun1 := ⟨[(.tmp 4)], (.seq (.ops [⟨(some 4), (.mov (.c (.int .i64 0))), none⟩]) (.seq (.seq (.ops [⟨(some 6), (.mov (.t 0)), none⟩, ⟨(some 7), (.len (.t 6)), none⟩, ⟨(some 8), (.mov (.c (.int .i64 0))), none⟩]) (.block 0 (.loop ⟨[0, 1, 7, 8], []⟩ (.seq (.ops [⟨(some 9), (.bin .lss (.t 8) (.t 7)), none⟩]) (.seq (.cond (.t 9) .skip (.exit 0)) (.seq (.block 1 (.seq (.ops [⟨(some 10), (.mov (.t 8)), none⟩, ⟨(some 5), (.mov (.t 10)), none⟩]) (.seq (.ops [⟨(some 11), (.mov (.t 1)), none⟩, ⟨(some 12), (.mov (.t 0)), none⟩, ⟨(some 13), (.mov (.t 5)), none⟩, ⟨(some 14), (.iaddrS 1 (.t 12) (.t 13)), none⟩, ⟨(some 15), (.load false 1 (.t 14)), none⟩, ⟨(some 16), (.bin .eql (.t 11) (.t 15)), none⟩]) (.cond (.t 16) (.seq (.ops [⟨(some 17), (.mov (.t 5)), none⟩, ⟨(some 4), (.mov (.t 17)), none⟩]) .ret) .skip)))) (.ops [⟨(some 18), (.bin .add (.t 8) (.c (.int .i64 1))), none⟩, ⟨(some 8), (.mov (.t 18)), none⟩]))))))) (.seq (.ops [⟨(some 4), (.mov (.c (.int .i64 (-1)))), none⟩]) .ret))), false⟩
theorem e60 : T 60 = some c60 := by kernel_rfl
/- 61: slices.IndexFunc[[]hopmesh/api.Point,hopmesh/api.Point] -/
def c61 : Fun1 := ⟨[(.tmp 4)], (.seq (.ops [⟨(some 4), (.mov (.c (.int .i64 0))), none⟩]) (.seq (.seq (.ops [⟨(some 6), (.mov (.t 0)), none⟩, ⟨(some 7), (.len (.t 6)), none⟩, ⟨(some 8), (.mov (.c (.int .i64 0))), none⟩]) (.block 0 (.loop ⟨[0, 1, 7, 8], []⟩ (.seq (.ops [⟨(some 9), (.bin .lss (.t 8) (.t 7)), none⟩]) (.seq (.cond (.t 9) .skip (.exit 0)) (.seq (.block 1 (.seq (.ops [⟨(some 10), (.mov (.t 8)), none⟩, ⟨(some 5), (.mov (.t 10)), none⟩]) (.seq (.ops [⟨(some 11), (.mov (.t 1)), none⟩, ⟨(some 12), (.mov (.t 0)), none⟩, ⟨(some 13), (.mov (.t 5)), none⟩, ⟨(some 14), (.iaddrS 2 (.t 12) (.t 13)), none⟩, ⟨(some 15), (.load true 2 (.t 14)), none⟩, ⟨(some 16), (.call (.t 11) [(.t 15)]), none⟩]) (.cond (.t 16) (.seq (.ops [⟨(some 17), (.mov (.t 5)), none⟩, ⟨(some 4), (.mov (.t 17)), none⟩]) .ret) .skip)))) (.ops [⟨(some 18), (.bin .add (.t 8) (.c (.int .i64 1))), none⟩, ⟨(some 8), (.mov (.t 18)), none⟩]))))))) (.seq (.ops [⟨(some 4), (.mov (.c (.int .i64 (-1)))), none⟩]) .ret))), false⟩
theorem e61 : T 61 = some c61 := by kernel_rfl
/- 62: hopmesh/geometry.within -/
def c62 : Fun1 := ⟨[(.tmp 6)], (.seq (.ops [⟨(some 3), (.box (.t 0)), none⟩, ⟨(some 4), (.box (.t 1)), none⟩, ⟨(some 5), (.box (.t 2)), none⟩, ⟨(some 6), (.mov (.c (.bool false))), none⟩]) (.seq (.ops [⟨(some 7), (.faddr 0 (.t 3)), none⟩, ⟨(some 8), (.load false 1 (.t 7)), none⟩, ⟨(some 9), (.faddr 0 (.t 4)), none⟩, ⟨(some 10), (.load false 1 (.t 9)), none⟩, ⟨(some 11), (.faddr 0 (.t 5)), none⟩, ⟨(some 12), (.load false 1 (.t 11)), none⟩, ⟨(some 13), (.minI [(.t 10), (.t 12)]), none⟩, ⟨(some 14), (.bin .geq (.t 8) (.t 13)), none⟩, ⟨(some 15), (.mov (.t 14)), none⟩, ⟨(some 16), (.faddr 0 (.t 3)), (some (15, true))⟩, ⟨(some 17), (.load false 1 (.t 16)), (some (15, true))⟩, ⟨(some 18), (.faddr 0 (.t 4)), (some (15, true))⟩, ⟨(some 19), (.load false 1 (.t 18)), (some (15, true))⟩, ⟨(some 20), (.faddr 0 (.t 5)), (some (15, true))⟩, ⟨(some 21), (.load false 1 (.t 20)), (some (15, true))⟩, ⟨(some 22), (.maxI [(.t 19), (.t 21)]), (some (15, true))⟩, ⟨(some 23), (.bin .leq (.t 17) (.t 22)), (some (15, true))⟩, ⟨(some 24), (.pick (.t 15) (.t 23) (.c (.bool false))), none⟩, ⟨(some 25), (.mov (.t 24)), none⟩, ⟨(some 26), (.faddr 1 (.t 3)), (some (25, true))⟩, ⟨(some 27), (.load false 1 (.t 26)), (some (25, true))⟩, ⟨(some 28), (.faddr 1 (.t 4)), (some (25, true))⟩, ⟨(some 29), (.load false 1 (.t 28)), (some (25, true))⟩, ⟨(some 30), (.faddr 1 (.t 5)), (some (25, true))⟩, ⟨(some 31), (.load false 1 (.t 30)), (some (25, true))⟩, ⟨(some 32), (.minI [(.t 29), (.t 31)]), (some (25, true))⟩, ⟨(some 33), (.bin .geq (.t 27) (.t 32)), (some (25, true))⟩, ⟨(some 34), (.pick (.t 25) (.t 33) (.c (.bool false))), none⟩, ⟨(some 35), (.mov (.t 34)), none⟩, ⟨(some 36), (.faddr 1 (.t 3)), (some (35, true))⟩, ⟨(some 37), (.load false 1 (.t 36)), (some (35, true))⟩, ⟨(some 38), (.faddr 1 (.t 4)), (some (35, true))⟩, ⟨(some 39), (.load false 1 (.t 38)), (some (35, true))⟩, ⟨(some 40), (.faddr 1 (.t 5)), (some (35, true))⟩, ⟨(some 41), (.load false 1 (.t 40)), (some (35, true))⟩, ⟨(some 42), (.maxI [(.t 39), (.t 41)]), (some (35, true))⟩, ⟨(some 43), (.bin .leq (.t 37) (.t 42)), (some (35, true))⟩, ⟨(some 44), (.pick (.t 35) (.t 43) (.c (.bool false))), none⟩, ⟨(some 6), (.mov (.t 44)), none⟩]) .ret)), false⟩
theorem e62 : T 62 = some c62 := by kernel_rfl
/- 63: cmp.Compare[int] -/
def c63 : Fun1 := ⟨[(.tmp 4)], (.seq (.ops [⟨(some 4), (.mov (.c (.int .i64 0))), none⟩]) (.seq (.ops [⟨(some 7), (.mov (.t 0)), none⟩, ⟨(some 8), (.call (.c (.fn 71 [])) [(.t 7)]), none⟩, ⟨(some 5), (.mov (.t 8)), none⟩]) (.seq (.ops [⟨(some 9), (.mov (.t 1)), none⟩, ⟨(some 10), (.call (.c (.fn 71 [])) [(.t 9)]), none⟩, ⟨(some 6), (.mov (.t 10)), none⟩]) (.seq (.seq (.ops [⟨(some 11), (.mov (.t 5)), none⟩]) (.cond (.t 11) (.seq (.seq (.ops [⟨(some 12), (.mov (.t 6)), none⟩]) (.cond (.t 12) (.seq (.ops [⟨(some 4), (.mov (.c (.int .i64 0))), none⟩]) .ret) .skip)) (.seq (.ops [⟨(some 4), (.mov (.c (.int .i64 (-1)))), none⟩]) .ret)) .skip)) (.seq (.seq (.ops [⟨(some 13), (.mov (.t 6)), none⟩]) (.cond (.t 13) (.seq (.ops [⟨(some 4), (.mov (.c (.int .i64 1))), none⟩]) .ret) .skip)) (.seq (.seq (.ops [⟨(some 14), (.mov (.t 0)), none⟩, ⟨(some 15), (.mov (.t 1)), none⟩, ⟨(some 16), (.bin .lss (.t 14) (.t 15)), none⟩]) (.cond (.t 16) (.seq (.ops [⟨(some 4), (.mov (.c (.int .i64 (-1)))), none⟩]) .ret) .skip)) (.seq (.seq (.ops [⟨(some 17), (.mov (.t 0)), none⟩, ⟨(some 18), (.mov (.t 1)), none⟩, ⟨(some 19), (.bin .gtr (.t 17) (.t 18)), none⟩]) (.cond (.t 19) (.seq (.ops [⟨(some 4), (.mov (.c (.int .i64 1))), none⟩]) .ret) .skip)) (.seq (.ops [⟨(some 4), (.mov (.c (.int .i64 0))), none⟩]) .ret)))))))), false⟩
theorem e63 : T 63 = some c63 := by kernel_rfl
/- 64: hopmesh/geometry.crossed -/
def c64 : Fun1 := ⟨[(.tmp 6)], (.seq (.ops [⟨(some 3), (.box (.t 0)), none⟩, ⟨(some 4), (.box (.t 1)), none⟩, ⟨(some 5), (.box (.t 2)), none⟩, ⟨(some 6), (.mov (.c .nilFn)), none⟩]) (.seq (.ops [⟨(some 7), (.mkfn 72 [(.t 3), (.t 4), (.t 5)]), none⟩, ⟨(some 6), (.mov (.t 7)), none⟩]) .ret)), true⟩
theorem e64 : T 64 = some c64 := by kernel_rfl
/- 65: hopmesh/power.Scale -/
def c65 : Fun1 := ⟨[(.tmp 4), (.tmp 5)], (.seq (.ops [⟨(some 4), (.mov (.c (.int .i64 0))), none⟩, ⟨(some 5), (.mov (.c (.int .i64 0))), none⟩]) (.seq (.seq (.ops [⟨(some 6), (.mov (.t 0)), none⟩, ⟨(some 7), (.call (.c (.fn 68 [])) [(.t 6)]), none⟩, ⟨(some 8), (.notB (.t 7)), none⟩, ⟨(some 9), (.mov (.t 8)), none⟩, ⟨(some 10), (.mov (.t 1)), (some (9, false))⟩, ⟨(some 11), (.bin .lss (.t 10) (.c (.int .i64 0))), (some (9, false))⟩, ⟨(some 12), (.pick (.t 9) (.c (.bool true)) (.t 11)), none⟩, ⟨(some 13), (.mov (.t 12)), none⟩, ⟨(some 14), (.mov (.t 1)), (some (13, false))⟩, ⟨(some 15), (.bin .gtr (.t 14) (.c (.int .i64 1000))), (some (13, false))⟩, ⟨(some 16), (.pick (.t 13) (.c (.bool true)) (.t 15)), none⟩]) (.cond (.t 16) (.seq (.ops [⟨(some 4), (.mov (.c (.int .i64 0))), none⟩, ⟨(some 5), (.mov (.c (.int .i64 2))), none⟩]) .ret) .skip)) (.seq (.ops [⟨(some 17), (.mov (.t 0)), none⟩, ⟨(some 18), (.mov (.t 1)), none⟩, ⟨(some 19), (.bin .mul (.t 17) (.t 18)), none⟩, ⟨(some 20), (.bin .quo (.t 19) (.c (.int .i64 1000))), none⟩, ⟨(some 4), (.mov (.t 20)), none⟩, ⟨(some 5), (.mov (.c (.int .i64 0))), none⟩]) .ret))), false⟩
theorem e65 : T 65 = some c65 := by kernel_rfl
/- 66: slices.IndexFunc[[]int,int] -/
def c66 : Fun1 := ⟨[(.tmp 4)], (.seq (.ops [⟨(some 4), (.mov (.c (.int .i64 0))), none⟩]) (.seq (.seq (.ops [⟨(some 6), (.mov (.t 0)), none⟩, ⟨(some 7), (.len (.t 6)), none⟩, ⟨(some 8), (.mov (.c (.int .i64 0))), none⟩]) (.block 0 (.loop ⟨[0, 1, 7, 8], []⟩ (.seq (.ops [⟨(some 9), (.bin .lss (.t 8) (.t 7)), none⟩]) (.seq (.cond (.t 9) .skip (.exit 0)) (.seq (.block 1 (.seq (.ops [⟨(some 10), (.mov (.t 8)), none⟩, ⟨(some 5), (.mov (.t 10)), none⟩]) (.seq (.ops [⟨(some 11), (.mov (.t 1)), none⟩, ⟨(some 12), (.mov (.t 0)), none⟩, ⟨(some 13), (.mov (.t 5)), none⟩, ⟨(some 14), (.iaddrS 1 (.t 12) (.t 13)), none⟩, ⟨(some 15), (.load false 1 (.t 14)), none⟩, ⟨(some 16), (.call (.t 11) [(.t 15)]), none⟩]) (.cond (.t 16) (.seq (.ops [⟨(some 17), (.mov (.t 5)), none⟩, ⟨(some 4), (.mov (.t 17)), none⟩]) .ret) .skip)))) (.ops [⟨(some 18), (.bin .add (.t 8) (.c (.int .i64 1))), none⟩, ⟨(some 8), (.mov (.t 18)), none⟩]))))))) (.seq (.ops [⟨(some 4), (.mov (.c (.int .i64 (-1)))), none⟩]) .ret))), false⟩
theorem e66 : T 66 = some c66 := by kernel_rfl
/- 67: slices.IndexFunc[[]hopmesh/api.Wall,hopmesh/api.Wall] -/
def c67 : Fun1 := ⟨[(.tmp 4)], (.seq (.ops [⟨(some 4), (.mov (.c (.int .i64 0))), none⟩]) (.seq (.seq (.ops [⟨(some 6), (.mov (.t 0)), none⟩, ⟨(some 7), (.len (.t 6)), none⟩, ⟨(some 8), (.mov (.c (.int .i64 0))), none⟩]) (.block 0 (.loop ⟨[0, 1, 7, 8], []⟩ (.seq (.ops [⟨(some 9), (.bin .lss (.t 8) (.t 7)), none⟩]) (.seq (.cond (.t 9) .skip (.exit 0)) (.seq (.block 1 (.seq (.ops [⟨(some 10), (.mov (.t 8)), none⟩, ⟨(some 5), (.mov (.t 10)), none⟩]) (.seq (.ops [⟨(some 11), (.mov (.t 1)), none⟩, ⟨(some 12), (.mov (.t 0)), none⟩, ⟨(some 13), (.mov (.t 5)), none⟩, ⟨(some 14), (.iaddrS 5 (.t 12) (.t 13)), none⟩, ⟨(some 15), (.load true 5 (.t 14)), none⟩, ⟨(some 16), (.call (.t 11) [(.t 15)]), none⟩]) (.cond (.t 16) (.seq (.ops [⟨(some 17), (.mov (.t 5)), none⟩, ⟨(some 4), (.mov (.t 17)), none⟩]) .ret) .skip)))) (.ops [⟨(some 18), (.bin .add (.t 8) (.c (.int .i64 1))), none⟩, ⟨(some 8), (.mov (.t 18)), none⟩]))))))) (.seq (.ops [⟨(some 4), (.mov (.c (.int .i64 (-1)))), none⟩]) .ret))), false⟩
theorem e67 : T 67 = some c67 := by kernel_rfl
/- 68: hopmesh/power.power -/
def c68 : Fun1 := ⟨[(.tmp 2)], (.seq (.ops [⟨(some 2), (.mov (.c (.bool false))), none⟩]) (.seq (.ops [⟨(some 3), (.mov (.t 0)), none⟩, ⟨(some 4), (.bin .geq (.t 3) (.c (.int .i64 0))), none⟩, ⟨(some 5), (.mov (.t 4)), none⟩, ⟨(some 6), (.mov (.t 0)), (some (5, true))⟩, ⟨(some 7), (.bin .leq (.t 6) (.c (.int .i64 68719476736))), (some (5, true))⟩, ⟨(some 8), (.pick (.t 5) (.t 7) (.c (.bool false))), none⟩, ⟨(some 2), (.mov (.t 8)), none⟩]) .ret)), false⟩
theorem e68 : T 68 = some c68 := by kernel_rfl
/- 69: hopmesh/power.conditions -/
def c69 : Fun1 := ⟨[(.tmp 4)], (.seq (.ops [⟨(some 4), (.mov (.c (.bool false))), none⟩]) (.seq (.ops [⟨(some 5), (.mov (.t 0)), none⟩, ⟨(some 6), (.bin .geq (.t 5) (.c (.int .i64 1000))), none⟩, ⟨(some 7), (.mov (.t 6)), none⟩, ⟨(some 8), (.mov (.t 0)), (some (7, true))⟩, ⟨(some 9), (.bin .leq (.t 8) (.c (.int .i64 100000))), (some (7, true))⟩, ⟨(some 10), (.pick (.t 7) (.t 9) (.c (.bool false))), none⟩, ⟨(some 11), (.mov (.t 10)), none⟩, ⟨(some 12), (.mov (.t 1)), (some (11, true))⟩, ⟨(some 13), (.bin .geq (.t 12) (.c (.int .i64 1))), (some (11, true))⟩, ⟨(some 14), (.pick (.t 11) (.t 13) (.c (.bool false))), none⟩, ⟨(some 15), (.mov (.t 14)), none⟩, ⟨(some 16), (.mov (.t 1)), (some (15, true))⟩, ⟨(some 17), (.bin .leq (.t 16) (.c (.int .i64 68719476736))), (some (15, true))⟩, ⟨(some 18), (.pick (.t 15) (.t 17) (.c (.bool false))), none⟩, ⟨(some 4), (.mov (.t 18)), none⟩]) .ret)), false⟩
theorem e69 : T 69 = some c69 := by kernel_rfl
/- 70: hopmesh/power.Sum -/
def c70 : Fun1 := ⟨[(.tmp 2), (.tmp 3)], (.seq (.ops [⟨(some 2), (.mov (.c (.int .i64 0))), none⟩, ⟨(some 3), (.mov (.c (.int .i64 0))), none⟩]) (.seq (.seq (.ops [⟨(some 6), (.mov (.t 0)), none⟩, ⟨(some 7), (.len (.t 6)), none⟩, ⟨(some 8), (.bin .gtr (.t 7) (.c (.int .i64 64))), none⟩]) (.cond (.t 8) (.seq (.ops [⟨(some 2), (.mov (.c (.int .i64 0))), none⟩, ⟨(some 3), (.mov (.c (.int .i64 8))), none⟩]) .ret) .skip)) (.seq (.seq (.ops [⟨(some 9), (.mov (.t 0)), none⟩, ⟨(some 10), (.len (.t 9)), none⟩, ⟨(some 11), (.mov (.c (.int .i64 0))), none⟩]) (.block 0 (.loop ⟨[0, 9, 10, 11], []⟩ (.seq (.ops [⟨(some 12), (.bin .lss (.t 11) (.t 10)), none⟩]) (.seq (.cond (.t 12) .skip (.exit 0)) (.seq (.block 1 (.seq (.ops [⟨(some 13), (.iaddrS 1 (.t 9) (.t 11)), none⟩, ⟨(some 14), (.load false 1 (.t 13)), none⟩, ⟨(some 5), (.mov (.t 14)), none⟩]) (.seq (.ops [⟨(some 15), (.mov (.t 5)), none⟩, ⟨(some 16), (.call (.c (.fn 68 [])) [(.t 15)]), none⟩, ⟨(some 17), (.notB (.t 16)), none⟩]) (.cond (.t 17) (.seq (.ops [⟨(some 2), (.mov (.c (.int .i64 0))), none⟩, ⟨(some 3), (.mov (.c (.int .i64 2))), none⟩]) .ret) .skip)))) (.ops [⟨(some 18), (.bin .add (.t 11) (.c (.int .i64 1))), none⟩, ⟨(some 11), (.mov (.t 18)), none⟩]))))))) (.seq (.ops [⟨(some 19), (.mov (.t 0)), none⟩, ⟨(some 20), (.call (.c (.fn 73 [])) [(.t 19)]), none⟩, ⟨(some 2), (.mov (.t 20)), none⟩, ⟨(some 3), (.mov (.c (.int .i64 0))), none⟩]) .ret)))), false⟩
theorem e70 : T 70 = some c70 := by kernel_rfl
/- 71: cmp.isNaN[int] -/
def c71 : Fun1 := ⟨[(.tmp 2)], (.seq (.ops [⟨(some 2), (.mov (.c (.bool false))), none⟩]) (.seq (.ops [⟨(some 3), (.mov (.t 0)), none⟩, ⟨(some 4), (.mov (.t 0)), none⟩, ⟨(some 5), (.bin .neq (.t 3) (.t 4)), none⟩, ⟨(some 2), (.mov (.t 5)), none⟩]) .ret)), false⟩
theorem e71 : T 71 = some c71 := by kernel_rfl
/- 72: hopmesh/geometry.crossed$1 -/
def c72 : Fun1 := ⟨[], (.seq (.ops [⟨(some 7), (.faddr 2 (.t 1)), none⟩, ⟨(some 8), (.load false 1 (.t 7)), none⟩, ⟨(some 9), (.len (.t 8)), none⟩, ⟨(some 10), (.mov (.c (.int .i64 0))), none⟩]) (.block 0 (.loop ⟨[0, 2, 3, 8, 9, 10], []⟩ (.seq (.ops [⟨(some 11), (.bin .lss (.t 10) (.t 9)), none⟩]) (.seq (.cond (.t 11) .skip (.exit 0)) (.seq (.block 1 (.seq (.ops [⟨(some 12), (.iaddrS 5 (.t 8) (.t 10)), none⟩, ⟨(some 13), (.load true 5 (.t 12)), none⟩, ⟨(some 6), (.alloc [(.int .i64 0), (.int .i64 0), (.int .i64 0), (.int .i64 0), (.int .i64 0)]), none⟩, ⟨none, (.store 5 (.t 6) (.t 13)), none⟩]) (.seq (.ops [⟨(some 14), (.load true 2 (.t 2)), none⟩, ⟨(some 15), (.load true 2 (.t 3)), none⟩, ⟨(some 16), (.load true 5 (.t 6)), none⟩, ⟨(some 17), (.call (.c (.fn 15 [])) [(.t 14), (.t 15), (.t 16)]), none⟩, ⟨(some 18), (.mov (.t 17)), none⟩, ⟨(some 19), (.mov (.t 0)), (some (18, true))⟩, ⟨(some 20), (.load true 5 (.t 6)), (some (18, true))⟩, ⟨(some 21), (.call (.t 19) [(.t 20)]), (some (18, true))⟩, ⟨(some 22), (.notB (.t 21)), (some (18, true))⟩, ⟨(some 23), (.pick (.t 18) (.t 22) (.c (.bool false))), none⟩]) (.cond (.t 23) .ret .skip)))) (.ops [⟨(some 24), (.bin .add (.t 10) (.c (.int .i64 1))), none⟩, ⟨(some 10), (.mov (.t 24)), none⟩]))))))), false⟩
theorem e72 : T 72 = some c72 := by kernel_rfl
/- 73: hopmesh/power.add[int] -/
def c73 : Fun1 := ⟨[(.tmp 2)], (.seq (.ops [⟨(some 2), (.mov (.c (.int .i64 0))), none⟩]) (.seq (.ops [⟨(some 3), (.mov (.c (.int .i64 0))), none⟩]) (.seq (.seq (.ops [⟨(some 6), (.mov (.t 0)), none⟩, ⟨(some 7), (.len (.t 6)), none⟩, ⟨(some 8), (.mov (.c (.int .i64 0))), none⟩]) (.block 0 (.loop ⟨[3, 6, 7, 8], []⟩ (.seq (.ops [⟨(some 9), (.bin .lss (.t 8) (.t 7)), none⟩]) (.seq (.cond (.t 9) .skip (.exit 0)) (.seq (.block 1 (.seq (.ops [⟨(some 10), (.iaddrS 1 (.t 6) (.t 8)), none⟩, ⟨(some 11), (.load false 1 (.t 10)), none⟩, ⟨(some 5), (.mov (.t 11)), none⟩]) (.ops [⟨(some 12), (.mov (.t 3)), none⟩, ⟨(some 13), (.mov (.t 5)), none⟩, ⟨(some 14), (.bin .add (.t 12) (.t 13)), none⟩, ⟨(some 3), (.mov (.t 14)), none⟩]))) (.ops [⟨(some 15), (.bin .add (.t 8) (.c (.int .i64 1))), none⟩, ⟨(some 8), (.mov (.t 15)), none⟩]))))))) (.seq (.ops [⟨(some 16), (.mov (.t 3)), none⟩, ⟨(some 2), (.mov (.t 16)), none⟩]) .ret)))), false⟩
theorem e73 : T 73 = some c73 := by kernel_rfl
/- 10: hopmesh/hopmeshlaw05.GeometryTables -/
def c10 : Fun1 := ⟨[(.tmp 2)], (.seq (.ops [⟨(some 1), (.box (.t 0)), none⟩, ⟨(some 2), (.mov (.c (.bool false))), none⟩]) (.seq (.seq (.ops [⟨(some 15), (.call (.c (.fn 11 [])) []), none⟩, ⟨(some 16), (.notB (.t 15)), none⟩]) (.cond (.t 16) (.seq (.ops [⟨(some 2), (.mov (.c (.bool false))), none⟩]) .ret) .skip)) (.seq (.seq (.ops [⟨(some 17), (.load true 6 (.t 1)), none⟩, ⟨(some 18), (.call (.c (.fn 20 [])) [(.t 17)]), none⟩, ⟨(some 19), (.notB (.t 18)), none⟩]) (.cond (.t 19) (.seq (.ops [⟨(some 2), (.mov (.c (.bool true))), none⟩]) .ret) .skip)) (.seq (.ops [⟨(some 21), (.load true 6 (.t 1)), none⟩, ⟨(some 22), (.call (.c (.fn 27 [])) [(.t 21)]), none⟩, ⟨(some 20), (.mov (.t 22)), none⟩, ⟨(some 23), (.extract (.t 20) 0), none⟩, ⟨(some 24), (.extract (.t 20) 1), none⟩, ⟨(some 3), (.mov (.t 23)), none⟩, ⟨(some 4), (.mov (.t 24)), none⟩]) (.seq (.seq (.ops [⟨(some 25), (.mov (.t 4)), none⟩, ⟨(some 26), (.bin .neq (.t 25) (.c (.int .i64 0))), none⟩]) (.cond (.t 26) (.seq (.ops [⟨(some 27), (.mov (.t 4)), none⟩, ⟨(some 28), (.bin .eql (.t 27) (.c (.int .i64 1))), none⟩, ⟨(some 29), (.mov (.t 28)), none⟩, ⟨(some 30), (.mov (.t 3)), (some (29, true))⟩, ⟨(some 31), (.len (.t 30)), (some (29, true))⟩, ⟨(some 32), (.bin .eql (.t 31) (.c (.int .i64 0))), (some (29, true))⟩, ⟨(some 33), (.pick (.t 29) (.t 32) (.c (.bool false))), none⟩, ⟨(some 34), (.mov (.t 33)), none⟩, ⟨(some 35), (.load true 6 (.t 1)), (some (34, true))⟩, ⟨(some 36), (.call (.c (.fn 23 [])) [(.t 35)]), (some (34, true))⟩, ⟨(some 37), (.bin .eql (.t 36) (.c (.int .i64 1))), (some (34, true))⟩, ⟨(some 38), (.pick (.t 34) (.t 37) (.c (.bool false))), none⟩, ⟨(some 2), (.mov (.t 38)), none⟩]) .ret) .skip)) (.seq (.seq (.ops [⟨(some 39), (.mov (.t 3)), none⟩, ⟨(some 40), (.len (.t 39)), none⟩, ⟨(some 41), (.faddr 0 (.t 1)), none⟩, ⟨(some 42), (.load false 1 (.t 41)), none⟩, ⟨(some 43), (.len (.t 42)), none⟩, ⟨(some 44), (.bin .neq (.t 40) (.t 43)), none⟩, ⟨(some 45), (.mov (.t 44)), none⟩, ⟨(some 46), (.faddr 1 (.t 1)), (some (45, false))⟩, ⟨(some 47), (.load false 1 (.t 46)), (some (45, false))⟩, ⟨(some 48), (.len (.t 47)), (some (45, false))⟩, ⟨(some 49), (.faddr 0 (.t 1)), (some (45, false))⟩, ⟨(some 50), (.load false 1 (.t 49)), (some (45, false))⟩, ⟨(some 51), (.len (.t 50)), (some (45, false))⟩, ⟨(some 52), (.bin .neq (.t 48) (.t 51)), (some (45, false))⟩, ⟨(some 53), (.pick (.t 45) (.c (.bool true)) (.t 52)), none⟩]) (.cond (.t 53) (.seq (.ops [⟨(some 2), (.mov (.c (.bool false))), none⟩]) .ret) .skip)) (.seq (.seq (.ops [⟨(some 54), (.faddr 0 (.t 1)), none⟩, ⟨(some 55), (.load false 1 (.t 54)), none⟩, ⟨(some 56), (.len (.t 55)), none⟩, ⟨(some 57), (.mov (.c (.int .i64 0))), none⟩]) (.block 0 (.loop ⟨[1, 3, 56, 57], []⟩ (.seq (.ops [⟨(some 58), (.bin .lss (.t 57) (.t 56)), none⟩]) (.seq (.cond (.t 58) .skip (.exit 0)) (.seq (.block 1 (.seq (.ops [⟨(some 59), (.mov (.t 57)), none⟩, ⟨(some 5), (.mov (.t 59)), none⟩]) (.seq (.ops [⟨(some 61), (.load true 6 (.t 1)), none⟩, ⟨(some 62), (.mov (.t 5)), none⟩, ⟨(some 63), (.call (.c (.fn 34 [])) [(.t 61), (.t 62)]), none⟩, ⟨(some 60), (.mov (.t 63)), none⟩, ⟨(some 64), (.extract (.t 60) 0), none⟩, ⟨(some 65), (.extract (.t 60) 1), none⟩, ⟨(some 6), (.mov (.t 64)), none⟩, ⟨(some 7), (.mov (.t 65)), none⟩]) (.seq (.seq (.ops [⟨(some 66), (.mov (.t 7)), none⟩, ⟨(some 67), (.bin .neq (.t 66) (.c (.int .i64 0))), none⟩, ⟨(some 68), (.mov (.t 67)), none⟩, ⟨(some 69), (.mov (.t 6)), (some (68, false))⟩, ⟨(some 70), (.call (.c (.fn 36 [])) [(.t 69)]), (some (68, false))⟩, ⟨(some 71), (.notB (.t 70)), (some (68, false))⟩, ⟨(some 72), (.pick (.t 68) (.c (.bool true)) (.t 71)), none⟩, ⟨(some 73), (.mov (.t 72)), none⟩, ⟨(some 74), (.mov (.t 6)), (some (73, false))⟩, ⟨(some 75), (.mov (.t 5)), (some (73, false))⟩, ⟨(some 76), (.call (.c (.fn 37 [])) [(.t 74), (.t 75)]), (some (73, false))⟩, ⟨(some 77), (.pick (.t 73) (.c (.bool true)) (.t 76)), none⟩]) (.cond (.t 77) (.seq (.ops [⟨(some 2), (.mov (.c (.bool false))), none⟩]) .ret) .skip)) (.seq (.seq (.ops [⟨(some 78), (.faddr 0 (.t 1)), none⟩, ⟨(some 79), (.load false 1 (.t 78)), none⟩, ⟨(some 80), (.len (.t 79)), none⟩, ⟨(some 81), (.mov (.c (.int .i64 0))), none⟩]) (.block 2 (.loop ⟨[1, 3, 5, 6, 56, 57, 80, 81], []⟩ (.seq (.ops [⟨(some 82), (.bin .lss (.t 81) (.t 80)), none⟩]) (.seq (.cond (.t 82) .skip (.exit 2)) (.seq (.block 3 (.seq (.ops [⟨(some 83), (.mov (.t 81)), none⟩, ⟨(some 8), (.mov (.t 83)), none⟩]) (.seq (.ops [⟨(some 85), (.load true 6 (.t 1)), none⟩, ⟨(some 86), (.mov (.t 8)), none⟩, ⟨(some 87), (.mov (.t 5)), none⟩, ⟨(some 88), (.call (.c (.fn 25 [])) [(.t 85), (.t 86), (.t 87)]), none⟩, ⟨(some 84), (.mov (.t 88)), none⟩, ⟨(some 89), (.extract (.t 84) 0), none⟩, ⟨(some 90), (.extract (.t 84) 1), none⟩, ⟨(some 9), (.mov (.t 89)), none⟩, ⟨(some 10), (.mov (.t 90)), none⟩]) (.seq (.drawn [(⟨(some 92), (.load true 6 (.t 1)), none⟩, ⟨.seg, [], 0, 0⟩), (⟨(some 93), (.faddr 0 (.t 1)), none⟩, ⟨.seg, [], 0, 0⟩), (⟨(some 94), (.load false 1 (.t 93)), none⟩, ⟨.seg, [], 0, 0⟩), (⟨(some 95), (.mov (.t 8)), none⟩, ⟨.pure, [], 0, 0⟩), (⟨(some 96), (.iaddrS 2 (.t 94) (.t 95)), none⟩, ⟨.seg, [], 0, 0⟩), (⟨(some 97), (.load true 2 (.t 96)), none⟩, ⟨.seg, [], 0, 0⟩), (⟨(some 98), (.faddr 1 (.t 1)), none⟩, ⟨.seg, [], 0, 0⟩), (⟨(some 99), (.load false 1 (.t 98)), none⟩, ⟨.seg, [], 0, 0⟩), (⟨(some 100), (.mov (.t 8)), none⟩, ⟨.pure, [], 0, 0⟩), (⟨(some 101), (.iaddrS 1 (.t 99) (.t 100)), none⟩, ⟨.seg, [], 0, 0⟩), (⟨(some 102), (.load false 1 (.t 101)), none⟩, ⟨.seg, [], 0, 0⟩), (⟨(some 103), (.faddr 0 (.t 1)), none⟩, ⟨.seg, [], 0, 0⟩), (⟨(some 104), (.load false 1 (.t 103)), none⟩, ⟨.seg, [], 0, 0⟩), (⟨(some 105), (.mov (.t 5)), none⟩, ⟨.pure, [], 0, 0⟩), (⟨(some 106), (.iaddrS 2 (.t 104) (.t 105)), none⟩, ⟨.seg, [], 0, 0⟩), (⟨(some 107), (.load true 2 (.t 106)), none⟩, ⟨.seg, [], 0, 0⟩), (⟨(some 108), (.call (.c (.fn 21 [])) [(.t 92), (.t 97), (.t 102), (.t 107)]), none⟩, ⟨.bar, [], 0, 0⟩), (⟨(some 91), (.mov (.t 108)), none⟩, ⟨.pure, [], 0, 0⟩), (⟨(some 109), (.extract (.t 91) 0), none⟩, ⟨.pure, [], 0, 0⟩), (⟨(some 110), (.extract (.t 91) 1), none⟩, ⟨.pure, [], 0, 0⟩), (⟨(some 11), (.mov (.t 109)), none⟩, ⟨.pure, [], 0, 0⟩), (⟨(some 12), (.mov (.t 110)), none⟩, ⟨.pure, [], 0, 0⟩)]) (.seq (.drawn [(⟨(some 111), (.mov (.t 10)), none⟩, ⟨.pure, [], 0, 0⟩), (⟨(some 112), (.bin .neq (.t 111) (.c (.int .i64 0))), none⟩, ⟨.pure, [], 0, 0⟩), (⟨(some 113), (.mov (.t 112)), none⟩, ⟨.pure, [], 0, 0⟩), (⟨(some 114), (.mov (.t 12)), (some (113, false))⟩, ⟨.pure, [], 0, 0⟩), (⟨(some 115), (.bin .neq (.t 114) (.c (.int .i64 0))), (some (113, false))⟩, ⟨.pure, [], 0, 0⟩), (⟨(some 116), (.pick (.t 113) (.c (.bool true)) (.t 115)), none⟩, ⟨.pure, [], 0, 0⟩), (⟨(some 117), (.mov (.t 116)), none⟩, ⟨.pure, [], 0, 0⟩), (⟨(some 118), (.mov (.t 3)), (some (117, false))⟩, ⟨.pure, [], 0, 0⟩), (⟨(some 119), (.mov (.t 8)), (some (117, false))⟩, ⟨.pure, [], 0, 0⟩), (⟨(some 120), (.iaddrS 1 (.t 118) (.t 119)), (some (117, false))⟩, ⟨.seg, [], 0, 0⟩), (⟨(some 121), (.load false 1 (.t 120)), (some (117, false))⟩, ⟨.seg, [], 0, 0⟩), (⟨(some 122), (.len (.t 121)), (some (117, false))⟩, ⟨.seg, [], 0, 0⟩), (⟨(some 123), (.faddr 0 (.t 1)), (some (117, false))⟩, ⟨.seg, [], 0, 0⟩), (⟨(some 124), (.load false 1 (.t 123)), (some (117, false))⟩, ⟨.seg, [], 0, 0⟩), (⟨(some 125), (.len (.t 124)), (some (117, false))⟩, ⟨.seg, [], 0, 0⟩), (⟨(some 126), (.bin .neq (.t 122) (.t 125)), (some (117, false))⟩, ⟨.pure, [], 0, 0⟩), (⟨(some 127), (.pick (.t 117) (.c (.bool true)) (.t 126)), none⟩, ⟨.pure, [], 0, 0⟩), (⟨(some 128), (.mov (.t 127)), none⟩, ⟨.pure, [], 0, 0⟩), (⟨(some 129), (.mov (.t 3)), (some (128, false))⟩, ⟨.pure, [], 0, 0⟩), (⟨(some 130), (.mov (.t 8)), (some (128, false))⟩, ⟨.pure, [], 0, 0⟩), (⟨(some 131), (.iaddrS 1 (.t 129) (.t 130)), (some (128, false))⟩, ⟨.bar, [], 0, 0⟩), (⟨(some 132), (.load false 1 (.t 131)), (some (128, false))⟩, ⟨.bar, [], 0, 0⟩), (⟨(some 133), (.mov (.t 5)), (some (128, false))⟩, ⟨.pure, [], 0, 0⟩), (⟨(some 134), (.iaddrS 1 (.t 132) (.t 133)), (some (128, false))⟩, ⟨.bar, [], 0, 0⟩), (⟨(some 135), (.load false 1 (.t 134)), (some (128, false))⟩, ⟨.bar, [], 0, 0⟩), (⟨(some 136), (.mov (.t 9)), (some (128, false))⟩, ⟨.pure, [], 0, 0⟩), (⟨(some 137), (.bin .neq (.t 135) (.t 136)), (some (128, false))⟩, ⟨.pure, [], 0, 0⟩), (⟨(some 138), (.pick (.t 128) (.c (.bool true)) (.t 137)), none⟩, ⟨.pure, [], 0, 0⟩), (⟨(some 139), (.mov (.t 138)), none⟩, ⟨.pure, [], 0, 0⟩), (⟨(some 140), (.mov (.t 8)), (some (139, false))⟩, ⟨.pure, [], 0, 0⟩), (⟨(some 141), (.mov (.t 5)), (some (139, false))⟩, ⟨.pure, [], 0, 0⟩), (⟨(some 142), (.bin .neq (.t 140) (.t 141)), (some (139, false))⟩, ⟨.pure, [], 0, 0⟩), (⟨(some 143), (.mov (.t 142)), (some (139, false))⟩, ⟨.pure, [], 0, 0⟩), (⟨(some 144), (.mov (.t 9)), (some (143, true))⟩, ⟨.pure, [], 0, 0⟩), (⟨(some 145), (.mov (.t 11)), (some (143, true))⟩, ⟨.pure, [], 0, 0⟩), (⟨(some 146), (.bin .neq (.t 144) (.t 145)), (some (143, true))⟩, ⟨.pure, [], 0, 0⟩), (⟨(some 147), (.pick (.t 143) (.t 146) (.c (.bool false))), (some (139, false))⟩, ⟨.pure, [], 0, 0⟩), (⟨(some 148), (.pick (.t 139) (.c (.bool true)) (.t 147)), none⟩, ⟨.pure, [], 0, 0⟩), (⟨(some 149), (.mov (.t 148)), none⟩, ⟨.pure, [], 0, 0⟩), (⟨(some 150), (.mov (.t 8)), (some (149, false))⟩, ⟨.pure, [], 0, 0⟩), (⟨(some 151), (.mov (.t 5)), (some (149, false))⟩, ⟨.pure, [], 0, 0⟩), (⟨(some 152), (.bin .eql (.t 150) (.t 151)), (some (149, false))⟩, ⟨.pure, [], 0, 0⟩), (⟨(some 153), (.mov (.t 152)), (some (149, false))⟩, ⟨.pure, [], 0, 0⟩), (⟨(some 154), (.mov (.t 9)), (some (153, true))⟩, ⟨.pure, [], 0, 0⟩), (⟨(some 155), (.bin .neq (.t 154) (.c (.int .i64 0))), (some (153, true))⟩, ⟨.pure, [], 0, 0⟩), (⟨(some 156), (.pick (.t 153) (.t 155) (.c (.bool false))), (some (149, false))⟩, ⟨.pure, [], 0, 0⟩), (⟨(some 157), (.pick (.t 149) (.c (.bool true)) (.t 156)), none⟩, ⟨.pure, [], 0, 0⟩), (⟨(some 158), (.mov (.t 157)), none⟩, ⟨.pure, [], 0, 0⟩), (⟨(some 159), (.mov (.t 6)), (some (158, false))⟩, ⟨.pure, [], 0, 0⟩), (⟨(some 160), (.mov (.t 8)), (some (158, false))⟩, ⟨.pure, [], 0, 0⟩), (⟨(some 161), (.call (.c (.fn 37 [])) [(.t 159), (.t 160)]), (some (158, false))⟩, ⟨.seg, [], 0, 0⟩), (⟨(some 162), (.mov (.t 9)), (some (158, false))⟩, ⟨.pure, [], 0, 0⟩), (⟨(some 163), (.bin .mul (.c (.int .i64 1000)) (.t 162)), (some (158, false))⟩, ⟨.pure, [], 0, 0⟩), (⟨(some 164), (.faddr 5 (.t 1)), (some (158, false))⟩, ⟨.seg, [], 0, 0⟩), (⟨(some 165), (.load false 1 (.t 164)), (some (158, false))⟩, ⟨.seg, [], 0, 0⟩), (⟨(some 166), (.faddr 4 (.t 1)), (some (158, false))⟩, ⟨.seg, [], 0, 0⟩), (⟨(some 167), (.load false 1 (.t 166)), (some (158, false))⟩, ⟨.seg, [], 0, 0⟩), (⟨(some 168), (.bin .mul (.t 165) (.t 167)), (some (158, false))⟩, ⟨.pure, [], 0, 0⟩), (⟨(some 169), (.bin .geq (.t 163) (.t 168)), (some (158, false))⟩, ⟨.pure, [], 0, 0⟩), (⟨(some 170), (.binB .neq (.t 161) (.t 169)), (some (158, false))⟩, ⟨.pure, [], 0, 0⟩), (⟨(some 171), (.pick (.t 158) (.c (.bool true)) (.t 170)), none⟩, ⟨.pure, [], 0, 0⟩)]) (.cond (.t 171) (.seq (.ops [⟨(some 2), (.mov (.c (.bool false))), none⟩]) .ret) .skip)))))) (.ops [⟨(some 172), (.bin .add (.t 81) (.c (.int .i64 1))), none⟩, ⟨(some 81), (.mov (.t 172)), none⟩]))))))) (.seq (.drawn [(⟨(some 174), (.load true 6 (.t 1)), none⟩, ⟨.seg, [], 0, 0⟩), (⟨(some 175), (.faddr 0 (.t 1)), none⟩, ⟨.seg, [], 0, 0⟩), (⟨(some 176), (.load false 1 (.t 175)), none⟩, ⟨.seg, [], 0, 0⟩), (⟨(some 177), (.mov (.t 5)), none⟩, ⟨.pure, [], 0, 0⟩), (⟨(some 178), (.iaddrS 2 (.t 176) (.t 177)), none⟩, ⟨.seg, [], 0, 0⟩), (⟨(some 179), (.load true 2 (.t 178)), none⟩, ⟨.seg, [], 0, 0⟩), (⟨(some 180), (.call (.c (.fn 32 [])) [(.t 174), (.t 179)]), none⟩, ⟨.bar, [], 0, 0⟩), (⟨(some 173), (.mov (.t 180)), none⟩, ⟨.pure, [], 0, 0⟩), (⟨(some 181), (.extract (.t 173) 0), none⟩, ⟨.pure, [], 0, 0⟩), (⟨(some 182), (.extract (.t 173) 1), none⟩, ⟨.pure, [], 0, 0⟩), (⟨(some 13), (.mov (.t 181)), none⟩, ⟨.pure, [], 0, 0⟩), (⟨(some 14), (.mov (.t 182)), none⟩, ⟨.pure, [], 0, 0⟩)]) (.seq (.drawn [(⟨(some 183), (.mov (.t 14)), none⟩, ⟨.pure, [], 0, 0⟩), (⟨(some 184), (.bin .neq (.t 183) (.c (.int .i64 0))), none⟩, ⟨.pure, [], 0, 0⟩), (⟨(some 185), (.mov (.t 184)), none⟩, ⟨.pure, [], 0, 0⟩), (⟨(some 186), (.mov (.t 13)), (some (185, false))⟩, ⟨.pure, [], 0, 0⟩), (⟨(some 187), (.bin .lss (.t 186) (.c (.int .i64 0))), (some (185, false))⟩, ⟨.pure, [], 0, 0⟩), (⟨(some 188), (.pick (.t 185) (.c (.bool true)) (.t 187)), none⟩, ⟨.pure, [], 0, 0⟩), (⟨(some 189), (.mov (.t 188)), none⟩, ⟨.pure, [], 0, 0⟩), (⟨(some 190), (.mov (.t 13)), (some (189, false))⟩, ⟨.pure, [], 0, 0⟩), (⟨(some 191), (.mov (.t 5)), (some (189, false))⟩, ⟨.pure, [], 0, 0⟩), (⟨(some 192), (.bin .gtr (.t 190) (.t 191)), (some (189, false))⟩, ⟨.pure, [], 0, 0⟩), (⟨(some 193), (.pick (.t 189) (.c (.bool true)) (.t 192)), none⟩, ⟨.pure, [], 0, 0⟩), (⟨(some 194), (.mov (.t 193)), none⟩, ⟨.pure, [], 0, 0⟩), (⟨(some 195), (.faddr 0 (.t 1)), (some (194, false))⟩, ⟨.seg, [], 0, 0⟩), (⟨(some 196), (.load false 1 (.t 195)), (some (194, false))⟩, ⟨.seg, [], 0, 0⟩), (⟨(some 197), (.mov (.t 13)), (some (194, false))⟩, ⟨.pure, [], 0, 0⟩), (⟨(some 198), (.iaddrS 2 (.t 196) (.t 197)), (some (194, false))⟩, ⟨.seg, [], 0, 0⟩), (⟨(some 199), (.load true 2 (.t 198)), (some (194, false))⟩, ⟨.seg, [], 0, 0⟩), (⟨(some 200), (.faddr 0 (.t 1)), (some (194, false))⟩, ⟨.seg, [], 0, 0⟩), (⟨(some 201), (.load false 1 (.t 200)), (some (194, false))⟩, ⟨.seg, [], 0, 0⟩), (⟨(some 202), (.mov (.t 5)), (some (194, false))⟩, ⟨.pure, [], 0, 0⟩), (⟨(some 203), (.iaddrS 2 (.t 201) (.t 202)), (some (194, false))⟩, ⟨.seg, [], 0, 0⟩), (⟨(some 204), (.load true 2 (.t 203)), (some (194, false))⟩, ⟨.seg, [], 0, 0⟩), (⟨(some 205), (.eqAgg true [.i, .i] (.t 199) (.t 204)), (some (194, false))⟩, ⟨.pure, [], 0, 0⟩), (⟨(some 206), (.pick (.t 194) (.c (.bool true)) (.t 205)), none⟩, ⟨.pure, [], 0, 0⟩)]) (.cond (.t 206) (.seq (.ops [⟨(some 2), (.mov (.c (.bool false))), none⟩]) .ret) .skip)))))))) (.ops [⟨(some 207), (.bin .add (.t 57) (.c (.int .i64 1))), none⟩, ⟨(some 57), (.mov (.t 207)), none⟩]))))))) (.seq (.ops [⟨(some 2), (.mov (.c (.bool true))), none⟩]) .ret)))))))), false⟩
theorem e10 : T 10 = some c10 := by kernel_rfl
end Go.Sh
namespace Go.Sh
set_option linter.unusedSectionVars false
set_option linter.unnecessarySimpa false
set_option linter.unusedVariables false
set_option maxRecDepth 100000
set_option linter.unusedSimpArgs false
abbrev pt (a b : Int) : SV := .agg [.int .i64 a, .int .i64 b]
abbrev wl (a b c d f : Int) : SV := .agg [.int .i64 a, .int .i64 b, .int .i64 c, .int .i64 d, .int .i64 f]
theorem s13 (n : Nat) (H : Heap) (a b c d : Int) : call1 T (n + 1) (.fn 13) [pt a b, pt c d] H =
    some (.int .i64 (w64 (w64 (w64 (a - c) * w64 (a - c)) + w64 (w64 (b - d) * w64 (b - d)))), H) := by
  refine call_pure e13 (by rfl) ?_
  simp only [c13, heap0, go_sem, Nat.reduceAdd, Nat.reduceBEq]
theorem s14 (n : Nat) (H : Heap) (a b c d : Int) : call1 T (n + 1) (.fn 14) [pt a b, pt c d] H =
    some (.int .i64 (w64 (w64 (w64 (a - c) * w64 (a - c)) + w64 (w64 (b - d) * w64 (b - d)))), H) := by
  refine call_pure e14 (by rfl) ?_
  simp only [c14, heap0, go_sem, Nat.reduceAdd, Nat.reduceBEq]
theorem s71 (n : Nat) (H : Heap) (a : Int) : call1 T (n + 1) (.fn 71) [.int .i64 a] H = some (.bool false, H) := by
  refine call_pure e71 (by rfl) ?_
  simp only [c71, heap0, go_sem, Nat.reduceAdd, Nat.reduceBEq]
def cmpI (a b : Int) : Int := if a < b then -1 else if b < a then 1 else 0
theorem s63 (n : Nat) (H : Heap) (a b : Int) : call1 T (n + 2) (.fn 63) [.int .i64 a, .int .i64 b] H = some (.int .i64 (cmpI a b), H) := by
  refine call_pure e63 (by rfl) ?_
  simp only [c63, heap0, go_sem, Nat.reduceAdd, Nat.reduceBEq, s71]
  repeat' (with_reducible refine fork_split (fun _ => ?_) (fun _ => ?_) <;> simp only [*, go_sem, Nat.reduceAdd, Nat.reduceBEq])
  all_goals simp_all [cmpI]
  all_goals omega
def turnI (a b c d x y : Int) : Int := cmpI (w64 (w64 (c - a) * w64 (y - b))) (w64 (w64 (d - b) * w64 (x - a)))
theorem s41 (n : Nat) (H : Heap) (a b c d x y : Int) : call1 T (n + 3) (.fn 41) [pt a b, pt c d, pt x y] H = some (.int .i64 (turnI a b c d x y), H) := by
  refine call_pure e41 (by rfl) ?_
  simp only [c41, heap0, go_sem, Nat.reduceAdd, Nat.reduceBEq, s63]
  rfl
def turnR (a b c d x y : Int) : Int := if w64 (w64 (w64 (c - a) * w64 (y - b)) - w64 (w64 (d - b) * w64 (x - a))) > 0 then 1 else if w64 (w64 (w64 (c - a) * w64 (y - b)) - w64 (w64 (d - b) * w64 (x - a))) < 0 then -1 else 0
theorem s42 (n : Nat) (H : Heap) (a b c d x y : Int) : call1 T (n + 1) (.fn 42) [pt a b, pt c d, pt x y] H = some (.int .i64 (turnR a b c d x y), H) := by
  refine call_pure e42 (by rfl) ?_
  simp only [c42, heap0, go_sem, Nat.reduceAdd, Nat.reduceBEq]
  repeat' (with_reducible refine fork_split (fun _ => ?_) (fun _ => ?_) <;> simp only [*, go_sem, Nat.reduceAdd, Nat.reduceBEq])
  all_goals (simp only [decide_eq_true_eq, decide_eq_false_iff_not] at *; simp only [turnR]; congr 2; (repeat' split) <;> omega)
def withinI (p q a b c d : Int) : Bool := decide (min a c ≤ p) && decide (p ≤ max a c) && decide (min b d ≤ q) && decide (q ≤ max b d)
theorem s62 (n : Nat) (H : Heap) (p q a b c d : Int) : call1 T (n + 1) (.fn 62) [pt p q, pt a b, pt c d] H = some (.bool (withinI p q a b c d), H) := by
  refine call_pure e62 (by rfl) ?_
  simp only [c62, heap0, go_sem, Nat.reduceAdd, Nat.reduceBEq]
  repeat' (with_reducible refine fork_split (fun _ => ?_) (fun _ => ?_) <;> simp only [*, go_sem, Nat.reduceAdd, Nat.reduceBEq])
  all_goals (simp only [decide_eq_true_eq, decide_eq_false_iff_not] at *; simp only [withinI]; congr 2; rw [Bool.eq_iff_iff]; simp only [Bool.and_eq_true, Bool.or_eq_true, decide_eq_true_eq, Bool.false_eq_true, false_iff, true_iff]; omega)
theorem s43 (n : Nat) (H : Heap) (p q a b c d : Int) : call1 T (n + 1) (.fn 43) [pt a b, pt c d, pt p q] H = some (.bool (withinI p q a b c d), H) := by
  refine call_pure e43 (by rfl) ?_
  simp only [c43, heap0, go_sem, Nat.reduceAdd, Nat.reduceBEq]
  repeat' (with_reducible refine fork_split (fun _ => ?_) (fun _ => ?_) <;> simp only [*, go_sem, Nat.reduceAdd, Nat.reduceBEq])
  all_goals (simp only [decide_eq_true_eq, decide_eq_false_iff_not] at *; simp only [withinI]; congr 2; rw [Bool.eq_iff_iff]; simp only [Bool.and_eq_true, Bool.or_eq_true, decide_eq_true_eq, Bool.false_eq_true, false_iff, true_iff]; omega)
theorem s39 (n : Nat) (H : Heap) (a b : Int) : call1 T (n + 1) (.fn 39) [pt a b] H = some (.bool (decide (a < -20000) || decide (a > 20000) || decide (b < -20000) || decide (b > 20000)), H) := by
  refine call_pure e39 (by rfl) ?_
  simp only [c39, heap0, go_sem, Nat.reduceAdd, Nat.reduceBEq]
  repeat' (with_reducible refine fork_split (fun _ => ?_) (fun _ => ?_) <;> simp only [*, go_sem, Nat.reduceAdd, Nat.reduceBEq])
  all_goals simp_all


end Go.Sh
namespace Go.Sh
set_option linter.unusedSectionVars false
set_option linter.unnecessarySimpa false
set_option linter.unusedVariables false
set_option maxRecDepth 100000
set_option maxHeartbeats 4000000
set_option linter.unusedSimpArgs false
def onI (p q a b c d : Int) : Bool := (decide (p = a) && decide (q = b)) || (decide (p = c) && decide (q = d)) || (decide (turnI a b c d p q = 0) && withinI p q a b c d)
theorem s40 (n : Nat) (H : Heap) (p q a b c d : Int) : call1 T (n + 4) (.fn 40) [pt p q, pt a b, pt c d] H = some (.bool (onI p q a b c d), H) := by
  refine call_pure e40 (by rfl) ?_
  simp only [c40, heap0, go_sem, Nat.reduceAdd, Nat.reduceBEq, Nat.reduceLeDiff]
  repeat' (with_reducible refine fork_split (fun _ => ?_) (fun _ => ?_) <;> simp only [*, go_sem, Nat.reduceAdd, Nat.reduceBEq, Nat.reduceLeDiff, s41, s62])
  all_goals (simp only [onI]; grind)
def crossI (a b c d x y z t : Int) : Bool := onI x y a b c d || onI z t a b c d || onI a b x y z t || onI c d x y z t ||
  (decide (w64 (turnI a b c d x y * turnI a b c d z t) < 0) && decide (w64 (turnI x y z t a b * turnI x y z t c d) < 0))
theorem s15 (n : Nat) (H : Heap) (a b c d x y z t f : Int) : call1 T (n + 5) (.fn 15) [pt a b, pt c d, wl x y z t f] H = some (.bool (crossI a b c d x y z t), H) := by
  refine call_pure e15 (by rfl) ?_
  simp only [c15, heap0, go_sem, Nat.reduceAdd, Nat.reduceBEq, Nat.reduceLeDiff, s40, s41]
  repeat' (with_reducible refine fork_split (fun _ => ?_) (fun _ => ?_) <;> simp only [*, go_sem, Nat.reduceAdd, Nat.reduceBEq, Nat.reduceLeDiff, s40, s41])
  all_goals (simp only [crossI]; grind)
def crossR (a b c d x y z t : Int) : Bool := (decide (w64 (turnR a b c d x y * turnR a b c d z t) < 0) && decide (w64 (turnR x y z t a b * turnR x y z t c d) < 0)) ||
  (decide (turnR a b c d x y = 0) && withinI x y a b c d) || (decide (turnR a b c d z t = 0) && withinI z t a b c d) || (decide (turnR x y z t a b = 0) && withinI a b x y z t) || (decide (turnR x y z t c d = 0) && withinI c d x y z t)
theorem s16 (n : Nat) (H : Heap) (a b c d x y z t f : Int) : call1 T (n + 2) (.fn 16) [pt a b, pt c d, wl x y z t f] H = some (.bool (crossR a b c d x y z t), H) := by
  refine call_pure e16 (by rfl) ?_
  simp only [c16, heap0, go_sem, Nat.reduceAdd, Nat.reduceBEq, Nat.reduceLeDiff, s42, s43]
  repeat' (with_reducible refine fork_split (fun _ => ?_) (fun _ => ?_) <;> simp only [*, go_sem, Nat.reduceAdd, Nat.reduceBEq, Nat.reduceLeDiff, s42, s43])
  all_goals (simp only [crossR]; grind)

end Go.Sh
namespace Go.Sh
set_option linter.unusedSectionVars false
set_option linter.unnecessarySimpa false
set_option linter.unusedVariables false
set_option maxRecDepth 100000
set_option maxHeartbeats 4000000
set_option linter.unusedSimpArgs false
theorem s61 (n id : Nat) (H : Heap) (L : List (List SV)) (fl : Bool) (p : List SV → Bool) (hr : ∀ r ∈ L, r.length = 2) (hm : L.length ≤ maxLen)
    (hc : ∀ r ∈ L, ∀ H, call1 T n (.fn id) [.agg r] H = some (.bool (p r), H)) : call1 T (n + 1) (.fn 61) [.lst 2 L fl, .fn id []] H = some (.int .i64 (idx1 p L), H) := by
  refine call_pure e61 (by rfl) ?_
  simp only [c61, heap0, go_sem, Nat.reduceAdd, Nat.reduceBEq]
  refine loop_rule (fun i => ([(0, .lst 2 L fl), (1, .fn id []), (7, .int .i64 L.length), (8, .int .i64 i)], ⟨[], [], 0⟩)) (fun i => ∀ (j : Nat) r, j < i → L[j]? = some r → p r = false) L.length ?_ (fun j r h => by omega) ?_
  · simp only [go_sem, Nat.reduceAdd, Nat.reduceBEq, Nat.reduceLeDiff]
    rfl
  · intro i hi hP
    have hm : maxLen = maxLen := rfl
    rcases Nat.lt_or_ge i L.length with hlt | hge
    · obtain ⟨r, hr'⟩ : ∃ r, L[i]? = some r := ⟨L[i], List.getElem?_eq_getElem hlt⟩
      have hmem := List.mem_of_getElem? hr'
      have h1 := hr _ hmem
      have ht : List.take 2 r = r := List.take_of_length_le (by omega)
      have hw : w64 ((i : Int) + 1) = ((i + 1 : Nat) : Int) := by
        rw [w64_id] <;> simp [maxLen] at * <;> omega
      cases hp : p r with
      | true =>
        have hx := idx1_at hr' hp hP
        simp only [go_sem, Nat.reduceAdd, Nat.reduceBEq, Nat.reduceLeDiff, hlt, hr', hc r hmem, hw, h1, ht, hp, hx]
      | false =>
        simp only [go_sem, Nat.reduceAdd, Nat.reduceBEq, Nat.reduceLeDiff, hlt, hr', hc r hmem, hw, h1, ht, hp]
        refine ⟨trivial, trivial, fun j r' hj hr2 => ?_⟩
        rcases Nat.lt_or_ge j i with hlt2 | hge2
        · exact hP j r' hlt2 hr2
        · have : j = i := by omega
          subst this
          rw [hr'] at hr2
          cases hr2
          exact hp
    · have hlt : ¬ i < L.length := by omega
      have hx : idx1 p L = -1 := idx1_none (fun j a hj => hP j a (by have := (List.getElem?_eq_some_iff.1 hj).1; omega) hj)
      simp only [go_sem, Nat.reduceAdd, Nat.reduceBEq, Nat.reduceLeDiff, hlt, hx]
theorem s66 (n id : Nat) (H : Heap) (L : List (List SV)) (fl : Bool) (p : List SV → Bool) (hr : ∀ r ∈ L, ∃ x, r = [x]) (hm : L.length ≤ maxLen)
    (hc : ∀ r ∈ L, ∀ H, call1 T n (.fn id) [r.headD .undef] H = some (.bool (p r), H)) : call1 T (n + 1) (.fn 66) [.lst 1 L fl, .fn id []] H = some (.int .i64 (idx1 p L), H) := by
  refine call_pure e66 (by rfl) ?_
  simp only [c66, heap0, go_sem, Nat.reduceAdd, Nat.reduceBEq]
  refine loop_rule (fun i => ([(0, .lst 1 L fl), (1, .fn id []), (7, .int .i64 L.length), (8, .int .i64 i)], ⟨[], [], 0⟩)) (fun i => ∀ (j : Nat) r, j < i → L[j]? = some r → p r = false) L.length ?_ (fun j r h => by omega) ?_
  · simp only [go_sem, Nat.reduceAdd, Nat.reduceBEq, Nat.reduceLeDiff]
    rfl
  · intro i hi hP
    have hm : maxLen = maxLen := rfl
    rcases Nat.lt_or_ge i L.length with hlt | hge
    · obtain ⟨r, hr'⟩ : ∃ r, L[i]? = some r := ⟨L[i], List.getElem?_eq_getElem hlt⟩
      have hmem := List.mem_of_getElem? hr'
      have h1 := hr _ hmem
      obtain ⟨x, rfl⟩ := h1
      have hcr := hc _ hmem
      simp only [List.headD_cons] at hcr
      have hw : w64 ((i : Int) + 1) = ((i + 1 : Nat) : Int) := by
        rw [w64_id] <;> simp [maxLen] at * <;> omega
      cases hp : p [x] with
      | true =>
        have hx := idx1_at hr' hp hP
        simp only [go_sem, Nat.reduceAdd, Nat.reduceBEq, Nat.reduceLeDiff, hlt, hr', hcr, hw, hp, hx]
      | false =>
        simp only [go_sem, Nat.reduceAdd, Nat.reduceBEq, Nat.reduceLeDiff, hlt, hr', hcr, hw, hp]
        refine ⟨trivial, trivial, fun j r' hj hr2 => ?_⟩
        rcases Nat.lt_or_ge j i with hlt2 | hge2
        · exact hP j r' hlt2 hr2
        · have : j = i := by omega
          subst this
          rw [hr'] at hr2
          cases hr2
          exact hp
    · have hlt : ¬ i < L.length := by omega
      have hx : idx1 p L = -1 := idx1_none (fun j a hj => hP j a (by have := (List.getElem?_eq_some_iff.1 hj).1; omega) hj)
      simp only [go_sem, Nat.reduceAdd, Nat.reduceBEq, Nat.reduceLeDiff, hlt, hx]
theorem s67 (n id : Nat) (H : Heap) (L : List (List SV)) (fl : Bool) (p : List SV → Bool) (hr : ∀ r ∈ L, r.length = 5) (hm : L.length ≤ maxLen)
    (hc : ∀ r ∈ L, ∀ H, call1 T n (.fn id) [.agg r] H = some (.bool (p r), H)) : call1 T (n + 1) (.fn 67) [.lst 5 L fl, .fn id []] H = some (.int .i64 (idx1 p L), H) := by
  refine call_pure e67 (by rfl) ?_
  simp only [c67, heap0, go_sem, Nat.reduceAdd, Nat.reduceBEq]
  refine loop_rule (fun i => ([(0, .lst 5 L fl), (1, .fn id []), (7, .int .i64 L.length), (8, .int .i64 i)], ⟨[], [], 0⟩)) (fun i => ∀ (j : Nat) r, j < i → L[j]? = some r → p r = false) L.length ?_ (fun j r h => by omega) ?_
  · simp only [go_sem, Nat.reduceAdd, Nat.reduceBEq, Nat.reduceLeDiff]
    rfl
  · intro i hi hP
    have hm : maxLen = maxLen := rfl
    rcases Nat.lt_or_ge i L.length with hlt | hge
    · obtain ⟨r, hr'⟩ : ∃ r, L[i]? = some r := ⟨L[i], List.getElem?_eq_getElem hlt⟩
      have hmem := List.mem_of_getElem? hr'
      have h1 := hr _ hmem
      have ht : List.take 5 r = r := List.take_of_length_le (by omega)
      have hw : w64 ((i : Int) + 1) = ((i + 1 : Nat) : Int) := by
        rw [w64_id] <;> simp [maxLen] at * <;> omega
      cases hp : p r with
      | true =>
        have hx := idx1_at hr' hp hP
        simp only [go_sem, Nat.reduceAdd, Nat.reduceBEq, Nat.reduceLeDiff, hlt, hr', hc r hmem, hw, h1, ht, hp, hx]
      | false =>
        simp only [go_sem, Nat.reduceAdd, Nat.reduceBEq, Nat.reduceLeDiff, hlt, hr', hc r hmem, hw, h1, ht, hp]
        refine ⟨trivial, trivial, fun j r' hj hr2 => ?_⟩
        rcases Nat.lt_or_ge j i with hlt2 | hge2
        · exact hP j r' hlt2 hr2
        · have : j = i := by omega
          subst this
          rw [hr'] at hr2
          cases hr2
          exact hp
    · have hlt : ¬ i < L.length := by omega
      have hx : idx1 p L = -1 := idx1_none (fun j a hj => hP j a (by have := (List.getElem?_eq_some_iff.1 hj).1; omega) hj)
      simp only [go_sem, Nat.reduceAdd, Nat.reduceBEq, Nat.reduceLeDiff, hlt, hx]
def farI (a b : Int) : Bool := decide (a < -20000) || decide (a > 20000) || decide (b < -20000) || decide (b > 20000)
def far1 (r : List SV) : Bool := match r with | [.int _ a, .int _ b] => farI a b | _ => false
def ptsS (L : List (Int × Int)) : List (List SV) := L.map fun p => [.int .i64 p.1, .int .i64 p.2]
theorem ptsS_len {L : List (Int × Int)} : ∀ r ∈ ptsS L, r.length = 2 := by
  intro r hr; simp only [ptsS, List.mem_map] at hr; obtain ⟨p, _, rfl⟩ := hr; rfl
theorem ptsS_any {p : List SV → Bool} {q : Int × Int → Bool} (h : ∀ a b, p [.int .i64 a, .int .i64 b] = q (a, b)) (L : List (Int × Int)) : (ptsS L).any p = L.any q := by
  induction L with
  | nil => rfl
  | cons a l ih => simp only [ptsS, List.map_cons, List.any_cons, h] at *; rw [ih]
theorem s38 (n id : Nat) (H : Heap) (L : List (List SV)) (fl : Bool) (p : List SV → Bool) (hr : ∀ r ∈ L, r.length = 2) (hm : L.length ≤ maxLen)
    (hc : ∀ r ∈ L, ∀ H, call1 T n (.fn id) [.agg r] H = some (.bool (p r), H)) : call1 T (n + 2) (.fn 38) [.lst 2 L fl, .fn id []] H = some (.bool (L.any p), H) := by
  refine call_pure e38 (by rfl) ?_
  simp only [c38, heap0, go_sem, Nat.reduceAdd, Nat.reduceBEq, s61 n id _ L fl p hr hm hc, idx1_any]
theorem s48 (n id : Nat) (H : Heap) (L : List (List SV)) (fl : Bool) (p : List SV → Bool) (hr : ∀ r ∈ L, ∃ x, r = [x]) (hm : L.length ≤ maxLen)
    (hc : ∀ r ∈ L, ∀ H, call1 T n (.fn id) [r.headD .undef] H = some (.bool (p r), H)) : call1 T (n + 2) (.fn 48) [.lst 1 L fl, .fn id []] H = some (.bool (L.any p), H) := by
  refine call_pure e48 (by rfl) ?_
  simp only [c48, heap0, go_sem, Nat.reduceAdd, Nat.reduceBEq, s66 n id _ L fl p hr hm hc, idx1_any]
theorem s12 (n : Nat) (H : Heap) (L : List (Int × Int)) (fl : Bool) (hm : L.length ≤ maxLen) : call1 T (n + 4) (.fn 12) [.lst 2 (ptsS L) fl] H = some (.bool (!L.any (fun p => farI p.1 p.2)), H) := by
  refine call_pure e12 (by rfl) ?_
  have h := s38 (n + 1) 39 heap0 (ptsS L) fl far1 ptsS_len (by simpa [ptsS] using hm) (fun r hr H => by
    simp only [ptsS, List.mem_map] at hr; obtain ⟨p, _, rfl⟩ := hr; exact s39 n H p.1 p.2)
  rw [ptsS_any (q := fun p => farI p.1 p.2) (fun a b => rfl)] at h
  simp only [heap0] at h
  simp only [c12, heap0, go_sem, Nat.reduceAdd, Nat.reduceBEq, h]

end Go.Sh
namespace Go.Sh
set_option linter.unusedSectionVars false
set_option linter.unnecessarySimpa false
set_option linter.unusedVariables false
set_option maxRecDepth 100000
set_option maxHeartbeats 4000000
set_option linter.unusedSimpArgs false
def Near (a : Int) : Prop := -20000 ≤ a ∧ a ≤ 20000
theorem far_iff {a b : Int} : farI a b = false ↔ Near a ∧ Near b := by
  unfold farI Near
  simp only [Bool.or_eq_false_iff, decide_eq_false_iff_not]
  omega
theorem wmul {u v : Int} (hu : u.natAbs ≤ 40000) (hv : v.natAbs ≤ 40000) : (u * v).natAbs ≤ 1600000000 := by
  rw [Int.natAbs_mul]; exact Nat.mul_le_mul hu hv
theorem turn_eq {a b c d x y : Int} (ha : Near a) (hb : Near b) (hc : Near c) (hd : Near d) (hx : Near x) (hy : Near y) : turnR a b c d x y = turnI a b c d x y := by
  unfold Near at *
  have e1 : w64 (c - a) = c - a := w64_id (by omega) (by omega)
  have e2 : w64 (y - b) = y - b := w64_id (by omega) (by omega)
  have e3 : w64 (d - b) = d - b := w64_id (by omega) (by omega)
  have e4 : w64 (x - a) = x - a := w64_id (by omega) (by omega)
  have b1 := wmul (u := c - a) (v := y - b) (by omega) (by omega)
  have b2 := wmul (u := d - b) (v := x - a) (by omega) (by omega)
  unfold turnR turnI cmpI
  rw [e1, e2, e3, e4]
  generalize (c - a) * (y - b) = P at *
  generalize (d - b) * (x - a) = Q at *
  have e5 : w64 P = P := w64_id (by omega) (by omega)
  have e6 : w64 Q = Q := w64_id (by omega) (by omega)
  have e7 : w64 (P - Q) = P - Q := w64_id (by omega) (by omega)
  rw [e5, e6, e7]
  repeat' split
  all_goals omega
theorem cmp_self (P : Int) : cmpI P P = 0 := by unfold cmpI; rw [if_neg (by omega), if_neg (by omega)]
theorem on_eq (p q a b c d : Int) : onI p q a b c d = (decide (turnI a b c d p q = 0) && withinI p q a b c d) := by
  unfold onI
  rw [Bool.eq_iff_iff]
  simp only [Bool.or_eq_true, Bool.and_eq_true, decide_eq_true_eq]
  constructor
  · rintro ((⟨rfl, rfl⟩ | ⟨rfl, rfl⟩) | h)
    · refine ⟨?_, ?_⟩
      · unfold turnI
        have : w64 0 = 0 := by decide
        simp only [Int.sub_self, this, Int.mul_zero, cmp_self]
      · unfold withinI; simp only [Bool.and_eq_true, decide_eq_true_eq]; omega
    · refine ⟨?_, ?_⟩
      · unfold turnI
        rw [Int.mul_comm (w64 (q - b)), cmp_self]
      · unfold withinI; simp only [Bool.and_eq_true, decide_eq_true_eq]; omega
    · exact h
  · exact fun h => .inr h
theorem cross_eq {a b c d x y z t : Int} (ha : Near a) (hb : Near b) (hc : Near c) (hd : Near d) (hx : Near x) (hy : Near y) (hz : Near z) (ht : Near t) : crossI a b c d x y z t = crossR a b c d x y z t := by
  unfold crossI crossR
  simp only [on_eq, turn_eq ha hb hc hd hx hy, turn_eq ha hb hc hd hz ht, turn_eq hx hy hz ht ha hb, turn_eq hx hy hz ht hc hd]
  generalize (decide (turnI a b c d x y = 0) && withinI x y a b c d) = A
  generalize (decide (turnI a b c d z t = 0) && withinI z t a b c d) = B
  generalize (decide (turnI x y z t a b = 0) && withinI a b x y z t) = C
  generalize (decide (turnI x y z t c d = 0) && withinI c d x y z t) = D
  generalize (decide (w64 (turnI a b c d x y * turnI a b c d z t) < 0) && decide (w64 (turnI x y z t a b * turnI x y z t c d) < 0)) = E
  cases A <;> cases B <;> cases C <;> cases D <;> cases E <;> rfl
theorem s11 (H : Heap) : call1 T 40 (.fn 11) [] H = some (.bool true, H) := pure_any e11 (by rfl) (callB_up (T := T) 100 40 (.fn 11) [] heap0 (.bool true, heap0) (by kernel_rfl))
theorem s3 (a b c d x y z t f : Int) : call1 T 41 (.fn 3) [pt a b, pt c d, wl x y z t f] heap0 = some (.bool true, heap0) := by
  refine call_pure e3 (by rfl) ?_
  have h12 := fun H => s12 36 H [(a, b), (c, d), (x, y), (z, t)] true (by simp [maxLen])
  have h11 := s11
  simp only [ptsS, List.map_cons, List.map_nil] at h12
  simp only [c3, heap0, go_sem, Nat.reduceAdd, Nat.reduceBEq, Nat.reduceLeDiff, Nat.reduceLT, Nat.reduceMul, Nat.reduceSub, h11, h12]
  have h15 := fun H => s15 35 H a b c d x y z t f
  have h16 := fun H => s16 38 H a b c d x y z t f
  have h13 := fun H => s13 39 H a b c d
  have h14 := fun H => s14 39 H a b c d
  repeat' (with_reducible refine fork_split (fun _ => ?_) (fun _ => ?_) <;> simp only [*, go_sem, Nat.reduceAdd, Nat.reduceBEq, Nat.reduceLeDiff, Nat.reduceLT, Nat.reduceMul, Nat.reduceSub])
  rename_i hf
  simp only [List.any_cons, List.any_nil, Bool.or_false, Bool.or_eq_false_iff, far_iff] at hf
  obtain ⟨⟨ha, hb⟩, ⟨hc, hd⟩, ⟨hx, hy⟩, hz, ht⟩ := hf
  rw [cross_eq ha hb hc hd hx hy hz ht]
  simp
theorem law3 (xs : List SV) (h : FitsAll [(true, [.int .i64, .int .i64]), (true, [.int .i64, .int .i64]), (true, [.int .i64, .int .i64, .int .i64, .int .i64, .int .i64])] xs) : ∃ m, call1 T m (.fn 3) xs heap0 = some (.bool true, heap0) := by
  obtain ⟨x1, r1, rfl, h1, h⟩ := fitsAll_cons h
  obtain ⟨x2, r2, rfl, h2, h⟩ := fitsAll_cons h
  obtain ⟨x3, r3, rfl, h3, h⟩ := fitsAll_cons h
  cases fitsAll_nil h
  obtain ⟨c1, rfl, k1⟩ := fitsA_agg h1
  obtain ⟨c2, rfl, k2⟩ := fitsA_agg h2
  obtain ⟨c3, rfl, k3⟩ := fitsA_agg h3
  obtain ⟨a, _, rfl, _, k1⟩ := fitsL_i k1
  obtain ⟨b, _, rfl, _, k1⟩ := fitsL_i k1
  cases fitsL_nil' k1
  obtain ⟨c, _, rfl, _, k2⟩ := fitsL_i k2
  obtain ⟨d, _, rfl, _, k2⟩ := fitsL_i k2
  cases fitsL_nil' k2
  obtain ⟨x, _, rfl, _, k3⟩ := fitsL_i k3
  obtain ⟨y, _, rfl, _, k3⟩ := fitsL_i k3
  obtain ⟨z, _, rfl, _, k3⟩ := fitsL_i k3
  obtain ⟨t, _, rfl, _, k3⟩ := fitsL_i k3
  obtain ⟨f, _, rfl, _, k3⟩ := fitsL_i k3
  cases fitsL_nil' k3
  exact ⟨41, s3 a b c d x y z t f⟩
end Go.Sh
namespace Go.Sh
set_option linter.unusedSectionVars false
set_option linter.unnecessarySimpa false
set_option linter.unusedVariables false
set_option linter.unusedSimpArgs false
set_option maxRecDepth 100000
set_option maxHeartbeats 4000000
structure Wl where
  a : Int
  b : Int
  c : Int
  d : Int
  f : Int
abbrev wlC (w : Wl) : List SV := [.int .i64 w.a, .int .i64 w.b, .int .i64 w.c, .int .i64 w.d, .int .i64 w.f]
def wlsS (W : List Wl) : List (List SV) := W.map wlC
def intsS (P : List Int) : List (List SV) := P.map fun p => [.int .i64 p]
@[go_sem] theorem wlsS_len {W : List Wl} : (wlsS W).length = W.length := by simp [wlsS]
@[go_sem] theorem intsS_len {W : List Int} : (intsS W).length = W.length := by simp [intsS]
@[go_sem] theorem ptsS_len' {W : List (Int × Int)} : (ptsS W).length = W.length := by simp [ptsS]
abbrev st (N : List (Int × Int)) (P : List Int) (W : List Wl) (f1 f2 f3 : Bool) (ex no th : Int) : SV := .agg [.lst 2 (ptsS N) f1, .lst 1 (intsS P) f2, .lst 5 (wlsS W) f3, .int .i64 ex, .int .i64 no, .int .i64 th]
def pointI (a b : Int) : Bool := decide (0 ≤ a) && decide (a ≤ 10000) && decide (0 ≤ b) && decide (b ≤ 10000)
theorem s44 (n : Nat) (H : Heap) (a b : Int) : call1 T (n + 1) (.fn 44) [pt a b] H = some (.bool (pointI a b), H) := by
  refine call_pure e44 (by rfl) ?_
  simp only [c44, heap0, go_sem, Int.cast_ofNat_Int, Int.reduceToNat, Nat.reduceAdd, Nat.reduceBEq, Nat.reduceLeDiff, Nat.reduceLT, Nat.reduceMul, Nat.reduceSub, Int.reduceEq, Int.reduceLT, Int.reduceLE, Int.reduceNeg]
  repeat' (with_reducible refine fork_split (fun _ => ?_) (fun _ => ?_) <;> simp only [*, go_sem, Int.cast_ofNat_Int, Int.reduceToNat, Nat.reduceAdd, Nat.reduceBEq, Nat.reduceLeDiff, Nat.reduceLT, Nat.reduceMul, Nat.reduceSub, Int.reduceEq, Int.reduceLT, Int.reduceLE, Int.reduceNeg])
  all_goals (simp only [decide_eq_true_eq, decide_eq_false_iff_not] at *; simp only [pointI]; congr 2; rw [Bool.eq_iff_iff]; simp only [Bool.and_eq_true, decide_eq_true_eq, Bool.false_eq_true, false_iff]; omega)
def powI (n : Int) : Bool := decide (0 ≤ n) && decide (n ≤ 68719476736)
theorem s45 (n : Nat) (H : Heap) (a : Int) : call1 T (n + 1) (.fn 45) [.int .i64 a] H = some (.bool (powI a), H) := by
  refine call_pure e45 (by rfl) ?_
  simp only [c45, heap0, go_sem, Int.cast_ofNat_Int, Int.reduceToNat, Nat.reduceAdd, Nat.reduceBEq, Nat.reduceLeDiff, Nat.reduceLT, Nat.reduceMul, Nat.reduceSub, Int.reduceEq, Int.reduceLT, Int.reduceLE, Int.reduceNeg]
  repeat' (with_reducible refine fork_split (fun _ => ?_) (fun _ => ?_) <;> simp only [*, go_sem, Int.cast_ofNat_Int, Int.reduceToNat, Nat.reduceAdd, Nat.reduceBEq, Nat.reduceLeDiff, Nat.reduceLT, Nat.reduceMul, Nat.reduceSub, Int.reduceEq, Int.reduceLT, Int.reduceLE, Int.reduceNeg])
  all_goals (simp only [powI]; grind)
theorem s53 (n : Nat) (H : Heap) (a : Int) : call1 T (n + 1) (.fn 53) [.int .i64 a] H = some (.bool (powI a), H) := by
  refine call_pure e53 (by rfl) ?_
  simp only [c53, heap0, go_sem, Int.cast_ofNat_Int, Int.reduceToNat, Nat.reduceAdd, Nat.reduceBEq, Nat.reduceLeDiff, Nat.reduceLT, Nat.reduceMul, Nat.reduceSub, Int.reduceEq, Int.reduceLT, Int.reduceLE, Int.reduceNeg]
  repeat' (with_reducible refine fork_split (fun _ => ?_) (fun _ => ?_) <;> simp only [*, go_sem, Int.cast_ofNat_Int, Int.reduceToNat, Nat.reduceAdd, Nat.reduceBEq, Nat.reduceLeDiff, Nat.reduceLT, Nat.reduceMul, Nat.reduceSub, Int.reduceEq, Int.reduceLT, Int.reduceLE, Int.reduceNeg])
  all_goals (simp only [powI]; grind)
theorem s68 (n : Nat) (H : Heap) (a : Int) : call1 T (n + 1) (.fn 68) [.int .i64 a] H = some (.bool (powI a), H) := by
  refine call_pure e68 (by rfl) ?_
  simp only [c68, heap0, go_sem, Int.cast_ofNat_Int, Int.reduceToNat, Nat.reduceAdd, Nat.reduceBEq, Nat.reduceLeDiff, Nat.reduceLT, Nat.reduceMul, Nat.reduceSub, Int.reduceEq, Int.reduceLT, Int.reduceLE, Int.reduceNeg]
  repeat' (with_reducible refine fork_split (fun _ => ?_) (fun _ => ?_) <;> simp only [*, go_sem, Int.cast_ofNat_Int, Int.reduceToNat, Nat.reduceAdd, Nat.reduceBEq, Nat.reduceLeDiff, Nat.reduceLT, Nat.reduceMul, Nat.reduceSub, Int.reduceEq, Int.reduceLT, Int.reduceLE, Int.reduceNeg])
  all_goals (simp only [powI]; grind)
theorem s47 (n : Nat) (H : Heap) (a b : Int) : call1 T (n + 2) (.fn 47) [pt a b] H = some (.bool (!pointI a b), H) := by
  refine call_pure e47 (by rfl) ?_
  simp only [c47, heap0, go_sem, Int.cast_ofNat_Int, Int.reduceToNat, Nat.reduceAdd, Nat.reduceBEq, Nat.reduceLeDiff, Nat.reduceLT, Nat.reduceMul, Nat.reduceSub, Int.reduceEq, Int.reduceLT, Int.reduceLE, Int.reduceNeg, s44]
theorem s49 (n : Nat) (H : Heap) (a : Int) : call1 T (n + 2) (.fn 49) [.int .i64 a] H = some (.bool (!powI a), H) := by
  refine call_pure e49 (by rfl) ?_
  simp only [c49, heap0, go_sem, Int.cast_ofNat_Int, Int.reduceToNat, Nat.reduceAdd, Nat.reduceBEq, Nat.reduceLeDiff, Nat.reduceLT, Nat.reduceMul, Nat.reduceSub, Int.reduceEq, Int.reduceLT, Int.reduceLE, Int.reduceNeg, s45]
theorem s52 (n : Nat) (H : Heap) (a b : Int) : call1 T (n + 1) (.fn 52) [pt a b] H = some (.bool (pointI a b), H) := by
  refine call_pure e52 (by rfl) ?_
  simp only [c52, heap0, go_sem, Int.cast_ofNat_Int, Int.reduceToNat, Nat.reduceAdd, Nat.reduceBEq, Nat.reduceLeDiff, Nat.reduceLT, Nat.reduceMul, Nat.reduceSub, Int.reduceEq, Int.reduceLT, Int.reduceLE, Int.reduceNeg]
  repeat' (with_reducible refine fork_split (fun _ => ?_) (fun _ => ?_) <;> simp only [*, go_sem, Int.cast_ofNat_Int, Int.reduceToNat, Nat.reduceAdd, Nat.reduceBEq, Nat.reduceLeDiff, Nat.reduceLT, Nat.reduceMul, Nat.reduceSub, Int.reduceEq, Int.reduceLT, Int.reduceLE, Int.reduceNeg])
  all_goals (simp only [pointI]; grind)
def rightI (t m : Int) : Bool := decide (1000 ≤ t) && decide (t ≤ 100000) && decide (1 ≤ m) && decide (m ≤ 68719476736)
theorem s56 (n : Nat) (H : Heap) (t m : Int) : call1 T (n + 1) (.fn 56) [.int .i64 t, .int .i64 m] H = some (.bool (rightI t m), H) := by
  refine call_pure e56 (by rfl) ?_
  simp only [c56, heap0, go_sem, Int.cast_ofNat_Int, Int.reduceToNat, Nat.reduceAdd, Nat.reduceBEq, Nat.reduceLeDiff, Nat.reduceLT, Nat.reduceMul, Nat.reduceSub, Int.reduceEq, Int.reduceLT, Int.reduceLE, Int.reduceNeg]
  repeat' (with_reducible refine fork_split (fun _ => ?_) (fun _ => ?_) <;> simp only [*, go_sem, Int.cast_ofNat_Int, Int.reduceToNat, Nat.reduceAdd, Nat.reduceBEq, Nat.reduceLeDiff, Nat.reduceLT, Nat.reduceMul, Nat.reduceSub, Int.reduceEq, Int.reduceLT, Int.reduceLE, Int.reduceNeg])
  all_goals (simp only [rightI]; grind)
/-- Scale: the number, and the error. -/
def scOk (p f : Int) : Bool := powI p && decide (0 ≤ f) && decide (f ≤ 1000)
def scV (p f : Int) : Int := if scOk p f = true then w64 ((w64 (p * f)).tdiv 1000) else 0
def scE (p f : Int) : Int := if scOk p f = true then 0 else 2
theorem s65 (n : Nat) (H : Heap) (p f : Int) : call1 T (n + 2) (.fn 65) [.int .i64 p, .int .i64 f] H = some (.tup [.int .i64 (scV p f), .int .i64 (scE p f)], H) := by
  refine call_pure e65 (by rfl) ?_
  simp only [c65, heap0, go_sem, Int.cast_ofNat_Int, Int.reduceToNat, Nat.reduceAdd, Nat.reduceBEq, Nat.reduceLeDiff, Nat.reduceLT, Nat.reduceMul, Nat.reduceSub, Int.reduceEq, Int.reduceLT, Int.reduceLE, Int.reduceNeg, s68]
  repeat' (with_reducible refine fork_split (fun _ => ?_) (fun _ => ?_) <;> simp only [*, go_sem, Int.cast_ofNat_Int, Int.reduceToNat, Nat.reduceAdd, Nat.reduceBEq, Nat.reduceLeDiff, Nat.reduceLT, Nat.reduceMul, Nat.reduceSub, Int.reduceEq, Int.reduceLT, Int.reduceLE, Int.reduceNeg])
  all_goals (simp only [scV, scE, scOk]; grind)
def fewI (N : List (Int × Int)) (P : List Int) (W : List Wl) : Bool := decide (N.length ≤ 40) && decide (P.length ≤ 40) && decide (W.length ≤ 40)
theorem s20 (n : Nat) (H : Heap) (N P W f1 f2 f3 ex no th) : call1 T (n + 1) (.fn 20) [st N P W f1 f2 f3 ex no th] H = some (.bool (fewI N P W), H) := by
  refine call_pure e20 (by rfl) ?_
  simp only [c20, heap0, go_sem, Int.cast_ofNat_Int, Int.reduceToNat, Nat.reduceAdd, Nat.reduceBEq, Nat.reduceLeDiff, Nat.reduceLT, Nat.reduceMul, Nat.reduceSub, Int.reduceEq, Int.reduceLT, Int.reduceLE, Int.reduceNeg, wlsS_len, intsS_len, ptsS_len']
  repeat' (with_reducible refine fork_split (fun _ => ?_) (fun _ => ?_) <;> simp only [*, go_sem, Int.cast_ofNat_Int, Int.reduceToNat, Nat.reduceAdd, Nat.reduceBEq, Nat.reduceLeDiff, Nat.reduceLT, Nat.reduceMul, Nat.reduceSub, Int.reduceEq, Int.reduceLT, Int.reduceLE, Int.reduceNeg])
  all_goals (simp only [fewI]; refine congrArg some (congrArg SV.bool ?_); rw [Bool.eq_iff_iff]; grind)
end Go.Sh
namespace Go.Sh
set_option linter.unusedSectionVars false
set_option linter.unnecessarySimpa false
set_option linter.unusedVariables false
set_option linter.unusedSimpArgs false
set_option maxRecDepth 100000
set_option maxHeartbeats 4000000
def sqI (a b c d : Int) : Int := w64 (w64 (w64 (a - c) * w64 (a - c)) + w64 (w64 (b - d) * w64 (b - d)))
theorem sqI_eq (a b c d : Int) : w64 (w64 (w64 (a - c) * w64 (a - c)) + w64 (w64 (b - d) * w64 (b - d))) = sqI a b c d := rfl
def mI (a b c d : Int) : Int := max (sqI a b c d) 100
theorem mI_eq (a b c d : Int) : max (sqI a b c d) 100 = mI a b c d := rfl
theorem mI_ne (a b c d : Int) : decide (mI a b c d = 0) = false := by
  have : 100 ≤ mI a b c d := Int.le_max_right _ _
  rw [decide_eq_false_iff_not]; omega
def startI (ex a b p c d : Int) : Int := let p1 := w64 ((w64 (p * 100)).tdiv (mI a b c d)); if ex = 4 then w64 ((w64 (p1 * 100)).tdiv (mI a b c d)) else p1
def stepR (a b c d p : Int) (w : Wl) : Int := if crossR a b c d w.a w.b w.c w.d = true then w64 ((w64 (p * w.f)).tdiv 1000) else p
def atR (W : List Wl) (ex a b p c d : Int) : Int := W.foldl (stepR a b c d) (startI ex a b p c d)
theorem foldl_take {A B : Type} (f : A → B → A) (z : A) {l : List B} {i : Nat} {x : B} (h : l[i]? = some x) : (l.take (i + 1)).foldl f z = f ((l.take i).foldl f z) x := by
  rw [List.take_add_one, h]; simp
@[go_sem] theorem wlsS_get (W : List Wl) (i : Nat) : (wlsS W)[i]? = (W[i]?).map wlC := by simp [wlsS]
@[go_sem] theorem intsS_get (W : List Int) (i : Nat) : (intsS W)[i]? = (W[i]?).map (fun p => [.int .i64 p]) := by simp [intsS]
@[go_sem] theorem ptsS_get (W : List (Int × Int)) (i : Nat) : (ptsS W)[i]? = (W[i]?).map (fun p => [.int .i64 p.1, .int .i64 p.2]) := by simp [ptsS]
theorem w64_succ {i n : Nat} (h : i < n) (hn : n ≤ maxLen) : w64 ((i : Int) + 1) = ((i + 1 : Nat) : Int) := by
  simp only [maxLen] at hn
  rw [w64_id (by omega) (by omega)]; omega
theorem s54 (n : Nat) (H : Heap) (N P W f1 f2 f3 ex no th a b p c d) (hW : W.length ≤ maxLen) : call1 T (n + 3) (.fn 54) [st N P W f1 f2 f3 ex no th, pt a b, .int .i64 p, pt c d] H = some (.int .i64 (atR W ex a b p c d), H) := by
  refine call_pure e54 (by rfl) ?_
  have hm := mI_ne a b c d
  simp only [c54, heap0, go_sem, Int.cast_ofNat_Int, Int.reduceToNat, Nat.reduceAdd, Nat.reduceBEq, Nat.reduceLeDiff, Nat.reduceLT, Nat.reduceMul, Nat.reduceSub, Int.reduceEq, Int.reduceLT, Int.reduceLE, Int.reduceNeg, s14, sqI_eq, mI_eq, hm]
  with_reducible refine fork_split (fun hex => ?_) (fun hex => ?_)
  all_goals
    simp only [go_sem, Int.cast_ofNat_Int, Int.reduceToNat, Nat.reduceAdd, Nat.reduceBEq, Nat.reduceLeDiff, Nat.reduceLT, Nat.reduceMul, Nat.reduceSub, Int.reduceEq, Int.reduceLT, Int.reduceLE, Int.reduceNeg, hm]
    refine loop_rule (fun i => ([(4, .ptr 0 0 0 0), (5, .ptr 1 0 0 0), (7, .ptr 2 0 0 0), (10, .int .i64 ((W.take i).foldl (stepR a b c d) (startI ex a b p c d))), (11, .int .i64 i)], ⟨[.box [.lst 2 (ptsS N) f1, .lst 1 (intsS P) f2, .lst 5 (wlsS W) f3, .int .i64 ex, .int .i64 no, .int .i64 th], .box [.int .i64 a, .int .i64 b], .box [.int .i64 c, .int .i64 d]], [], 0⟩)) (fun _ => True) W.length ?_ trivial ?_
    · simp only [decide_eq_true_eq, decide_eq_false_iff_not] at hex
      simp only [go_sem, Int.cast_ofNat_Int, Int.reduceToNat, Nat.reduceAdd, Nat.reduceBEq, Nat.reduceLeDiff, Nat.reduceLT, Nat.reduceMul, Nat.reduceSub, Int.reduceEq, Int.reduceLT, Int.reduceLE, Int.reduceNeg, startI, hex, if_true, if_false]
      rfl
    · intro i hi _
      rcases Nat.lt_or_ge i W.length with hlt | hge
      · obtain ⟨w, hw⟩ : ∃ w, W[i]? = some w := ⟨W[i], List.getElem?_eq_getElem hlt⟩
        have hs := w64_succ hlt hW
        have hf := foldl_take (stepR a b c d) (startI ex a b p c d) hw
        simp only [go_sem, Int.cast_ofNat_Int, Int.reduceToNat, Nat.reduceAdd, Nat.reduceBEq, Nat.reduceLeDiff, Nat.reduceLT, Nat.reduceMul, Nat.reduceSub, Int.reduceEq, Int.reduceLT, Int.reduceLE, Int.reduceNeg, hlt, hw, s16, hf, stepR]
        with_reducible refine post_fork (fun hc => ?_) (fun hc => ?_)
        · simp only [go_sem, Int.cast_ofNat_Int, Int.reduceToNat, Nat.reduceAdd, Nat.reduceBEq, Nat.reduceLeDiff, Nat.reduceLT, Nat.reduceMul, Nat.reduceSub, Int.reduceEq, Int.reduceLT, Int.reduceLE, Int.reduceNeg, hlt, hw, hs, hc, hf, stepR, if_true]
          exact ⟨trivial, rfl, trivial⟩
        · simp only [go_sem, Int.cast_ofNat_Int, Int.reduceToNat, Nat.reduceAdd, Nat.reduceBEq, Nat.reduceLeDiff, Nat.reduceLT, Nat.reduceMul, Nat.reduceSub, Int.reduceEq, Int.reduceLT, Int.reduceLE, Int.reduceNeg, hlt, hw, hs, hc, hf, stepR, Bool.false_eq_true, if_false]
          exact ⟨trivial, rfl, trivial⟩
      · have hlt : ¬ i < W.length := by omega
        have ht : W.take i = W := List.take_of_length_le hge
        simp only [go_sem, Int.cast_ofNat_Int, Int.reduceToNat, Nat.reduceAdd, Nat.reduceBEq, Nat.reduceLeDiff, Nat.reduceLT, Nat.reduceMul, Nat.reduceSub, Int.reduceEq, Int.reduceLT, Int.reduceLE, Int.reduceNeg, hlt, ht, atR]
end Go.Sh
namespace Go.Sh
set_option linter.unusedSectionVars false
set_option linter.unnecessarySimpa false
set_option linter.unusedVariables false
set_option linter.unusedSimpArgs false
set_option maxRecDepth 100000
set_option maxHeartbeats 4000000
theorem s64 (n : Nat) (bl es ro) (N P W f1 f2 f3 ex no th a b c d) : call1 T (n + 1) (.fn 64) [st N P W f1 f2 f3 ex no th, pt a b, pt c d] ⟨bl, es, ro⟩ =
    some (.fn 72 [.ptr bl.length 0 0 0, .ptr (bl.length + 1) 0 0 0, .ptr (bl.length + 1 + 1) 0 0 0], ⟨bl ++ [.box [.lst 2 (ptsS N) f1, .lst 1 (intsS P) f2, .lst 5 (wlsS W) f3, .int .i64 ex, .int .i64 no, .int .i64 th], .box [.int .i64 a, .int .i64 b], .box [.int .i64 c, .int .i64 d]], es, ro⟩) := by
  refine call_in e64 (by rfl) ?_
  simp only [c64, go_sem, Int.cast_ofNat_Int, Int.reduceToNat, Nat.reduceAdd, Nat.reduceBEq, Nat.reduceLeDiff, Nat.reduceLT, Nat.reduceMul, Nat.reduceSub, Int.reduceEq, Int.reduceLT, Int.reduceLE, Int.reduceNeg, List.append_assoc, List.length_append]
def stepI (a b c d p : Int) (w : Wl) : Int := if crossI a b c d w.a w.b w.c w.d = true then scV p w.f else p
theorem s72 (n : Nat) (q : LoopRec) (X0 X1 X3 : SBlk) (X2 : Int → SBlk) (f1 f2 f3 : Bool) (N P W) (ex no th a b c d : Int) (hW : W.length ≤ maxLen)
    (hy : ∀ (p : Int) (w : Wl) (X : SBlk), call1 T (n + 6) (.yld 7) [.agg (wlC w)] ⟨[X0, X1, X2 p, X3, .box [.lst 2 (ptsS N) f1, .lst 1 (intsS P) f2, .lst 5 (wlsS W) f3, .int .i64 ex, .int .i64 no, .int .i64 th], .box [.int .i64 a, .int .i64 b], .box [.int .i64 c, .int .i64 d], .loop q .ready .normal, X], [], 0⟩ =
      some (.bool true, ⟨[X0, X1, X2 (scV p w.f), X3, .box [.lst 2 (ptsS N) f1, .lst 1 (intsS P) f2, .lst 5 (wlsS W) f3, .int .i64 ex, .int .i64 no, .int .i64 th], .box [.int .i64 a, .int .i64 b], .box [.int .i64 c, .int .i64 d], .loop q .ready .normal, X], [], 0⟩)) (p : Int) :
    call1 T (n + 7) (.fn 72) [.yld 7, .ptr 4 0 0 0, .ptr 5 0 0 0, .ptr 6 0 0 0] ⟨[X0, X1, X2 p, X3, .box [.lst 2 (ptsS N) f1, .lst 1 (intsS P) f2, .lst 5 (wlsS W) f3, .int .i64 ex, .int .i64 no, .int .i64 th], .box [.int .i64 a, .int .i64 b], .box [.int .i64 c, .int .i64 d], .loop q .ready .normal], [], 0⟩ =
      some (.tup [], ⟨[X0, X1, X2 (W.foldl (stepI a b c d) p), X3, .box [.lst 2 (ptsS N) f1, .lst 1 (intsS P) f2, .lst 5 (wlsS W) f3, .int .i64 ex, .int .i64 no, .int .i64 th], .box [.int .i64 a, .int .i64 b], .box [.int .i64 c, .int .i64 d], .loop q .ready .normal], [], 0⟩) := by
  refine call_in e72 (by rfl) ?_
  simp only [c72, go_sem, Int.cast_ofNat_Int, Int.reduceToNat, Nat.reduceAdd, Nat.reduceBEq, Nat.reduceLeDiff, Nat.reduceLT, Nat.reduceMul, Nat.reduceSub, Int.reduceEq, Int.reduceLT, Int.reduceLE, Int.reduceNeg]
  refine loop_rule (fun i => ([(0, .yld 7), (2, .ptr 5 0 0 0), (3, .ptr 6 0 0 0), (8, .lst 5 (wlsS W) f3), (9, .int .i64 W.length), (10, .int .i64 i)], ⟨[X0, X1, X2 ((W.take i).foldl (stepI a b c d) p), X3, .box [.lst 2 (ptsS N) f1, .lst 1 (intsS P) f2, .lst 5 (wlsS W) f3, .int .i64 ex, .int .i64 no, .int .i64 th], .box [.int .i64 a, .int .i64 b], .box [.int .i64 c, .int .i64 d], .loop q .ready .normal], [], 0⟩)) (fun _ => True) W.length ?_ trivial ?_
  · simp only [go_sem, Int.cast_ofNat_Int, Int.reduceToNat, Nat.reduceAdd, Nat.reduceBEq, Nat.reduceLeDiff, Nat.reduceLT, Nat.reduceMul, Nat.reduceSub, Int.reduceEq, Int.reduceLT, Int.reduceLE, Int.reduceNeg]
    rfl
  · intro i hi _
    rcases Nat.lt_or_ge i W.length with hlt | hge
    · obtain ⟨w, hw⟩ : ∃ w, W[i]? = some w := ⟨W[i], List.getElem?_eq_getElem hlt⟩
      have hs := w64_succ hlt hW
      have hf := foldl_take (stepI a b c d) p hw
      simp only [go_sem, Int.cast_ofNat_Int, Int.reduceToNat, Nat.reduceAdd, Nat.reduceBEq, Nat.reduceLeDiff, Nat.reduceLT, Nat.reduceMul, Nat.reduceSub, Int.reduceEq, Int.reduceLT, Int.reduceLE, Int.reduceNeg, hlt, hw, s15, hf, stepI]
      with_reducible refine post_fork (fun hc => ?_) (fun hc => ?_)
      · simp only [go_sem, Int.cast_ofNat_Int, Int.reduceToNat, Nat.reduceAdd, Nat.reduceBEq, Nat.reduceLeDiff, Nat.reduceLT, Nat.reduceMul, Nat.reduceSub, Int.reduceEq, Int.reduceLT, Int.reduceLE, Int.reduceNeg, hlt, hw, hs, hc, hf, stepI, if_true, hy]
        exact ⟨trivial, rfl, trivial⟩
      · simp only [go_sem, Int.cast_ofNat_Int, Int.reduceToNat, Nat.reduceAdd, Nat.reduceBEq, Nat.reduceLeDiff, Nat.reduceLT, Nat.reduceMul, Nat.reduceSub, Int.reduceEq, Int.reduceLT, Int.reduceLE, Int.reduceNeg, hlt, hw, hs, hc, hf, stepI, Bool.false_eq_true, if_false]
        exact ⟨trivial, rfl, trivial⟩
    · have hlt : ¬ i < W.length := by omega
      have ht : W.take i = W := List.take_of_length_le hge
      simp only [go_sem, Int.cast_ofNat_Int, Int.reduceToNat, Nat.reduceAdd, Nat.reduceBEq, Nat.reduceLeDiff, Nat.reduceLT, Nat.reduceMul, Nat.reduceSub, Int.reduceEq, Int.reduceLT, Int.reduceLE, Int.reduceNeg, hlt, ht]
theorem onSome_of {A R : Type} {v : Option A} {f : A → Option R} {t : Tok f} {r : Option R} (o : A) (h : v = some o) (k : f o = r) : onSome v f t = r := by rw [h]; exact k
def atI (W : List Wl) (ex a b p c d : Int) : Int := W.foldl (stepI a b c d) (startI ex a b p c d)
theorem s46 (n : Nat) (H : Heap) (N P W f1 f2 f3 ex no th a b p c d) (hW : W.length ≤ maxLen) : call1 T (n + 8) (.fn 46) [st N P W f1 f2 f3 ex no th, pt a b, .int .i64 p, pt c d] H = some (.int .i64 (atI W ex a b p c d), H) := by
  refine call_pure e46 (by rfl) ?_
  have hm := mI_ne a b c d
  simp only [c46, heap0, go_sem, Int.cast_ofNat_Int, Int.reduceToNat, Nat.reduceAdd, Nat.reduceBEq, Nat.reduceLeDiff, Nat.reduceLT, Nat.reduceMul, Nat.reduceSub, Int.reduceEq, Int.reduceLT, Int.reduceLE, Int.reduceNeg, s13, sqI_eq, mI_eq, hm]
  with_reducible refine fork_split (fun hex => ?_) (fun hex => ?_)
  all_goals
    simp only [go_sem, Int.cast_ofNat_Int, Int.reduceToNat, Nat.reduceAdd, Nat.reduceBEq, Nat.reduceLeDiff, Nat.reduceLT, Nat.reduceMul, Nat.reduceSub, Int.reduceEq, Int.reduceLT, Int.reduceLE, Int.reduceNeg, hm, s64]
    refine onSome_of _ (s72 n _ _ _ _ (fun p => .box [.int .i64 p]) f1 f2 f3 N P W ex no th a b c d hW ?_ _) ?_
    · intro p w X
      refine yld_in rfl rfl ?_
      simp only [go_sem, Int.cast_ofNat_Int, Int.reduceToNat, Nat.reduceAdd, Nat.reduceBEq, Nat.reduceLeDiff, Nat.reduceLT, Nat.reduceMul, Nat.reduceSub, Int.reduceEq, Int.reduceLT, Int.reduceLE, Int.reduceNeg, s65]
    · simp only [decide_eq_true_eq, decide_eq_false_iff_not] at hex
      simp only [go_sem, Int.cast_ofNat_Int, Int.reduceToNat, Nat.reduceAdd, Nat.reduceBEq, Nat.reduceLeDiff, Nat.reduceLT, Nat.reduceMul, Nat.reduceSub, Int.reduceEq, Int.reduceLT, Int.reduceLE, Int.reduceNeg, atI, startI, hex, if_true, if_false]
end Go.Sh
namespace Go.Sh
set_option linter.unusedSectionVars false
set_option linter.unnecessarySimpa false
set_option linter.unusedVariables false
set_option linter.unusedSimpArgs false
set_option maxRecDepth 100000
set_option maxHeartbeats 4000000
def badW (w : Wl) : Bool := !pointI w.a w.b || !pointI w.c w.d || decide (w.f < 0) || decide (1000 < w.f)
theorem s51 (n : Nat) (X0 : SBlk) (w : Wl) : call1 T (n + 3) (.fn 51) [.agg (wlC w), .ptr 1 0 0 0] ⟨[X0, .box [.fn 47 []]], [], 0⟩ = some (.bool (badW w), ⟨[X0, .box [.fn 47 []]], [], 0⟩) := by
  refine call_in e51 (by rfl) ?_
  simp only [c51, go_sem, Int.cast_ofNat_Int, Int.reduceToNat, Nat.reduceAdd, Nat.reduceBEq, Nat.reduceLeDiff, Nat.reduceLT, Nat.reduceMul, Nat.reduceSub, Int.reduceEq, Int.reduceLT, Int.reduceLE, Int.reduceNeg, s47]
  repeat' (with_reducible refine fork_split (fun _ => ?_) (fun _ => ?_) <;> simp only [*, go_sem, Int.cast_ofNat_Int, Int.reduceToNat, Nat.reduceAdd, Nat.reduceBEq, Nat.reduceLeDiff, Nat.reduceLT, Nat.reduceMul, Nat.reduceSub, Int.reduceEq, Int.reduceLT, Int.reduceLE, Int.reduceNeg, s47])
  all_goals (simp only [badW]; grind)
theorem s67c (n id : Nat) (X0 X1 : SBlk) (L : List (List SV)) (fl : Bool) (p : List SV → Bool) (hr : ∀ r ∈ L, r.length = 5) (hm : L.length ≤ maxLen)
    (hc : ∀ r ∈ L, call1 T n (.fn id) [.agg r, .ptr 1 0 0 0] ⟨[X0, X1], [], 0⟩ = some (.bool (p r), ⟨[X0, X1], [], 0⟩)) :
    call1 T (n + 1) (.fn 67) [.lst 5 L fl, .fn id [.ptr 1 0 0 0]] ⟨[X0, X1], [], 0⟩ = some (.int .i64 (idx1 p L), ⟨[X0, X1], [], 0⟩) := by
  refine call_in e67 (by rfl) ?_
  simp only [c67, go_sem, Int.cast_ofNat_Int, Int.reduceToNat, Nat.reduceAdd, Nat.reduceBEq, Nat.reduceLeDiff, Nat.reduceLT, Nat.reduceMul, Nat.reduceSub, Int.reduceEq, Int.reduceLT, Int.reduceLE, Int.reduceNeg]
  refine loop_rule (fun i => ([(0, .lst 5 L fl), (1, .fn id [.ptr 1 0 0 0]), (7, .int .i64 L.length), (8, .int .i64 i)], ⟨[X0, X1], [], 0⟩)) (fun i => ∀ (j : Nat) r, j < i → L[j]? = some r → p r = false) L.length ?_ (fun j r h => by omega) ?_
  · simp only [go_sem, Int.cast_ofNat_Int, Int.reduceToNat, Nat.reduceAdd, Nat.reduceBEq, Nat.reduceLeDiff, Nat.reduceLT, Nat.reduceMul, Nat.reduceSub, Int.reduceEq, Int.reduceLT, Int.reduceLE, Int.reduceNeg]
    rfl
  · intro i hi hP
    rcases Nat.lt_or_ge i L.length with hlt | hge
    · obtain ⟨r, hr'⟩ : ∃ r, L[i]? = some r := ⟨L[i], List.getElem?_eq_getElem hlt⟩
      have hmem := List.mem_of_getElem? hr'
      have h1 := hr _ hmem
      have ht : List.take 5 r = r := List.take_of_length_le (by omega)
      have hw := w64_succ hlt hm
      cases hp : p r with
      | true =>
        have hx := idx1_at hr' hp hP
        simp only [go_sem, Int.cast_ofNat_Int, Int.reduceToNat, Nat.reduceAdd, Nat.reduceBEq, Nat.reduceLeDiff, Nat.reduceLT, Nat.reduceMul, Nat.reduceSub, Int.reduceEq, Int.reduceLT, Int.reduceLE, Int.reduceNeg, hlt, hr', hc r hmem, hw, h1, ht, hp, hx]
      | false =>
        simp only [go_sem, Int.cast_ofNat_Int, Int.reduceToNat, Nat.reduceAdd, Nat.reduceBEq, Nat.reduceLeDiff, Nat.reduceLT, Nat.reduceMul, Nat.reduceSub, Int.reduceEq, Int.reduceLT, Int.reduceLE, Int.reduceNeg, hlt, hr', hc r hmem, hw, h1, ht, hp]
        refine ⟨trivial, rfl, fun j r' hj hr2 => ?_⟩
        rcases Nat.lt_or_ge j i with hlt2 | hge2
        · exact hP j r' hlt2 hr2
        · have : j = i := by omega
          subst this
          rw [hr'] at hr2
          cases hr2
          exact hp
    · have hlt : ¬ i < L.length := by omega
      have hx : idx1 p L = -1 := idx1_none (fun j a hj => hP j a (by have := (List.getElem?_eq_some_iff.1 hj).1; omega) hj)
      simp only [go_sem, Int.cast_ofNat_Int, Int.reduceToNat, Nat.reduceAdd, Nat.reduceBEq, Nat.reduceLeDiff, Nat.reduceLT, Nat.reduceMul, Nat.reduceSub, Int.reduceEq, Int.reduceLT, Int.reduceLE, Int.reduceNeg, hlt, hx]
theorem s50c (n id : Nat) (X0 X1 : SBlk) (L : List (List SV)) (fl : Bool) (p : List SV → Bool) (hr : ∀ r ∈ L, r.length = 5) (hm : L.length ≤ maxLen)
    (hc : ∀ r ∈ L, call1 T n (.fn id) [.agg r, .ptr 1 0 0 0] ⟨[X0, X1], [], 0⟩ = some (.bool (p r), ⟨[X0, X1], [], 0⟩)) :
    call1 T (n + 2) (.fn 50) [.lst 5 L fl, .fn id [.ptr 1 0 0 0]] ⟨[X0, X1], [], 0⟩ = some (.bool (L.any p), ⟨[X0, X1], [], 0⟩) := by
  refine call_in e50 (by rfl) ?_
  simp only [c50, go_sem, Int.cast_ofNat_Int, Int.reduceToNat, Nat.reduceAdd, Nat.reduceBEq, Nat.reduceLeDiff, Nat.reduceLT, Nat.reduceMul, Nat.reduceSub, Int.reduceEq, Int.reduceLT, Int.reduceLE, Int.reduceNeg, s67c n id X0 X1 L fl p hr hm hc, idx1_any]
def ofW (r : List SV) : Wl := match r with | [.int _ a, .int _ b, .int _ c, .int _ d, .int _ f] => ⟨a, b, c, d, f⟩ | _ => ⟨0, 0, 0, 0, 0⟩
theorem any_map' {A B : Type} (f : A → B) (p : B → Bool) (q : A → Bool) (h : ∀ a, p (f a) = q a) (l : List A) : (l.map f).any p = l.any q := by
  induction l with
  | nil => rfl
  | cons a l ih => simp only [List.map_cons, List.any_cons, h, ih]
def pt1 (r : List SV) : Bool := match r with | [.int _ a, .int _ b] => !pointI a b | _ => false
def pw1 (r : List SV) : Bool := match r with | [.int _ a] => !powI a | _ => false
def okB (n p w : Nat) (A B C : Bool) (ex no th : Int) : Bool := decide (2 ≤ n) && decide (n ≤ 32) && !A && decide (p = n) && !B && decide (w ≤ 32) && !C && (decide (ex = 2) || decide (ex = 4)) && rightI th no
def okI (N : List (Int × Int)) (P : List Int) (W : List Wl) (ex no th : Int) : Bool := okB N.length P.length W.length (N.any (fun p => !pointI p.1 p.2)) (P.any (fun p => !powI p)) (W.any badW) ex no th
def chkI (N : List (Int × Int)) (P : List Int) (W : List Wl) (ex no th : Int) : Int := bif okI N P W ex no th then 0 else 1
theorem s23 (n : Nat) (H : Heap) (N P W f1 f2 f3 ex no th) (hN : N.length ≤ maxLen) (hP : P.length ≤ maxLen) (hW : W.length ≤ maxLen) : call1 T (n + 6) (.fn 23) [st N P W f1 f2 f3 ex no th] H = some (.int .i64 (chkI N P W ex no th), H) := by
  refine call_pure e23 (by rfl) ?_
  have h38 := fun H => s38 (n + 3) 47 H (ptsS N) f1 pt1 ptsS_len (by simpa [ptsS] using hN) (fun r hr H => by
    simp only [ptsS, List.mem_map] at hr; obtain ⟨p, _, rfl⟩ := hr; exact s47 (n + 1) H p.1 p.2)
  have h48 := fun H => s48 (n + 3) 49 H (intsS P) f2 pw1 (fun r hr => by simp only [intsS, List.mem_map] at hr; obtain ⟨p, _, rfl⟩ := hr; exact ⟨_, rfl⟩) (by simpa [intsS] using hP) (fun r hr H => by
    simp only [intsS, List.mem_map] at hr; obtain ⟨p, _, rfl⟩ := hr; exact s49 (n + 1) H p)
  have h50 := fun X0 => s50c (n + 3) 51 X0 (.box [.fn 47 []]) (wlsS W) f3 (fun r => badW (ofW r)) (fun r hr => by simp only [wlsS, List.mem_map] at hr; obtain ⟨p, _, rfl⟩ := hr; rfl) (by simpa [wlsS] using hW) (fun r hr => by
    simp only [wlsS, List.mem_map] at hr; obtain ⟨w, _, rfl⟩ := hr; exact s51 n X0 w)
  have a38 : (ptsS N).any pt1 = N.any (fun p => !pointI p.1 p.2) := any_map' _ _ _ (fun _ => rfl) N
  have a48 : (intsS P).any pw1 = P.any (fun p => !powI p) := any_map' _ _ _ (fun _ => rfl) P
  have a50 : (wlsS W).any (fun r => badW (ofW r)) = W.any badW := any_map' _ _ _ (fun _ => rfl) W
  rw [a38] at h38
  rw [a48] at h48
  simp only [a50] at h50
  simp only [c23, heap0, go_sem, Int.cast_ofNat_Int, Int.reduceToNat, Nat.reduceAdd, Nat.reduceBEq, Nat.reduceLeDiff, Nat.reduceLT, Nat.reduceMul, Nat.reduceSub, Int.reduceEq, Int.reduceLT, Int.reduceLE, Int.reduceNeg, h38]
  repeat' (with_reducible refine fork_split (fun _ => ?_) (fun _ => ?_) <;> simp only [*, go_sem, Int.cast_ofNat_Int, Int.reduceToNat, Nat.reduceAdd, Nat.reduceBEq, Nat.reduceLeDiff, Nat.reduceLT, Nat.reduceMul, Nat.reduceSub, Int.reduceEq, Int.reduceLT, Int.reduceLE, Int.reduceNeg, h38, h48, h50])
  all_goals
    clear h38 h48 h50 a38 a48 a50
    refine congrArg some (congrArg (SV.int .i64) ?_)
    simp only [chkI, okI]
    generalize (N.any fun p => !pointI p.fst p.snd) = A at *
    generalize (P.any fun p => !powI p) = B at *
    generalize W.any badW = C at *
    generalize N.length = ln at *
    generalize P.length = lp at *
    generalize W.length = lw at *
    generalize hq : okB ln lp lw A B C ex no th = q
    simp only [okB, rightI] at hq
    cases q <;> simp only [cond_true, cond_false] <;> grind
end Go.Sh
namespace Go.Sh
set_option linter.unusedSectionVars false
set_option linter.unnecessarySimpa false
set_option linter.unusedVariables false
set_option linter.unusedSimpArgs false
set_option maxRecDepth 100000
set_option maxHeartbeats 4000000
theorem any_at {A : Type} {q : A → Bool} {l : List A} {i : Nat} {a : A} (h : l[i]? = some a) (hp : q a = true) : l.any q = true := List.any_eq_true.2 ⟨a, List.mem_of_getElem? h, hp⟩
theorem any_no {A : Type} {q : A → Bool} {l : List A} (h : ∀ (i : Nat) a, l[i]? = some a → q a = false) : l.any q = false := by
  rw [List.any_eq_false]
  intro a ha
  obtain ⟨i, hi⟩ := List.mem_iff_getElem?.1 ha
  rw [h i a hi]; simp
theorem get_some {A : Type} {l : List A} {i : Nat} (h : i < l.length) : ∃ a, l[i]? = some a := ⟨l[i], List.getElem?_eq_getElem h⟩
theorem chk_no {N : List (Int × Int)} {P : List Int} {W : List Wl} {ex no th : Int} (h : okI N P W ex no th = false) : chkI N P W ex no th = 1 := by simp only [chkI, h, cond_false]
theorem chk_yes {N : List (Int × Int)} {P : List Int} {W : List Wl} {ex no th : Int} (h : okI N P W ex no th = true) : chkI N P W ex no th = 0 := by simp only [chkI, h, cond_true]
theorem ok_badN {N : List (Int × Int)} {P : List Int} {W : List Wl} {ex no th : Int} {i : Nat} {p : Int × Int} (h : N[i]? = some p) (hp : pointI p.1 p.2 = false) : okI N P W ex no th = false := by
  have : (N.any fun p => !pointI p.1 p.2) = true := any_at h (by simp [hp])
  simp only [okI, this, okB, Bool.not_true, Bool.and_false, Bool.false_and]
theorem ok_badP {N : List (Int × Int)} {P : List Int} {W : List Wl} {ex no th : Int} {i : Nat} {p : Int} (h : P[i]? = some p) (hp : powI p = false) : okI N P W ex no th = false := by
  have : (P.any fun p => !powI p) = true := any_at h (by simp [hp])
  simp only [okI, this, okB, Bool.not_true, Bool.and_false, Bool.false_and]
theorem ok_badW {N : List (Int × Int)} {P : List Int} {W : List Wl} {ex no th : Int} {i : Nat} {p : Wl} (h : W[i]? = some p) (hp : badW p = true) : okI N P W ex no th = false := by
  have : W.any badW = true := any_at h hp
  simp only [okI, this, okB, Bool.not_true, Bool.and_false, Bool.false_and]
theorem s29 (n : Nat) (H : Heap) (N P W f1 f2 f3 ex no th) (hW : W.length ≤ maxLen) (hN : N.length ≤ maxLen) : call1 T (n + 6) (.fn 29) [st N P W f1 f2 f3 ex no th] H = some (.int .i64 (chkI N P W ex no th), H) := by
  refine call_pure e29 (by rfl) ?_
  simp only [c29, heap0, go_sem, Int.cast_ofNat_Int, Int.reduceToNat, Nat.reduceAdd, Nat.reduceBEq, Nat.reduceLeDiff, Nat.reduceLT, Nat.reduceMul, Nat.reduceSub, Int.reduceEq, Int.reduceLT, Int.reduceLE, Int.reduceNeg, s56]
  repeat' (with_reducible refine fork_split (fun _ => ?_) (fun _ => ?_) <;> simp only [*, go_sem, Int.cast_ofNat_Int, Int.reduceToNat, Nat.reduceAdd, Nat.reduceBEq, Nat.reduceLeDiff, Nat.reduceLT, Nat.reduceMul, Nat.reduceSub, Int.reduceEq, Int.reduceLT, Int.reduceLE, Int.reduceNeg, s56])
  all_goals try (
    with_reducible refine congrArg some (congrArg (SV.int .i64) ?_)
    simp only [chkI, okI]
    generalize (N.any fun p => !pointI p.fst p.snd) = A at *
    generalize (P.any fun p => !powI p) = B at *
    generalize W.any badW = C at *
    generalize N.length = ln at *
    generalize P.length = lp at *
    generalize W.length = lw at *
    generalize hq : okB ln lp lw A B C ex no th = q
    simp only [okB, rightI] at *
    cases q <;> simp only [cond_true, cond_false] <;> grind)
  all_goals
    refine loop_rule (fun i => ([(1, .ptr 0 0 0 0), (3, .int .i64 N.length), (4, .int .i64 i)], ⟨[.box [.lst 2 (ptsS N) f1, .lst 1 (intsS P) f2, .lst 5 (wlsS W) f3, .int .i64 ex, .int .i64 no, .int .i64 th]], [], 0⟩))
      (fun i => ∀ (j : Nat), j < i → (∀ p, N[j]? = some p → pointI p.1 p.2 = true) ∧ (∀ p, P[j]? = some p → powI p = true)) N.length ?_ (fun j h => by omega) ?_
    · simp only [go_sem, Int.cast_ofNat_Int, Int.reduceToNat, Nat.reduceAdd, Nat.reduceBEq, Nat.reduceLeDiff, Nat.reduceLT, Nat.reduceMul, Nat.reduceSub, Int.reduceEq, Int.reduceLT, Int.reduceLE, Int.reduceNeg]
      rfl
    · intro i hi hI
      have hlen : P.length = N.length := by simp_all; omega
      rcases Nat.lt_or_ge i N.length with hlt | hge
      · obtain ⟨p, hp⟩ := get_some hlt
        obtain ⟨q, hq⟩ := get_some (l := P) (i := i) (by omega)
        have hlt2 : i < P.length := by omega
        have hs := w64_succ hlt hN
        cases h1 : pointI p.1 p.2 with
        | false => simp only [go_sem, Int.cast_ofNat_Int, Int.reduceToNat, Nat.reduceAdd, Nat.reduceBEq, Nat.reduceLeDiff, Nat.reduceLT, Nat.reduceMul, Nat.reduceSub, Int.reduceEq, Int.reduceLT, Int.reduceLE, Int.reduceNeg, hlt, hp, s52, h1, chk_no (ok_badN hp h1)]
        | true =>
          cases h2 : powI q with
          | false => simp only [go_sem, Int.cast_ofNat_Int, Int.reduceToNat, Nat.reduceAdd, Nat.reduceBEq, Nat.reduceLeDiff, Nat.reduceLT, Nat.reduceMul, Nat.reduceSub, Int.reduceEq, Int.reduceLT, Int.reduceLE, Int.reduceNeg, hlt, hlt2, hp, hq, s52, s53, h1, h2, chk_no (ok_badP hq h2)]
          | true =>
            simp only [go_sem, Int.cast_ofNat_Int, Int.reduceToNat, Nat.reduceAdd, Nat.reduceBEq, Nat.reduceLeDiff, Nat.reduceLT, Nat.reduceMul, Nat.reduceSub, Int.reduceEq, Int.reduceLT, Int.reduceLE, Int.reduceNeg, hlt, hlt2, hp, hq, s52, s53, h1, h2, hs]
            refine ⟨trivial, rfl, fun j hj => ?_⟩
            rcases Nat.lt_or_ge j i with h3 | h3
            · exact hI j h3
            · have : j = i := by omega
              subst this
              exact ⟨fun p' hp' => by rw [hp] at hp'; cases hp'; exact h1, fun p' hp' => by rw [hq] at hp'; cases hp'; exact h2⟩
      · have hlt : ¬ i < N.length := by omega
        simp only [go_sem, Int.cast_ofNat_Int, Int.reduceToNat, Nat.reduceAdd, Nat.reduceBEq, Nat.reduceLeDiff, Nat.reduceLT, Nat.reduceMul, Nat.reduceSub, Int.reduceEq, Int.reduceLT, Int.reduceLE, Int.reduceNeg, hlt]
        refine loop_rule (fun i => ([(1, .ptr 0 0 0 0), (5, .int .i64 i)], ⟨[.box [.lst 2 (ptsS N) f1, .lst 1 (intsS P) f2, .lst 5 (wlsS W) f3, .int .i64 ex, .int .i64 no, .int .i64 th]], [], 0⟩))
          (fun i => ∀ (j : Nat), j < i → (∀ p, W[j]? = some p → badW p = false)) W.length ?_ (fun j h => by omega) ?_
        · simp only [go_sem, Int.cast_ofNat_Int, Int.reduceToNat, Nat.reduceAdd, Nat.reduceBEq, Nat.reduceLeDiff, Nat.reduceLT, Nat.reduceMul, Nat.reduceSub, Int.reduceEq, Int.reduceLT, Int.reduceLE, Int.reduceNeg]
          rfl
        · intro k hk hK
          rcases Nat.lt_or_ge k W.length with hlt3 | hge3
          · obtain ⟨w, hw⟩ := get_some hlt3
            have hs := w64_succ hlt3 hW
            cases h1 : badW w with
            | true =>
              have hb := h1
              simp only [badW] at hb
              have hch := chk_no (N := N) (P := P) (ex := ex) (no := no) (th := th) (ok_badW hw h1)
              simp only [go_sem, Int.cast_ofNat_Int, Int.reduceToNat, Nat.reduceAdd, Nat.reduceBEq, Nat.reduceLeDiff, Nat.reduceLT, Nat.reduceMul, Nat.reduceSub, Int.reduceEq, Int.reduceLT, Int.reduceLE, Int.reduceNeg, hlt3, hw, s52, hch]
              repeat' (with_reducible refine post_fork (fun _ => ?_) (fun _ => ?_) <;> simp only [*, go_sem, Int.cast_ofNat_Int, Int.reduceToNat, Nat.reduceAdd, Nat.reduceBEq, Nat.reduceLeDiff, Nat.reduceLT, Nat.reduceMul, Nat.reduceSub, Int.reduceEq, Int.reduceLT, Int.reduceLE, Int.reduceNeg, s52])
              all_goals (exfalso; simp_all)
            | false =>
              have hb := h1
              simp only [badW, Bool.or_eq_false_iff] at hb
              obtain ⟨⟨⟨b1, b2⟩, b3⟩, b4⟩ := hb
              simp only [go_sem, Int.cast_ofNat_Int, Int.reduceToNat, Nat.reduceAdd, Nat.reduceBEq, Nat.reduceLeDiff, Nat.reduceLT, Nat.reduceMul, Nat.reduceSub, Int.reduceEq, Int.reduceLT, Int.reduceLE, Int.reduceNeg, hlt3, hw, s52, b1, b2, b3, b4, hs]
              refine ⟨trivial, rfl, fun j hj => ?_⟩
              rcases Nat.lt_or_ge j k with h3 | h3
              · exact hK j h3
              · have : j = k := by omega
                subst this
                exact fun p' hp' => by rw [hw] at hp'; cases hp'; exact h1
          · have hlt3 : ¬ k < W.length := by omega
            have hA : (N.any fun p => !pointI p.1 p.2) = false := any_no (fun j p hj => by
              have := (hI j (by have := (List.getElem?_eq_some_iff.1 hj).1; omega)).1 p hj
              simp [this])
            have hB : (P.any fun p => !powI p) = false := any_no (fun j p hj => by
              have := (hI j (by have := (List.getElem?_eq_some_iff.1 hj).1; omega)).2 p hj
              simp [this])
            have hC : W.any badW = false := any_no (fun j p hj => hK j (by have := (List.getElem?_eq_some_iff.1 hj).1; omega) p hj)
            have hok : okI N P W ex no th = true := by
              simp only [okI, hA, hB, hC, okB, rightI] at *
              simp_all
              omega
            simp only [go_sem, Int.cast_ofNat_Int, Int.reduceToNat, Nat.reduceAdd, Nat.reduceBEq, Nat.reduceLeDiff, Nat.reduceLT, Nat.reduceMul, Nat.reduceSub, Int.reduceEq, Int.reduceLT, Int.reduceLE, Int.reduceNeg, hlt3, chk_yes hok]
end Go.Sh
namespace Go.Sh
set_option linter.unusedSectionVars false
set_option linter.unnecessarySimpa false
set_option linter.unusedVariables false
set_option linter.unusedSimpArgs false
set_option maxRecDepth 100000
set_option maxHeartbeats 4000000
@[go_sem] theorem chk0 (N P W ex no th) : decide (chkI N P W ex no th = 0) = okI N P W ex no th := by
  unfold chkI; cases okI N P W ex no th <;> rfl
def argI (a b p c d : Int) : Bool := pointI a b && pointI c d && powI p
def AtV (v : Int) (ok arg : Bool) : Int := bif ok && arg then v else 0
def AtE (ok arg : Bool) (e : Int) : Int := bif ok then (bif arg then 0 else e) else 1
theorem s21 (n : Nat) (H : Heap) (N P W f1 f2 f3 ex no th a b p c d) (hN : N.length ≤ maxLen) (hP : P.length ≤ maxLen) (hW : W.length ≤ maxLen) :
    call1 T (n + 9) (.fn 21) [st N P W f1 f2 f3 ex no th, pt a b, .int .i64 p, pt c d] H = some (.tup [.int .i64 (AtV (atI W ex a b p c d) (okI N P W ex no th) (argI a b p c d)), .int .i64 (AtE (okI N P W ex no th) (argI a b p c d) 2)], H) := by
  refine call_pure e21 (by rfl) ?_
  have h23 := fun H => s23 (n + 2) H N P W f1 f2 f3 ex no th hN hP hW
  have h46 := fun H => s46 n H N P W f1 f2 f3 ex no th a b p c d hW
  simp only [c21, heap0, go_sem, Int.cast_ofNat_Int, Int.reduceToNat, Nat.reduceAdd, Nat.reduceBEq, Nat.reduceLeDiff, Nat.reduceLT, Nat.reduceMul, Nat.reduceSub, Int.reduceEq, Int.reduceLT, Int.reduceLE, Int.reduceNeg, h23, s44, s45, h46]
  repeat' (with_reducible refine fork_split (fun _ => ?_) (fun _ => ?_) <;> simp only [*, go_sem, Int.cast_ofNat_Int, Int.reduceToNat, Nat.reduceAdd, Nat.reduceBEq, Nat.reduceLeDiff, Nat.reduceLT, Nat.reduceMul, Nat.reduceSub, Int.reduceEq, Int.reduceLT, Int.reduceLE, Int.reduceNeg, h23, s44, s45, h46])
  all_goals (clear h23 h46; simp_all [AtV, AtE, argI])
theorem s24 (n : Nat) (H : Heap) (N P W f1 f2 f3 ex no th a b p c d) (hN : N.length ≤ maxLen) (hW : W.length ≤ maxLen) :
    call1 T (n + 7) (.fn 24) [st N P W f1 f2 f3 ex no th, pt a b, .int .i64 p, pt c d] H = some (.tup [.int .i64 (AtV (atR W ex a b p c d) (okI N P W ex no th) (argI a b p c d)), .int .i64 (AtE (okI N P W ex no th) (argI a b p c d) 2)], H) := by
  refine call_pure e24 (by rfl) ?_
  have h29 := fun H => s29 n H N P W f1 f2 f3 ex no th hW hN
  have h54 := fun H => s54 (n + 3) H N P W f1 f2 f3 ex no th a b p c d hW
  simp only [c24, heap0, go_sem, Int.cast_ofNat_Int, Int.reduceToNat, Nat.reduceAdd, Nat.reduceBEq, Nat.reduceLeDiff, Nat.reduceLT, Nat.reduceMul, Nat.reduceSub, Int.reduceEq, Int.reduceLT, Int.reduceLE, Int.reduceNeg, h29, s52, s53, h54]
  repeat' (with_reducible refine fork_split (fun _ => ?_) (fun _ => ?_) <;> simp only [*, go_sem, Int.cast_ofNat_Int, Int.reduceToNat, Nat.reduceAdd, Nat.reduceBEq, Nat.reduceLeDiff, Nat.reduceLT, Nat.reduceMul, Nat.reduceSub, Int.reduceEq, Int.reduceLT, Int.reduceLE, Int.reduceNeg, h29, s52, s53, h54])
  all_goals (clear h29 h54; simp_all [AtV, AtE, argI])
/-- The numbers of a site's nodes. -/
def inI (N : List (Int × Int)) (x y : Int) : Bool := decide (0 ≤ x) && decide (x < N.length) && decide (0 ≤ y) && decide (y < N.length)
def nd (N : List (Int × Int)) (i : Nat) : Int × Int := N.getD i (0, 0)
/-- What 'at' gives between two nodes. -/
def btw (at1 : Int → Int → Int → Int → Int → Int) (N : List (Int × Int)) (P : List Int) (x y : Int) : Int :=
  bif decide (x = y) then 0 else at1 (nd N x.toNat).1 (nd N x.toNat).2 (P.getD x.toNat 0) (nd N y.toNat).1 (nd N y.toNat).2
theorem s55 (n : Nat) (H : Heap) (N : List (Int × Int)) (P : List Int) (W f1 f2 f3 ex no th) (x y : Nat) (hx : x < N.length) (hy : y < N.length) (hP : P.length = N.length) (hW : W.length ≤ maxLen) :
    call1 T (n + 9) (.fn 55) [st N P W f1 f2 f3 ex no th, .int .i64 x, .int .i64 y] H = some (.int .i64 (btw (atI W ex) N P x y), H) := by
  refine call_pure e55 (by rfl) ?_
  obtain ⟨p, hp⟩ := get_some hx
  obtain ⟨q, hq⟩ := get_some hy
  obtain ⟨r, hr⟩ := get_some (l := P) (i := x) (by omega)
  have hx' : x < P.length := by omega
  have h46 := fun H => s46 n H N P W f1 f2 f3 ex no th p.1 p.2 r q.1 q.2 hW
  simp only [c55, heap0, go_sem, Int.cast_ofNat_Int, Int.reduceToNat, Nat.reduceAdd, Nat.reduceBEq, Nat.reduceLeDiff, Nat.reduceLT, Nat.reduceMul, Nat.reduceSub, Int.reduceEq, Int.reduceLT, Int.reduceLE, Int.reduceNeg, hx, hy, hx', hp, hq, hr, h46]
  repeat' (with_reducible refine fork_split (fun _ => ?_) (fun _ => ?_) <;> simp only [*, go_sem, Int.cast_ofNat_Int, Int.reduceToNat, Nat.reduceAdd, Nat.reduceBEq, Nat.reduceLeDiff, Nat.reduceLT, Nat.reduceMul, Nat.reduceSub, Int.reduceEq, Int.reduceLT, Int.reduceLE, Int.reduceNeg, hx, hy, hx', hp, hq, hr, h46])
  all_goals (clear h46; simp_all [btw, nd, List.getD_eq_getElem?_getD])
theorem ok_len {N : List (Int × Int)} {P : List Int} {W : List Wl} {ex no th : Int} (h : okI N P W ex no th = true) : P.length = N.length ∧ N.length ≤ 32 ∧ W.length ≤ 32 ∧ 2 ≤ N.length := by
  simp only [okI, okB, Bool.and_eq_true, decide_eq_true_eq] at h
  omega
theorem inI_iff {N : List (Int × Int)} {x y : Int} : inI N x y = true ↔ (0 ≤ x ∧ x < N.length) ∧ 0 ≤ y ∧ y < N.length := by
  simp only [inI, Bool.and_eq_true, decide_eq_true_eq, and_assoc]
theorem s55' (n : Nat) (H : Heap) (N : List (Int × Int)) (P : List Int) (W f1 f2 f3 ex no th) (x y : Int) (h : inI N x y = true) (hP : P.length = N.length) (hW : W.length ≤ maxLen) :
    call1 T (n + 9) (.fn 55) [st N P W f1 f2 f3 ex no th, .int .i64 x, .int .i64 y] H = some (.int .i64 (btw (atI W ex) N P x y), H) := by
  rw [inI_iff] at h
  obtain ⟨⟨h1, h2⟩, h3, h4⟩ := h
  obtain ⟨x', rfl⟩ := Int.eq_ofNat_of_zero_le h1
  obtain ⟨y', rfl⟩ := Int.eq_ofNat_of_zero_le h3
  exact s55 n H N P W f1 f2 f3 ex no th x' y' (by omega) (by omega) hP hW
theorem s25 (n : Nat) (H : Heap) (N : List (Int × Int)) (P : List Int) (W f1 f2 f3 ex no th) (x y : Int) (hN : N.length ≤ maxLen) (hP : P.length ≤ maxLen) (hW : W.length ≤ maxLen) :
    call1 T (n + 10) (.fn 25) [st N P W f1 f2 f3 ex no th, .int .i64 x, .int .i64 y] H = some (.tup [.int .i64 (AtV (btw (atI W ex) N P x y) (okI N P W ex no th) (inI N x y)), .int .i64 (AtE (okI N P W ex no th) (inI N x y) 7)], H) := by
  refine call_pure e25 (by rfl) ?_
  have h23 := fun H => s23 (n + 3) H N P W f1 f2 f3 ex no th hN hP hW
  cases hok : okI N P W ex no th with
  | false =>
    simp only [c25, heap0, go_sem, Int.cast_ofNat_Int, Int.reduceToNat, Nat.reduceAdd, Nat.reduceBEq, Nat.reduceLeDiff, Nat.reduceLT, Nat.reduceMul, Nat.reduceSub, Int.reduceEq, Int.reduceLT, Int.reduceLE, Int.reduceNeg, h23, hok, AtV, AtE]
  | true =>
    cases hin : inI N x y with
    | false =>
      simp only [c25, heap0, go_sem, Int.cast_ofNat_Int, Int.reduceToNat, Nat.reduceAdd, Nat.reduceBEq, Nat.reduceLeDiff, Nat.reduceLT, Nat.reduceMul, Nat.reduceSub, Int.reduceEq, Int.reduceLT, Int.reduceLE, Int.reduceNeg, h23, hok, AtV, AtE]
      repeat' (with_reducible refine fork_split (fun _ => ?_) (fun _ => ?_) <;> simp only [*, go_sem, Int.cast_ofNat_Int, Int.reduceToNat, Nat.reduceAdd, Nat.reduceBEq, Nat.reduceLeDiff, Nat.reduceLT, Nat.reduceMul, Nat.reduceSub, Int.reduceEq, Int.reduceLT, Int.reduceLE, Int.reduceNeg])
      all_goals (exfalso; clear h23; rw [Bool.eq_false_iff, ne_eq, inI_iff] at hin; simp only [decide_eq_false_iff_not] at *; omega)
    | true =>
      have h55 := fun H => s55' n H N P W f1 f2 f3 ex no th x y hin (ok_len hok).1 hW
      rw [inI_iff] at hin
      have m1 : decide (min x y < 0) = false := by rw [decide_eq_false_iff_not]; omega
      have m2 : decide ((N.length : Int) ≤ max x y) = false := by rw [decide_eq_false_iff_not]; omega
      simp only [c25, heap0, go_sem, Int.cast_ofNat_Int, Int.reduceToNat, Nat.reduceAdd, Nat.reduceBEq, Nat.reduceLeDiff, Nat.reduceLT, Nat.reduceMul, Nat.reduceSub, Int.reduceEq, Int.reduceLT, Int.reduceLE, Int.reduceNeg, h23, hok, m1, m2, h55, AtV, AtE]
theorem s26 (n : Nat) (H : Heap) (N : List (Int × Int)) (P : List Int) (W f1 f2 f3 ex no th) (x y : Int) (hN : N.length ≤ maxLen) (hW : W.length ≤ maxLen) :
    call1 T (n + 7) (.fn 26) [st N P W f1 f2 f3 ex no th, .int .i64 x, .int .i64 y] H = some (.tup [.int .i64 (AtV (btw (atR W ex) N P x y) (okI N P W ex no th) (inI N x y)), .int .i64 (AtE (okI N P W ex no th) (inI N x y) 7)], H) := by
  refine call_pure e26 (by rfl) ?_
  have h29 := fun H => s29 n H N P W f1 f2 f3 ex no th hW hN
  cases hok : okI N P W ex no th with
  | false =>
    simp only [c26, heap0, go_sem, Int.cast_ofNat_Int, Int.reduceToNat, Nat.reduceAdd, Nat.reduceBEq, Nat.reduceLeDiff, Nat.reduceLT, Nat.reduceMul, Nat.reduceSub, Int.reduceEq, Int.reduceLT, Int.reduceLE, Int.reduceNeg, h29, hok, AtV, AtE]
  | true =>
    cases hin : inI N x y with
    | false =>
      simp only [c26, heap0, go_sem, Int.cast_ofNat_Int, Int.reduceToNat, Nat.reduceAdd, Nat.reduceBEq, Nat.reduceLeDiff, Nat.reduceLT, Nat.reduceMul, Nat.reduceSub, Int.reduceEq, Int.reduceLT, Int.reduceLE, Int.reduceNeg, h29, hok, AtV, AtE]
      repeat' (with_reducible refine fork_split (fun _ => ?_) (fun _ => ?_) <;> simp only [*, go_sem, Int.cast_ofNat_Int, Int.reduceToNat, Nat.reduceAdd, Nat.reduceBEq, Nat.reduceLeDiff, Nat.reduceLT, Nat.reduceMul, Nat.reduceSub, Int.reduceEq, Int.reduceLT, Int.reduceLE, Int.reduceNeg])
      all_goals (exfalso; clear h29; rw [Bool.eq_false_iff, ne_eq, inI_iff] at hin; simp only [decide_eq_false_iff_not] at *; omega)
    | true =>
      rw [inI_iff] at hin
      obtain ⟨⟨h1, h2⟩, h3, h4⟩ := hin
      obtain ⟨x', rfl⟩ := Int.eq_ofNat_of_zero_le h1
      obtain ⟨y', rfl⟩ := Int.eq_ofNat_of_zero_le h3
      have hl := (ok_len hok).1
      have hx : x' < N.length := by omega
      have hy : y' < N.length := by omega
      have hx' : x' < P.length := by omega
      have n1 : decide ((x' : Int) < 0) = false := by rw [decide_eq_false_iff_not]; omega
      have n2 : decide ((y' : Int) < 0) = false := by rw [decide_eq_false_iff_not]; omega
      have n3 : decide ((N.length : Int) ≤ x') = false := by rw [decide_eq_false_iff_not]; omega
      have n4 : decide ((N.length : Int) ≤ y') = false := by rw [decide_eq_false_iff_not]; omega
      obtain ⟨p, hp⟩ := get_some hx
      obtain ⟨q, hq⟩ := get_some hy
      obtain ⟨r, hr⟩ := get_some hx'
      have h54 := fun H => s54 (n + 3) H N P W f1 f2 f3 ex no th p.1 p.2 r q.1 q.2 hW
      simp only [c26, heap0, go_sem, Int.cast_ofNat_Int, Int.reduceToNat, Nat.reduceAdd, Nat.reduceBEq, Nat.reduceLeDiff, Nat.reduceLT, Nat.reduceMul, Nat.reduceSub, Int.reduceEq, Int.reduceLT, Int.reduceLE, Int.reduceNeg, h29, hok, n1, n2, n3, n4, AtV, AtE]
      repeat' (with_reducible refine fork_split (fun _ => ?_) (fun _ => ?_) <;> simp only [*, go_sem, Int.cast_ofNat_Int, Int.reduceToNat, Nat.reduceAdd, Nat.reduceBEq, Nat.reduceLeDiff, Nat.reduceLT, Nat.reduceMul, Nat.reduceSub, Int.reduceEq, Int.reduceLT, Int.reduceLE, Int.reduceNeg, hx, hy, hx', hp, hq, hr, h54])
      all_goals (clear h54 h29; simp_all [btw, nd, List.getD_eq_getElem?_getD])
end Go.Sh
namespace Go.Sh
set_option linter.unusedSectionVars false
set_option linter.unnecessarySimpa false
set_option linter.unusedVariables false
set_option linter.unusedSimpArgs false
set_option maxRecDepth 100000
set_option maxHeartbeats 4000000
theorem pow_iff {p : Int} : powI p = true ↔ 0 ≤ p ∧ p ≤ 68719476736 := by simp only [powI, Bool.and_eq_true, decide_eq_true_eq]
theorem quo_le {p m : Int} (hp : powI p = true) (hm : 100 ≤ m) : powI (w64 ((w64 (p * 100)).tdiv m)) = true ∧ w64 ((w64 (p * 100)).tdiv m) = p * 100 / m := by
  rw [pow_iff] at hp
  have e1 : w64 (p * 100) = p * 100 := w64_id (by omega) (by omega)
  have e2 : (p * 100).tdiv m = p * 100 / m := Int.tdiv_eq_ediv_of_nonneg (by omega)
  have h0 : 0 ≤ p * 100 / m := Int.ediv_nonneg (by omega) (by omega)
  have h1 : p * 100 / m ≤ p := Int.ediv_le_of_le_mul (by omega) (Int.mul_le_mul_of_nonneg_left hm hp.1)
  have e3 : w64 (p * 100 / m) = p * 100 / m := w64_id (by omega) (by omega)
  rw [e1, e2, e3]
  exact ⟨pow_iff.2 (by omega), rfl⟩
theorem mI_ge (a b c d : Int) : 100 ≤ mI a b c d := Int.le_max_right _ _
theorem start_pow {ex a b p c d : Int} (hp : powI p = true) : powI (startI ex a b p c d) = true := by
  have h1 := (quo_le hp (mI_ge a b c d)).1
  have h2 := (quo_le h1 (mI_ge a b c d)).1
  simp only [startI]
  split
  · exact h2
  · exact h1
theorem scale_le {p f : Int} (hp : powI p = true) (h0 : 0 ≤ f) (h1 : f ≤ 1000) : w64 ((w64 (p * f)).tdiv 1000) = p * f / 1000 ∧ 0 ≤ p * f / 1000 ∧ p * f / 1000 ≤ p := by
  rw [pow_iff] at hp
  have k0 : 0 ≤ p * f := Int.mul_nonneg hp.1 h0
  have k1 : p * f ≤ p * 1000 := Int.mul_le_mul_of_nonneg_left h1 hp.1
  have e1 : w64 (p * f) = p * f := w64_id (by omega) (by omega)
  rw [e1, Int.tdiv_eq_ediv_of_nonneg k0]
  have e3 : w64 (p * f / 1000) = p * f / 1000 := w64_id (by omega) (by omega)
  rw [e3]
  omega
theorem badW_iff {w : Wl} : badW w = false ↔ pointI w.a w.b = true ∧ pointI w.c w.d = true ∧ 0 ≤ w.f ∧ w.f ≤ 1000 := by
  simp only [badW, Bool.or_eq_false_iff, Bool.not_eq_false', decide_eq_false_iff_not, and_assoc, Int.not_lt]
theorem point_near {a b : Int} (h : pointI a b = true) : Near a ∧ Near b := by
  simp only [pointI, Bool.and_eq_true, decide_eq_true_eq] at h
  unfold Near
  omega
theorem step_eq {a b c d p : Int} {w : Wl} (h1 : pointI a b = true) (h2 : pointI c d = true) (hp : powI p = true) (hw : badW w = false) : stepI a b c d p w = stepR a b c d p w ∧ powI (stepR a b c d p w) = true ∧ stepR a b c d p w ≤ p := by
  obtain ⟨k1, k2, k3, k4⟩ := badW_iff.1 hw
  have hc := cross_eq (point_near h1).1 (point_near h1).2 (point_near h2).1 (point_near h2).2 (point_near k1).1 (point_near k1).2 (point_near k2).1 (point_near k2).2
  have hs := scale_le hp k3 k4
  have hok : scOk p w.f = true := by simp only [scOk, hp, Bool.true_and, Bool.and_eq_true, decide_eq_true_eq]; exact ⟨k3, k4⟩
  unfold stepI stepR
  rw [hc]
  split
  · simp only [scV, hok, if_true]
    rw [hs.1]
    rw [pow_iff] at hp ⊢
    exact ⟨trivial, by omega, by omega⟩
  · exact ⟨rfl, hp, Int.le_refl _⟩
theorem fold_eq {a b c d : Int} (h1 : pointI a b = true) (h2 : pointI c d = true) : ∀ (W : List Wl) (p : Int), powI p = true → W.any badW = false → W.foldl (stepI a b c d) p = W.foldl (stepR a b c d) p ∧ powI (W.foldl (stepR a b c d) p) = true ∧ W.foldl (stepR a b c d) p ≤ p
  | [], p, hp, _ => ⟨rfl, hp, Int.le_refl _⟩
  | w :: W, p, hp, hW => by
    simp only [List.any_cons, Bool.or_eq_false_iff] at hW
    obtain ⟨e1, e2, e3⟩ := step_eq h1 h2 hp hW.1
    obtain ⟨f1, f2, f3⟩ := fold_eq h1 h2 W _ e2 hW.2
    simp only [List.foldl_cons, e1]
    exact ⟨f1, f2, by omega⟩
theorem ok_walls {N : List (Int × Int)} {P : List Int} {W : List Wl} {ex no th : Int} (h : okI N P W ex no th = true) : W.any badW = false ∧ (∀ p ∈ N, pointI p.1 p.2 = true) ∧ (∀ p ∈ P, powI p = true) := by
  simp only [okI, okB, Bool.and_eq_true, Bool.not_eq_true'] at h
  obtain ⟨⟨⟨⟨⟨⟨⟨⟨_, _⟩, h1⟩, _⟩, h2⟩, _⟩, h3⟩, _⟩, _⟩ := h
  refine ⟨h3, fun p hp => ?_, fun p hp => ?_⟩
  · have := List.any_eq_false.1 h1 p hp; simpa using this
  · have := List.any_eq_false.1 h2 p hp; simpa using this
theorem at_eq {N : List (Int × Int)} {P : List Int} {W : List Wl} {ex no th a b p c d : Int} (h : okI N P W ex no th = true) (ha : argI a b p c d = true) : atI W ex a b p c d = atR W ex a b p c d ∧ powI (atR W ex a b p c d) = true := by
  simp only [argI, Bool.and_eq_true] at ha
  obtain ⟨⟨h1, h2⟩, h3⟩ := ha
  have := fold_eq h1 h2 W _ (start_pow (ex := ex) (a := a) (b := b) (c := c) (d := d) h3) (ok_walls h).1
  exact ⟨this.1, this.2.1⟩
theorem AtV_eq (N : List (Int × Int)) (P : List Int) (W : List Wl) (ex no th a b p c d : Int) : AtV (atI W ex a b p c d) (okI N P W ex no th) (argI a b p c d) = AtV (atR W ex a b p c d) (okI N P W ex no th) (argI a b p c d) := by
  cases h : okI N P W ex no th with
  | false => rfl
  | true =>
    cases h' : argI a b p c d with
    | false => rfl
    | true => simp only [AtV, Bool.true_and, cond_true, (at_eq h h').1]
theorem btw_eq {N : List (Int × Int)} {P : List Int} {W : List Wl} {ex no th x y : Int} (h : okI N P W ex no th = true) (hin : inI N x y = true) : btw (atI W ex) N P x y = btw (atR W ex) N P x y ∧ powI (btw (atR W ex) N P x y) = true := by
  have hl := (ok_len h).1
  have hw := ok_walls h
  rw [inI_iff] at hin
  obtain ⟨p, hp⟩ := get_some (l := N) (i := x.toNat) (by omega)
  obtain ⟨q, hq⟩ := get_some (l := N) (i := y.toNat) (by omega)
  obtain ⟨r, hr⟩ := get_some (l := P) (i := x.toNat) (by omega)
  have harg : argI p.1 p.2 r q.1 q.2 = true := by
    simp only [argI, Bool.and_eq_true]
    exact ⟨⟨hw.2.1 _ (List.mem_of_getElem? hp), hw.2.1 _ (List.mem_of_getElem? hq)⟩, hw.2.2 _ (List.mem_of_getElem? hr)⟩
  have he := at_eq h harg
  simp only [btw, nd, List.getD_eq_getElem?_getD, hp, hq, hr, Option.getD_some]
  cases decide (x = y) with
  | true => exact ⟨rfl, rfl⟩
  | false => exact he
theorem BtV_eq (N : List (Int × Int)) (P : List Int) (W : List Wl) (ex no th x y : Int) : AtV (btw (atI W ex) N P x y) (okI N P W ex no th) (inI N x y) = AtV (btw (atR W ex) N P x y) (okI N P W ex no th) (inI N x y) := by
  cases h : okI N P W ex no th with
  | false => rfl
  | true =>
    cases h' : inI N x y with
    | false => rfl
    | true => simp only [AtV, Bool.true_and, cond_true, (btw_eq h h').1]
end Go.Sh
namespace Go.Sh
set_option linter.unusedSectionVars false
set_option linter.unnecessarySimpa false
set_option linter.unusedVariables false
set_option linter.unusedSimpArgs false
set_option maxRecDepth 100000
set_option maxHeartbeats 4000000
def rowT (at1 : Int → Int → Int → Int → Int → Int) (N : List (Int × Int)) (P : List Int) (a k : Nat) : List (List SV) := (List.range k).map fun (b : Nat) => [.int .i64 (btw at1 N P (a : Int) (b : Int))]
def tabT (at1 : Int → Int → Int → Int → Int → Int) (N : List (Int × Int)) (P : List Int) (k : Nat) : List (List SV) := (List.range k).map fun (a : Nat) => [.lst 1 (rowT at1 N P a N.length) false]
theorem rowT_len {at1 N P a k} : (rowT at1 N P a k).length = k := by simp [rowT]
theorem tabT_len {at1 N P k} : (tabT at1 N P k).length = k := by simp [tabT]
theorem rowT_succ (at1 N P a k) : rowT at1 N P a (k + 1) = rowT at1 N P a k ++ [[.int .i64 (btw at1 N P a k)]] := by simp [rowT, List.range_succ]
theorem tabT_succ (at1 N P k) : tabT at1 N P (k + 1) = tabT at1 N P k ++ [[.lst 1 (rowT at1 N P k N.length) false]] := by simp [tabT, List.range_succ]
theorem rowT_refs (at1 N P a k) : ∀ cs ∈ rowT at1 N P a k, ∀ c ∈ cs, c.refs = 0 := by
  intro cs hcs c hc
  simp only [rowT, List.mem_map] at hcs
  obtain ⟨b, _, rfl⟩ := hcs
  simp only [List.mem_singleton] at hc
  subst hc
  simp [SV.refs]
theorem tabT_refs (at1 N P k) : ∀ cs ∈ tabT at1 N P k, ∀ c ∈ cs, c.refs = 0 := by
  intro cs hcs c hc
  simp only [tabT, List.mem_map] at hcs
  obtain ⟨b, _, rfl⟩ := hcs
  simp only [List.mem_singleton] at hc
  subst hc
  simp [SV.refs]
theorem tabT_frz (at1 N P k M H d) : ∀ cs ∈ tabT at1 N P k, ∀ c ∈ cs, frz M H (d + 1) c = some c := by
  intro cs hcs c hc
  simp only [tabT, List.mem_map] at hcs
  obtain ⟨b, _, rfl⟩ := hcs
  simp only [List.mem_singleton] at hc
  subst hc
  simp only [frz]
theorem room {n : Nat} (h : n ≤ 32) : decide ((n + 1) * 8 ≤ mostLen) = true ∧ decide ((n + 1) * 24 ≤ mostLen) = true := by
  simp only [decide_eq_true_eq]
  exact ⟨Nat.le_trans (show (n + 1) * 8 ≤ 1000 by omega) (by decide), Nat.le_trans (show (n + 1) * 24 ≤ 1000 by omega) (by decide)⟩
theorem s27 (n : Nat) (H : Heap) (N : List (Int × Int)) (P : List Int) (W f1 f2 f3 ex no th) (hN : N.length ≤ maxLen) (hP : P.length ≤ maxLen) (hW : W.length ≤ maxLen) :
    call1 T (n + 10) (.fn 27) [st N P W f1 f2 f3 ex no th] H = some (bif okI N P W ex no th then .tup [.lst 1 (tabT (atI W ex) N P N.length) false, .int .i64 0] else .tup [.lst 0 [] true, .int .i64 1], H) := by
  refine call_pure e27 (by rfl) ?_
  have h23 := fun H => s23 (n + 3) H N P W f1 f2 f3 ex no th hN hP hW
  cases hok : okI N P W ex no th with
  | false => simp only [c27, heap0, go_sem, Int.cast_ofNat_Int, Int.reduceToNat, Nat.reduceAdd, Nat.reduceBEq, Nat.reduceLeDiff, Nat.reduceLT, Nat.reduceMul, Nat.reduceSub, Int.reduceEq, Int.reduceLT, Int.reduceLE, Int.reduceNeg, h23, hok, chk_no hok]
  | true =>
    have hl := ok_len hok
    simp only [c27, heap0, go_sem, Int.cast_ofNat_Int, Int.reduceToNat, Nat.reduceAdd, Nat.reduceBEq, Nat.reduceLeDiff, Nat.reduceLT, Nat.reduceMul, Nat.reduceSub, Int.reduceEq, Int.reduceLT, Int.reduceLE, Int.reduceNeg, h23, hok, chk_yes hok]
    refine loop_rule (fun i => ([(1, .ptr 0 0 0 0), (5, .slc 1 i 0 i), (16, .int .i64 N.length), (17, .int .i64 i)], ⟨[.box [.lst 2 (ptsS N) f1, .lst 1 (intsS P) f2, .lst 5 (wlsS W) f3, .int .i64 ex, .int .i64 no, .int .i64 th], .arr i 1 (tabT (atI W ex) N P i) false], [], 0⟩)) (fun _ => True) N.length ?_ trivial ?_
    · simp only [go_sem, Int.cast_ofNat_Int, Int.reduceToNat, Nat.reduceAdd, Nat.reduceBEq, Nat.reduceLeDiff, Nat.reduceLT, Nat.reduceMul, Nat.reduceSub, Int.reduceEq, Int.reduceLT, Int.reduceLE, Int.reduceNeg]
      rfl
    · intro i hi _
      rcases Nat.lt_or_ge i N.length with hlt | hge
      · have hs := w64_succ hlt hN
        simp only [go_sem, Int.cast_ofNat_Int, Int.reduceToNat, Nat.reduceAdd, Nat.reduceBEq, Nat.reduceLeDiff, Nat.reduceLT, Nat.reduceMul, Nat.reduceSub, Int.reduceEq, Int.reduceLT, Int.reduceLE, Int.reduceNeg, hlt]
        refine loop_post (fun j => ([(1, .ptr 0 0 0 0), (5, .slc 1 i 0 i), (6, .int .i64 i), (7, .slc 2 j 0 j), (16, .int .i64 N.length), (17, .int .i64 i), (22, .int .i64 N.length), (23, .int .i64 j)], ⟨[.box [.lst 2 (ptsS N) f1, .lst 1 (intsS P) f2, .lst 5 (wlsS W) f3, .int .i64 ex, .int .i64 no, .int .i64 th], .arr i 1 (tabT (atI W ex) N P i) false, .arr j 1 (rowT (atI W ex) N P i j) false], [], 0⟩)) (fun _ => True) N.length ?_ trivial ?_
        · simp only [go_sem, Int.cast_ofNat_Int, Int.reduceToNat, Nat.reduceAdd, Nat.reduceBEq, Nat.reduceLeDiff, Nat.reduceLT, Nat.reduceMul, Nat.reduceSub, Int.reduceEq, Int.reduceLT, Int.reduceLE, Int.reduceNeg]
          rfl
        · intro j hj _
          rcases Nat.lt_or_ge j N.length with hlt2 | hge2
          · have hs2 := w64_succ hlt2 hN
            have h55 := fun H => s55 n H N P W f1 f2 f3 ex no th i j hlt hlt2 hl.1 hW
            simp only [go_sem, Int.cast_ofNat_Int, Int.reduceToNat, Nat.reduceAdd, Nat.reduceBEq, Nat.reduceLeDiff, Nat.reduceLT, Nat.reduceMul, Nat.reduceSub, Int.reduceEq, Int.reduceLT, Int.reduceLE, Int.reduceNeg, hlt2, h55, apB_grow _ _ _ _ _ _ _ (rowT_len (at1 := atI W ex) (N := N) (P := P) (a := i) (k := j)), (room (n := j) (by omega)).1, hs2, ← rowT_succ]
            exact ⟨trivial, rfl, trivial⟩
          · have hlt2 : ¬ j < N.length := by omega
            have hj' : j = N.length := by omega
            subst hj'
            have hfr := fun H => fTB_whole H 2 N.length N.length 1 (rowT (atI W ex) N P i N.length) false rowT_len (refs_flat (rowT_refs _ _ _ _ _))
            simp only [go_sem, Int.cast_ofNat_Int, Int.reduceToNat, Nat.reduceAdd, Nat.reduceBEq, Nat.reduceLeDiff, Nat.reduceLT, Nat.reduceMul, Nat.reduceSub, Int.reduceEq, Int.reduceLT, Int.reduceLE, Int.reduceNeg, hlt2, hfr, apB_grow _ _ _ _ _ _ _ (tabT_len (at1 := atI W ex) (N := N) (P := P) (k := i)), (room (n := i) (by omega)).2, hs, ← tabT_succ]
            exact ⟨by first | trivial | exact hlt, rfl, trivial⟩
      · have hlt : ¬ i < N.length := by omega
        have hi' : i = N.length := by omega
        subst hi'
        have hfz := fun H v => fzB_whole 0 H 6 v N.length 1 (tabT (atI W ex) N P N.length) false tabT_len (tabT_frz _ _ _ _ _ _ _) (tabT_refs _ _ _ _)
        simp only [go_sem, Int.cast_ofNat_Int, Int.reduceToNat, Nat.reduceAdd, Nat.reduceBEq, Nat.reduceLeDiff, Nat.reduceLT, Nat.reduceMul, Nat.reduceSub, Int.reduceEq, Int.reduceLT, Int.reduceLE, Int.reduceNeg, hlt, hfz]
end Go.Sh
