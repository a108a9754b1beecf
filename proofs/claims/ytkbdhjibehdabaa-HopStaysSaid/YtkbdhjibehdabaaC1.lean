/-
  THE CODE OF THE FUNCTIONS THAT ARE REACHED, AS THE SHADOW MACHINE READS IT (written by a program of this work, checked by the kernel).
-/
import Derived.Test.YtkbdhjibehdabaaProg
import Derived.KernelRfl
import Derived.Test.YtkbdhjibehdabaaB3
namespace Go.Sh
def pol : Pol := { keep := fun _ => none, lit := fun _ _ => true, frz := (fun _ _ => []), vrt := (fun f r => match f, r with | 15, 2 => [(2, 1)] | 49, 2 => [(2, 4)] | _, _ => []), keepAt := (fun f r => match f, r with | 14, 75 => some 1 | 12, 42 => some 2 | 30, 6 => some 1 | _, _ => none), viewAt := (fun f r => match f, r with | 16, 82 => true | 16, 114 => true | 7, 53 => true | 3, 46 => true | 18, 25 => true | _, _ => false), loop := (fun f r => match f, r with
  | 3, 7 => ⟨[1, 2, 3, 7, 29, 30], [(7, 1)]⟩
  | 4, 10 => ⟨[1, 3, 5, 6, 39, 40, 41], []⟩
  | 7, 10 => ⟨[1, 2, 7, 37, 38], [(7, 1)]⟩
  | 14, 15 => ⟨[0, 2, 8, 9, 49, 50, 51], []⟩
  | 14, 8 => ⟨[0, 1, 2, 8, 9, 34, 35, 36], []⟩
  | 16, 25 => ⟨[0, 1, 10, 13, 14], [(13, 1)]⟩
  | 16, 18 => ⟨[0, 1, 2, 9, 10, 12], [(10, 1)]⟩
  | 16, 13 => ⟨[0, 1, 2, 9, 10, 11], []⟩
  | 16, 4 => ⟨[0, 1, 2, 8], []⟩
  | 19, 4 => ⟨[0, 1, 12, 13], []⟩
  | 20, 4 => ⟨[2, 3, 5], []⟩
  | 27, 4 => ⟨[0, 13, 14, 15], []⟩
  | 30, 3 => ⟨[3, 8, 9], []⟩
  | 31, 5 => ⟨[0, 1, 4, 7], []⟩
  | 32, 4 => ⟨[0, 3], []⟩
  | 36, 2 => ⟨[0, 1, 7, 8], []⟩
  | 37, 2 => ⟨[0, 5, 6, 7], []⟩
  | 41, 5 => ⟨[0, 1, 5, 6], []⟩
  | 43, 2 => ⟨[0, 3], []⟩
  | 45, 2 => ⟨[0, 1, 5], []⟩
  | 47, 2 => ⟨[0, 1, 7, 8], []⟩
  | 50, 1 => ⟨[0, 1, 2, 6, 7], []⟩
  | 51, 2 => ⟨[0, 1, 7, 8], []⟩
  | _, _ => ⟨[], []⟩) }
noncomputable def T : FuncId → Option Fun1 := cfun Go.Proofs.Try.prog pol
set_option maxRecDepth 100000
/- 3: hopmesh/hopmeshlaw11.HopVisits -/
def c3 : Fun1 := ⟨[(.tmp 6)], (.seq (.ops [⟨(some 3), (.box (.t 0)), none⟩, ⟨(some 6), (.mov (.c (.bool false))), none⟩]) (.seq (.seq (.ops [⟨(some 13), (.call (.c (.fn 11 [])) []), none⟩, ⟨(some 14), (.notB (.t 13)), none⟩]) (.cond (.t 14) (.seq (.ops [⟨(some 6), (.mov (.c (.bool false))), none⟩]) .ret) .skip)) (.seq (.seq (.ops [⟨(some 15), (.faddr 3 (.t 3)), none⟩, ⟨(some 16), (.load false 1 (.t 15)), none⟩, ⟨(some 17), (.len (.t 16)), none⟩, ⟨(some 18), (.bin .gtr (.t 17) (.c (.int .i64 20))), none⟩, ⟨(some 19), (.mov (.t 18)), none⟩, ⟨(some 20), (.mov (.t 1)), (some (19, false))⟩, ⟨(some 21), (.bin .lss (.t 20) (.c (.int .i64 0))), (some (19, false))⟩, ⟨(some 22), (.pick (.t 19) (.c (.bool true)) (.t 21)), none⟩, ⟨(some 23), (.mov (.t 22)), none⟩, ⟨(some 24), (.mov (.t 1)), (some (23, false))⟩, ⟨(some 25), (.bin .gtr (.t 24) (.c (.int .i64 1099511627776))), (some (23, false))⟩, ⟨(some 26), (.pick (.t 23) (.c (.bool true)) (.t 25)), none⟩]) (.cond (.t 26) (.seq (.ops [⟨(some 6), (.mov (.c (.bool true))), none⟩]) .ret) .skip)) (.seq (.ops [⟨(some 7), (.mov (.c (.lst 0 [] true))), none⟩]) (.seq (.seq (.ops [⟨(some 27), (.faddr 3 (.t 3)), none⟩, ⟨(some 28), (.load false 1 (.t 27)), none⟩, ⟨(some 29), (.len (.t 28)), none⟩, ⟨(some 30), (.mov (.c (.int .i64 0))), none⟩]) (.block 0 (.loop ⟨[1, 2, 3, 7, 29, 30], [(7, 1)]⟩ (.seq (.ops [⟨(some 31), (.bin .lss (.t 30) (.t 29)), none⟩]) (.seq (.cond (.t 31) .skip (.exit 0)) (.seq (.block 1 (.seq (.ops [⟨(some 32), (.mov (.t 30)), none⟩, ⟨(some 8), (.mov (.t 32)), none⟩]) (.seq (.ops [⟨(some 34), (.load true 4 (.t 3)), none⟩, ⟨(some 35), (.mov (.t 1)), none⟩, ⟨(some 36), (.mov (.t 8)), none⟩, ⟨(some 37), (.bin .add (.t 35) (.t 36)), none⟩, ⟨(some 38), (.mov (.t 2)), none⟩, ⟨(some 39), (.call (.c (.fn 12 [])) [(.t 34), (.t 37), (.t 38)]), none⟩, ⟨(some 33), (.mov (.t 39)), none⟩, ⟨(some 40), (.extract (.t 33) 0), none⟩, ⟨(some 41), (.extract (.t 33) 1), none⟩, ⟨(some 9), (.mov (.t 40)), none⟩, ⟨(some 10), (.mov (.t 41)), none⟩]) (.seq (.seq (.ops [⟨(some 42), (.mov (.t 10)), none⟩, ⟨(some 43), (.bin .neq (.t 42) (.c (.int .i64 0))), none⟩]) (.cond (.t 43) (.seq (.ops [⟨(some 6), (.mov (.c (.bool true))), none⟩]) .ret) .skip)) (.seq (.seq (.ops [⟨(some 44), (.mov (.t 7)), none⟩, ⟨(some 45), (.mov (.t 9)), none⟩, ⟨(some 46), (.callV 13 [(.t 44), (.t 45)]), none⟩]) (.cond (.t 46) (.seq (.ops [⟨(some 6), (.mov (.c (.bool false))), none⟩]) .ret) .skip)) (.ops [⟨(some 47), (.mov (.t 7)), none⟩, ⟨(some 48), (.mov (.t 9)), none⟩, ⟨(some 49), (.blist 1 [(.int .i64 0)] 1 [(0, (.t 48))]), none⟩, ⟨(some 50), (.append 1 8 (.t 47) (.t 49)), none⟩, ⟨(some 7), (.mov (.t 50)), none⟩])))))) (.ops [⟨(some 51), (.bin .add (.t 30) (.c (.int .i64 1))), none⟩, ⟨(some 30), (.mov (.t 51)), none⟩]))))))) (.seq (.ops [⟨(some 53), (.load true 4 (.t 3)), none⟩, ⟨(some 54), (.mov (.t 1)), none⟩, ⟨(some 55), (.faddr 3 (.t 3)), none⟩, ⟨(some 56), (.load false 1 (.t 55)), none⟩, ⟨(some 57), (.len (.t 56)), none⟩, ⟨(some 58), (.bin .add (.t 54) (.t 57)), none⟩, ⟨(some 59), (.mov (.t 2)), none⟩, ⟨(some 60), (.call (.c (.fn 12 [])) [(.t 53), (.t 58), (.t 59)]), none⟩, ⟨(some 52), (.mov (.t 60)), none⟩, ⟨(some 61), (.extract (.t 52) 0), none⟩, ⟨(some 62), (.extract (.t 52) 1), none⟩, ⟨(some 11), (.mov (.t 61)), none⟩, ⟨(some 12), (.mov (.t 62)), none⟩]) (.seq (.ops [⟨(some 63), (.mov (.t 7)), none⟩, ⟨(some 64), (.len (.t 63)), none⟩, ⟨(some 65), (.bin .eql (.t 64) (.c (.int .i64 0))), none⟩, ⟨(some 66), (.mov (.t 65)), none⟩, ⟨(some 67), (.mov (.t 12)), (some (66, false))⟩, ⟨(some 68), (.bin .neq (.t 67) (.c (.int .i64 0))), (some (66, false))⟩, ⟨(some 69), (.pick (.t 66) (.c (.bool true)) (.t 68)), none⟩, ⟨(some 70), (.mov (.t 69)), none⟩, ⟨(some 71), (.mov (.t 11)), (some (70, false))⟩, ⟨(some 72), (.mov (.t 7)), (some (70, false))⟩, ⟨(some 73), (.iaddrS 1 (.t 72) (.c (.int .i64 0))), (some (70, false))⟩, ⟨(some 74), (.load false 1 (.t 73)), (some (70, false))⟩, ⟨(some 75), (.bin .eql (.t 71) (.t 74)), (some (70, false))⟩, ⟨(some 76), (.pick (.t 70) (.c (.bool true)) (.t 75)), none⟩, ⟨(some 6), (.mov (.t 76)), none⟩]) .ret))))))), false⟩
theorem e3 : T 3 = some c3 := by kernel_rfl
/- 4: hopmesh/hopmeshlaw11.HopStays -/
def c4 : Fun1 := ⟨[(.tmp 2)], (.seq (.ops [⟨(some 1), (.box (.t 0)), none⟩, ⟨(some 2), (.mov (.c (.bool false))), none⟩]) (.seq (.seq (.ops [⟨(some 9), (.call (.c (.fn 11 [])) []), none⟩, ⟨(some 10), (.notB (.t 9)), none⟩]) (.cond (.t 10) (.seq (.ops [⟨(some 2), (.mov (.c (.bool false))), none⟩]) .ret) .skip)) (.seq (.seq (.ops [⟨(some 11), (.faddr 0 (.t 1)), none⟩, ⟨(some 12), (.load false 1 (.t 11)), none⟩, ⟨(some 13), (.len (.t 12)), none⟩, ⟨(some 14), (.bin .gtr (.t 13) (.c (.int .i64 20))), none⟩, ⟨(some 15), (.mov (.t 14)), none⟩, ⟨(some 16), (.faddr 1 (.t 1)), (some (15, false))⟩, ⟨(some 17), (.load false 1 (.t 16)), (some (15, false))⟩, ⟨(some 18), (.len (.t 17)), (some (15, false))⟩, ⟨(some 19), (.bin .gtr (.t 18) (.c (.int .i64 64))), (some (15, false))⟩, ⟨(some 20), (.pick (.t 15) (.c (.bool true)) (.t 19)), none⟩]) (.cond (.t 20) (.seq (.ops [⟨(some 2), (.mov (.c (.bool true))), none⟩]) .ret) .skip)) (.seq (.drawn [(⟨(some 22), (.faddr 0 (.t 1)), none⟩, ⟨.seg, [], 0, 0⟩), (⟨(some 23), (.load false 1 (.t 22)), none⟩, ⟨.seg, [], 0, 0⟩), (⟨(some 24), (.call (.c (.fn 15 [])) [(.t 23)]), none⟩, ⟨.seg, [], 0, 0⟩), (⟨(some 25), (.faddr 1 (.t 1)), none⟩, ⟨.seg, [], 0, 0⟩), (⟨(some 26), (.load false 1 (.t 25)), none⟩, ⟨.seg, [], 0, 0⟩), (⟨(some 27), (.call (.c (.fn 15 [])) [(.t 26)]), none⟩, ⟨.seg, [], 0, 0⟩), (⟨(some 28), (.faddr 2 (.t 1)), none⟩, ⟨.seg, [], 0, 0⟩), (⟨(some 29), (.load false 1 (.t 28)), none⟩, ⟨.seg, [], 0, 0⟩), (⟨(some 30), (.call (.c (.fn 14 [])) [(.t 24), (.t 27), (.t 29)]), none⟩, ⟨.bar, [], 0, 0⟩), (⟨(some 21), (.mov (.t 30)), none⟩, ⟨.pure, [], 0, 0⟩), (⟨(some 31), (.extract (.t 21) 0), none⟩, ⟨.pure, [], 0, 0⟩), (⟨(some 32), (.extract (.t 21) 1), none⟩, ⟨.pure, [], 0, 0⟩), (⟨(some 3), (.mov (.t 31)), none⟩, ⟨.pure, [], 0, 0⟩), (⟨(some 4), (.mov (.t 32)), none⟩, ⟨.pure, [], 0, 0⟩)]) (.seq (.seq (.ops [⟨(some 33), (.mov (.t 4)), none⟩, ⟨(some 34), (.bin .neq (.t 33) (.c (.int .i64 0))), none⟩]) (.cond (.t 34) (.seq (.ops [⟨(some 35), (.mov (.t 3)), none⟩, ⟨(some 36), (.len (.t 35)), none⟩, ⟨(some 37), (.bin .eql (.t 36) (.c (.int .i64 0))), none⟩, ⟨(some 2), (.mov (.t 37)), none⟩]) .ret) .skip)) (.seq (.ops [⟨(some 5), (.mov (.c (.int .i64 0))), none⟩, ⟨(some 6), (.mov (.c (.int .i64 0))), none⟩]) (.seq (.seq (.ops [⟨(some 38), (.faddr 0 (.t 1)), none⟩, ⟨(some 39), (.load false 1 (.t 38)), none⟩, ⟨(some 40), (.len (.t 39)), none⟩, ⟨(some 41), (.mov (.c (.int .i64 0))), none⟩]) (.block 0 (.loop ⟨[1, 3, 5, 6, 39, 40, 41], []⟩ (.seq (.ops [⟨(some 42), (.bin .lss (.t 41) (.t 40)), none⟩]) (.seq (.cond (.t 42) .skip (.exit 0)) (.seq (.block 1 (.seq (.ops [⟨(some 43), (.iaddrS 1 (.t 39) (.t 41)), none⟩, ⟨(some 44), (.load false 1 (.t 43)), none⟩, ⟨(some 8), (.mov (.t 44)), none⟩]) (.seq (.seq (.ops [⟨(some 45), (.faddr 1 (.t 1)), none⟩, ⟨(some 46), (.load false 1 (.t 45)), none⟩, ⟨(some 47), (.mov (.t 8)), none⟩, ⟨(some 48), (.call (.c (.fn 13 [])) [(.t 46), (.t 47)]), none⟩, ⟨(some 49), (.notB (.t 48)), none⟩]) (.cond (.t 49) (.ops [⟨(some 50), (.mov (.t 6)), none⟩, ⟨(some 51), (.bin .add (.t 50) (.c (.int .i64 1))), none⟩, ⟨(some 6), (.mov (.t 51)), none⟩]) .skip)) (.seq (.ops [⟨(some 52), (.mov (.t 5)), none⟩, ⟨(some 53), (.mov (.t 3)), none⟩, ⟨(some 54), (.len (.t 53)), none⟩, ⟨(some 55), (.bin .lss (.t 52) (.t 54)), none⟩, ⟨(some 56), (.mov (.t 55)), none⟩, ⟨(some 57), (.mov (.t 3)), (some (56, true))⟩, ⟨(some 58), (.mov (.t 5)), (some (56, true))⟩, ⟨(some 59), (.iaddrS 1 (.t 57) (.t 58)), (some (56, true))⟩, ⟨(some 60), (.load false 1 (.t 59)), (some (56, true))⟩, ⟨(some 61), (.mov (.t 8)), (some (56, true))⟩, ⟨(some 62), (.bin .eql (.t 60) (.t 61)), (some (56, true))⟩, ⟨(some 63), (.pick (.t 56) (.t 62) (.c (.bool false))), none⟩]) (.cond (.t 63) (.ops [⟨(some 64), (.mov (.t 5)), none⟩, ⟨(some 65), (.bin .add (.t 64) (.c (.int .i64 1))), none⟩, ⟨(some 5), (.mov (.t 65)), none⟩]) (.seq (.ops [⟨(some 66), (.faddr 1 (.t 1)), none⟩, ⟨(some 67), (.load false 1 (.t 66)), none⟩, ⟨(some 68), (.mov (.t 8)), none⟩, ⟨(some 69), (.call (.c (.fn 13 [])) [(.t 67), (.t 68)]), none⟩, ⟨(some 70), (.notB (.t 69)), none⟩]) (.cond (.t 70) (.seq (.ops [⟨(some 2), (.mov (.c (.bool false))), none⟩]) .ret) .skip))))))) (.ops [⟨(some 71), (.bin .add (.t 41) (.c (.int .i64 1))), none⟩, ⟨(some 41), (.mov (.t 71)), none⟩]))))))) (.seq (.ops [⟨(some 72), (.mov (.t 5)), none⟩, ⟨(some 73), (.mov (.t 3)), none⟩, ⟨(some 74), (.len (.t 73)), none⟩, ⟨(some 75), (.bin .eql (.t 72) (.t 74)), none⟩, ⟨(some 76), (.mov (.t 75)), none⟩, ⟨(some 77), (.mov (.t 3)), (some (76, true))⟩, ⟨(some 78), (.len (.t 77)), (some (76, true))⟩, ⟨(some 79), (.mov (.t 6)), (some (76, true))⟩, ⟨(some 80), (.faddr 2 (.t 1)), (some (76, true))⟩, ⟨(some 81), (.load false 1 (.t 80)), (some (76, true))⟩, ⟨(some 82), (.maxI [(.t 79), (.t 81)]), (some (76, true))⟩, ⟨(some 83), (.bin .eql (.t 78) (.t 82)), (some (76, true))⟩, ⟨(some 84), (.pick (.t 76) (.t 83) (.c (.bool false))), none⟩, ⟨(some 2), (.mov (.t 84)), none⟩]) .ret)))))))), false⟩
theorem e4 : T 4 = some c4 := by kernel_rfl
/- 5: hopmesh/hopmeshlaw11.HopLeaves -/
def c5 : Fun1 := ⟨[(.tmp 6)], (.seq (.ops [⟨(some 3), (.box (.t 0)), none⟩, ⟨(some 4), (.box (.t 1)), none⟩, ⟨(some 6), (.mov (.c (.bool false))), none⟩]) (.seq (.seq (.ops [⟨(some 15), (.call (.c (.fn 11 [])) []), none⟩, ⟨(some 16), (.notB (.t 15)), none⟩]) (.cond (.t 16) (.seq (.ops [⟨(some 6), (.mov (.c (.bool false))), none⟩]) .ret) .skip)) (.seq (.seq (.ops [⟨(some 17), (.faddr 3 (.t 3)), none⟩, ⟨(some 18), (.load false 1 (.t 17)), none⟩, ⟨(some 19), (.len (.t 18)), none⟩, ⟨(some 20), (.bin .gtr (.t 19) (.c (.int .i64 20))), none⟩, ⟨(some 21), (.mov (.t 20)), none⟩, ⟨(some 22), (.faddr 0 (.t 4)), (some (21, false))⟩, ⟨(some 23), (.load false 1 (.t 22)), (some (21, false))⟩, ⟨(some 24), (.len (.t 23)), (some (21, false))⟩, ⟨(some 25), (.bin .gtr (.t 24) (.c (.int .i64 20))), (some (21, false))⟩, ⟨(some 26), (.pick (.t 21) (.c (.bool true)) (.t 25)), none⟩, ⟨(some 27), (.mov (.t 26)), none⟩, ⟨(some 28), (.faddr 1 (.t 4)), (some (27, false))⟩, ⟨(some 29), (.load false 1 (.t 28)), (some (27, false))⟩, ⟨(some 30), (.len (.t 29)), (some (27, false))⟩, ⟨(some 31), (.bin .gtr (.t 30) (.c (.int .i64 70))), (some (27, false))⟩, ⟨(some 32), (.pick (.t 27) (.c (.bool true)) (.t 31)), none⟩]) (.cond (.t 32) (.seq (.ops [⟨(some 6), (.mov (.c (.bool true))), none⟩]) .ret) .skip)) (.seq (.drawn [(⟨(some 34), (.faddr 0 (.t 4)), none⟩, ⟨.seg, [], 0, 0⟩), (⟨(some 35), (.load false 1 (.t 34)), none⟩, ⟨.seg, [], 0, 0⟩), (⟨(some 36), (.call (.c (.fn 15 [])) [(.t 35)]), none⟩, ⟨.seg, [], 0, 0⟩), (⟨(some 37), (.faddr 1 (.t 4)), none⟩, ⟨.seg, [], 0, 0⟩), (⟨(some 38), (.load false 1 (.t 37)), none⟩, ⟨.seg, [], 0, 0⟩), (⟨(some 39), (.call (.c (.fn 15 [])) [(.t 38)]), none⟩, ⟨.seg, [], 0, 0⟩), (⟨(some 40), (.faddr 2 (.t 4)), none⟩, ⟨.seg, [], 0, 0⟩), (⟨(some 41), (.load false 1 (.t 40)), none⟩, ⟨.seg, [], 0, 0⟩), (⟨(some 42), (.call (.c (.fn 14 [])) [(.t 36), (.t 39), (.t 41)]), none⟩, ⟨.bar, [], 0, 0⟩), (⟨(some 33), (.mov (.t 42)), none⟩, ⟨.pure, [], 0, 0⟩), (⟨(some 43), (.extract (.t 33) 0), none⟩, ⟨.pure, [], 0, 0⟩), (⟨(some 44), (.extract (.t 33) 1), none⟩, ⟨.pure, [], 0, 0⟩), (⟨(some 7), (.mov (.t 43)), none⟩, ⟨.pure, [], 0, 0⟩), (⟨(some 8), (.mov (.t 44)), none⟩, ⟨.pure, [], 0, 0⟩)]) (.seq (.ops [⟨(some 46), (.faddr 0 (.t 4)), none⟩, ⟨(some 47), (.load false 1 (.t 46)), none⟩, ⟨(some 48), (.faddr 1 (.t 4)), none⟩, ⟨(some 49), (.load false 1 (.t 48)), none⟩, ⟨(some 50), (.faddr 2 (.t 4)), none⟩, ⟨(some 51), (.load false 1 (.t 50)), none⟩, ⟨(some 52), (.call (.c (.fn 16 [])) [(.t 47), (.t 49), (.t 51)]), none⟩, ⟨(some 45), (.mov (.t 52)), none⟩, ⟨(some 53), (.extract (.t 45) 0), none⟩, ⟨(some 54), (.extract (.t 45) 1), none⟩, ⟨(some 9), (.mov (.t 53)), none⟩, ⟨(some 10), (.mov (.t 54)), none⟩]) (.seq (.drawn [(⟨(some 56), (.load true 4 (.t 3)), none⟩, ⟨.seg, [], 0, 0⟩), (⟨(some 57), (.mov (.t 2)), none⟩, ⟨.pure, [], 0, 0⟩), (⟨(some 58), (.faddr 0 (.t 4)), none⟩, ⟨.seg, [], 0, 0⟩), (⟨(some 59), (.load false 1 (.t 58)), none⟩, ⟨.seg, [], 0, 0⟩), (⟨(some 60), (.call (.c (.fn 15 [])) [(.t 59)]), none⟩, ⟨.seg, [], 0, 0⟩), (⟨(some 61), (.call (.c (.fn 17 [])) [(.t 56), (.t 57), (.t 60)]), none⟩, ⟨.seg, [], 0, 0⟩), (⟨(some 55), (.mov (.t 61)), none⟩, ⟨.pure, [], 0, 0⟩), (⟨(some 62), (.extract (.t 55) 0), none⟩, ⟨.pure, [], 0, 0⟩), (⟨(some 63), (.extract (.t 55) 1), none⟩, ⟨.pure, [], 0, 0⟩), (⟨(some 11), (.alloc [(.int .i64 0), (.int .i64 0), (.int .i64 0), (.lst 0 [] true)]), none⟩, ⟨.seg, [], 1, 0⟩), (⟨none, (.store 4 (.t 11) (.t 62)), none⟩, ⟨.bar, [], 0, 1⟩), (⟨(some 12), (.mov (.t 63)), none⟩, ⟨.pure, [], 0, 0⟩)]) (.seq (.ops [⟨(some 65), (.load true 4 (.t 3)), none⟩, ⟨(some 66), (.mov (.t 2)), none⟩, ⟨(some 67), (.faddr 0 (.t 4)), none⟩, ⟨(some 68), (.load false 1 (.t 67)), none⟩, ⟨(some 69), (.call (.c (.fn 18 [])) [(.t 65), (.t 66), (.t 68)]), none⟩, ⟨(some 64), (.mov (.t 69)), none⟩, ⟨(some 70), (.extract (.t 64) 0), none⟩, ⟨(some 71), (.extract (.t 64) 1), none⟩, ⟨(some 13), (.alloc [(.int .i64 0), (.int .i64 0), (.int .i64 0), (.lst 0 [] true)]), none⟩, ⟨none, (.store 4 (.t 13) (.t 70)), none⟩, ⟨(some 14), (.mov (.t 71)), none⟩]) (.seq (.ops [⟨(some 72), (.mov (.t 8)), none⟩, ⟨(some 73), (.mov (.t 10)), none⟩, ⟨(some 74), (.bin .eql (.t 72) (.t 73)), none⟩, ⟨(some 75), (.mov (.t 74)), none⟩, ⟨(some 76), (.mov (.t 7)), (some (75, true))⟩, ⟨(some 77), (.mov (.t 9)), (some (75, true))⟩, ⟨(some 78), (.call (.c (.fn 19 [])) [(.t 76), (.t 77)]), (some (75, true))⟩, ⟨(some 79), (.pick (.t 75) (.t 78) (.c (.bool false))), none⟩, ⟨(some 80), (.mov (.t 79)), none⟩, ⟨(some 81), (.mov (.t 12)), (some (80, true))⟩, ⟨(some 82), (.mov (.t 14)), (some (80, true))⟩, ⟨(some 83), (.bin .eql (.t 81) (.t 82)), (some (80, true))⟩, ⟨(some 84), (.pick (.t 80) (.t 83) (.c (.bool false))), none⟩, ⟨(some 85), (.mov (.t 84)), none⟩, ⟨(some 86), (.load true 4 (.t 11)), (some (85, true))⟩, ⟨(some 87), (.load true 4 (.t 13)), (some (85, true))⟩, ⟨(some 88), (.call (.c (.fn 20 [])) [(.t 86), (.t 87)]), (some (85, true))⟩, ⟨(some 89), (.pick (.t 85) (.t 88) (.c (.bool false))), none⟩, ⟨(some 6), (.mov (.t 89)), none⟩]) .ret)))))))), false⟩
theorem e5 : T 5 = some c5 := by kernel_rfl
/- 6: hopmesh/hopmeshlaw11.HopChannels -/
def c6 : Fun1 := ⟨[(.tmp 4)], (.seq (.ops [⟨(some 2), (.box (.t 0)), none⟩, ⟨(some 3), (.box (.t 1)), none⟩, ⟨(some 4), (.mov (.c (.bool false))), none⟩]) (.seq (.seq (.ops [⟨(some 13), (.call (.c (.fn 11 [])) []), none⟩, ⟨(some 14), (.notB (.t 13)), none⟩]) (.cond (.t 14) (.seq (.ops [⟨(some 4), (.mov (.c (.bool false))), none⟩]) .ret) .skip)) (.seq (.seq (.ops [⟨(some 15), (.faddr 3 (.t 2)), none⟩, ⟨(some 16), (.load false 1 (.t 15)), none⟩, ⟨(some 17), (.len (.t 16)), none⟩, ⟨(some 18), (.bin .gtr (.t 17) (.c (.int .i64 20))), none⟩]) (.cond (.t 18) (.seq (.ops [⟨(some 4), (.mov (.c (.bool true))), none⟩]) .ret) .skip)) (.seq (.ops [⟨(some 20), (.load true 4 (.t 2)), none⟩, ⟨(some 21), (.iaddrA 3 1 (.t 3) (.c (.int .i64 0))), none⟩, ⟨(some 22), (.load false 1 (.t 21)), none⟩, ⟨(some 23), (.iaddrA 3 1 (.t 3) (.c (.int .i64 1))), none⟩, ⟨(some 24), (.load false 1 (.t 23)), none⟩, ⟨(some 25), (.call (.c (.fn 12 [])) [(.t 20), (.t 22), (.t 24)]), none⟩, ⟨(some 19), (.mov (.t 25)), none⟩, ⟨(some 26), (.extract (.t 19) 0), none⟩, ⟨(some 27), (.extract (.t 19) 1), none⟩, ⟨(some 5), (.mov (.t 26)), none⟩, ⟨(some 6), (.mov (.t 27)), none⟩]) (.seq (.ops [⟨(some 29), (.load true 4 (.t 2)), none⟩, ⟨(some 30), (.iaddrA 3 1 (.t 3) (.c (.int .i64 0))), none⟩, ⟨(some 31), (.load false 1 (.t 30)), none⟩, ⟨(some 32), (.iaddrA 3 1 (.t 3) (.c (.int .i64 1))), none⟩, ⟨(some 33), (.load false 1 (.t 32)), none⟩, ⟨(some 34), (.call (.c (.fn 21 [])) [(.t 29), (.t 31), (.t 33)]), none⟩, ⟨(some 28), (.mov (.t 34)), none⟩, ⟨(some 35), (.extract (.t 28) 0), none⟩, ⟨(some 36), (.extract (.t 28) 1), none⟩, ⟨(some 7), (.mov (.t 35)), none⟩, ⟨(some 8), (.mov (.t 36)), none⟩]) (.seq (.ops [⟨(some 38), (.load true 4 (.t 2)), none⟩, ⟨(some 39), (.iaddrA 3 1 (.t 3) (.c (.int .i64 0))), none⟩, ⟨(some 40), (.load false 1 (.t 39)), none⟩, ⟨(some 41), (.iaddrA 3 1 (.t 3) (.c (.int .i64 1))), none⟩, ⟨(some 42), (.load false 1 (.t 41)), none⟩, ⟨(some 43), (.iaddrA 3 1 (.t 3) (.c (.int .i64 2))), none⟩, ⟨(some 44), (.load false 1 (.t 43)), none⟩, ⟨(some 45), (.call (.c (.fn 22 [])) [(.t 38), (.t 40), (.t 42), (.t 44)]), none⟩, ⟨(some 37), (.mov (.t 45)), none⟩, ⟨(some 46), (.extract (.t 37) 0), none⟩, ⟨(some 47), (.extract (.t 37) 1), none⟩, ⟨(some 9), (.mov (.t 46)), none⟩, ⟨(some 10), (.mov (.t 47)), none⟩]) (.seq (.ops [⟨(some 49), (.load true 4 (.t 2)), none⟩, ⟨(some 50), (.iaddrA 3 1 (.t 3) (.c (.int .i64 0))), none⟩, ⟨(some 51), (.load false 1 (.t 50)), none⟩, ⟨(some 52), (.iaddrA 3 1 (.t 3) (.c (.int .i64 1))), none⟩, ⟨(some 53), (.load false 1 (.t 52)), none⟩, ⟨(some 54), (.iaddrA 3 1 (.t 3) (.c (.int .i64 2))), none⟩, ⟨(some 55), (.load false 1 (.t 54)), none⟩, ⟨(some 56), (.call (.c (.fn 23 [])) [(.t 49), (.t 51), (.t 53), (.t 55)]), none⟩, ⟨(some 48), (.mov (.t 56)), none⟩, ⟨(some 57), (.extract (.t 48) 0), none⟩, ⟨(some 58), (.extract (.t 48) 1), none⟩, ⟨(some 11), (.mov (.t 57)), none⟩, ⟨(some 12), (.mov (.t 58)), none⟩]) (.seq (.drawn [(⟨(some 59), (.load true 4 (.t 2)), none⟩, ⟨.seg, [], 0, 0⟩), (⟨(some 60), (.call (.c (.fn 24 [])) [(.t 59)]), none⟩, ⟨.seg, [], 0, 0⟩), (⟨(some 61), (.load true 4 (.t 2)), none⟩, ⟨.seg, [], 0, 0⟩), (⟨(some 62), (.call (.c (.fn 25 [])) [(.t 61)]), none⟩, ⟨.bar, [], 0, 0⟩), (⟨(some 63), (.bin .eql (.t 60) (.t 62)), none⟩, ⟨.pure, [], 0, 0⟩), (⟨(some 64), (.mov (.t 63)), none⟩, ⟨.pure, [], 0, 0⟩), (⟨(some 65), (.mov (.t 5)), (some (64, true))⟩, ⟨.pure, [], 0, 0⟩), (⟨(some 66), (.mov (.t 7)), (some (64, true))⟩, ⟨.pure, [], 0, 0⟩), (⟨(some 67), (.bin .eql (.t 65) (.t 66)), (some (64, true))⟩, ⟨.pure, [], 0, 0⟩), (⟨(some 68), (.pick (.t 64) (.t 67) (.c (.bool false))), none⟩, ⟨.pure, [], 0, 0⟩), (⟨(some 69), (.mov (.t 68)), none⟩, ⟨.pure, [], 0, 0⟩), (⟨(some 70), (.mov (.t 6)), (some (69, true))⟩, ⟨.pure, [], 0, 0⟩), (⟨(some 71), (.mov (.t 8)), (some (69, true))⟩, ⟨.pure, [], 0, 0⟩), (⟨(some 72), (.bin .eql (.t 70) (.t 71)), (some (69, true))⟩, ⟨.pure, [], 0, 0⟩), (⟨(some 73), (.pick (.t 69) (.t 72) (.c (.bool false))), none⟩, ⟨.pure, [], 0, 0⟩), (⟨(some 74), (.mov (.t 73)), none⟩, ⟨.pure, [], 0, 0⟩), (⟨(some 75), (.mov (.t 9)), (some (74, true))⟩, ⟨.pure, [], 0, 0⟩), (⟨(some 76), (.mov (.t 11)), (some (74, true))⟩, ⟨.pure, [], 0, 0⟩), (⟨(some 77), (.binB .eql (.t 75) (.t 76)), (some (74, true))⟩, ⟨.pure, [], 0, 0⟩), (⟨(some 78), (.pick (.t 74) (.t 77) (.c (.bool false))), none⟩, ⟨.pure, [], 0, 0⟩), (⟨(some 79), (.mov (.t 78)), none⟩, ⟨.pure, [], 0, 0⟩), (⟨(some 80), (.mov (.t 10)), (some (79, true))⟩, ⟨.pure, [], 0, 0⟩), (⟨(some 81), (.mov (.t 12)), (some (79, true))⟩, ⟨.pure, [], 0, 0⟩), (⟨(some 82), (.bin .eql (.t 80) (.t 81)), (some (79, true))⟩, ⟨.pure, [], 0, 0⟩), (⟨(some 83), (.pick (.t 79) (.t 82) (.c (.bool false))), none⟩, ⟨.pure, [], 0, 0⟩), (⟨(some 4), (.mov (.t 83)), none⟩, ⟨.pure, [], 0, 0⟩)]) .ret)))))))), false⟩
theorem e6 : T 6 = some c6 := by kernel_rfl
/- 7: hopmesh/hopmeshlaw11.HopDiffers -/
def c7 : Fun1 := ⟨[(.tmp 4)], (.seq (.ops [⟨(some 2), (.box (.t 0)), none⟩, ⟨(some 4), (.mov (.c (.bool false))), none⟩]) (.seq (.seq (.ops [⟨(some 15), (.call (.c (.fn 11 [])) []), none⟩, ⟨(some 16), (.notB (.t 15)), none⟩]) (.cond (.t 16) (.seq (.ops [⟨(some 4), (.mov (.c (.bool false))), none⟩]) .ret) .skip)) (.seq (.seq (.ops [⟨(some 17), (.faddr 3 (.t 2)), none⟩, ⟨(some 18), (.load false 1 (.t 17)), none⟩, ⟨(some 19), (.len (.t 18)), none⟩, ⟨(some 20), (.bin .gtr (.t 19) (.c (.int .i64 20))), none⟩]) (.cond (.t 20) (.seq (.ops [⟨(some 4), (.mov (.c (.bool true))), none⟩]) .ret) .skip)) (.seq (.seq (.ops [⟨(some 22), (.load true 4 (.t 2)), none⟩, ⟨(some 23), (.mov (.t 1)), none⟩, ⟨(some 24), (.call (.c (.fn 12 [])) [(.t 22), (.t 23), (.c (.int .i64 0))]), none⟩, ⟨(some 21), (.mov (.t 24)), none⟩, ⟨(some 25), (.extract (.t 21) 0), none⟩, ⟨(some 26), (.extract (.t 21) 1), none⟩, ⟨(some 5), (.mov (.t 25)), none⟩, ⟨(some 6), (.mov (.t 26)), none⟩]) (.seq (.ops [⟨(some 27), (.mov (.t 6)), none⟩, ⟨(some 28), (.bin .neq (.t 27) (.c (.int .i64 0))), none⟩]) (.cond (.t 28) (.seq (.ops [⟨(some 29), (.mov (.t 6)), none⟩, ⟨(some 30), (.bin .eql (.t 29) (.c (.int .i64 1))), none⟩, ⟨(some 31), (.mov (.t 30)), none⟩, ⟨(some 32), (.mov (.t 6)), (some (31, false))⟩, ⟨(some 33), (.bin .eql (.t 32) (.c (.int .i64 12))), (some (31, false))⟩, ⟨(some 34), (.pick (.t 31) (.c (.bool true)) (.t 33)), none⟩, ⟨(some 4), (.mov (.t 34)), none⟩]) .ret) .skip))) (.seq (.ops [⟨(some 7), (.mov (.c (.lst 0 [] true))), none⟩]) (.seq (.seq (.ops [⟨(some 35), (.faddr 3 (.t 2)), none⟩, ⟨(some 36), (.load false 1 (.t 35)), none⟩, ⟨(some 37), (.len (.t 36)), none⟩, ⟨(some 38), (.mov (.c (.int .i64 0))), none⟩]) (.block 0 (.loop ⟨[1, 2, 7, 37, 38], [(7, 1)]⟩ (.seq (.ops [⟨(some 39), (.bin .lss (.t 38) (.t 37)), none⟩]) (.seq (.cond (.t 39) .skip (.exit 0)) (.seq (.block 1 (.seq (.ops [⟨(some 40), (.mov (.t 38)), none⟩, ⟨(some 8), (.mov (.t 40)), none⟩]) (.seq (.ops [⟨(some 42), (.load true 4 (.t 2)), none⟩, ⟨(some 43), (.mov (.t 1)), none⟩, ⟨(some 44), (.mov (.t 8)), none⟩, ⟨(some 45), (.call (.c (.fn 12 [])) [(.t 42), (.t 43), (.t 44)]), none⟩, ⟨(some 41), (.mov (.t 45)), none⟩, ⟨(some 46), (.extract (.t 41) 0), none⟩, ⟨(some 47), (.extract (.t 41) 1), none⟩, ⟨(some 9), (.mov (.t 46)), none⟩, ⟨(some 10), (.mov (.t 47)), none⟩]) (.seq (.seq (.ops [⟨(some 48), (.mov (.t 10)), none⟩, ⟨(some 49), (.bin .neq (.t 48) (.c (.int .i64 0))), none⟩, ⟨(some 50), (.mov (.t 49)), none⟩, ⟨(some 51), (.mov (.t 7)), (some (50, false))⟩, ⟨(some 52), (.mov (.t 9)), (some (50, false))⟩, ⟨(some 53), (.callV 13 [(.t 51), (.t 52)]), (some (50, false))⟩, ⟨(some 54), (.pick (.t 50) (.c (.bool true)) (.t 53)), none⟩, ⟨(some 55), (.mov (.t 54)), none⟩, ⟨(some 56), (.faddr 3 (.t 2)), (some (55, false))⟩, ⟨(some 57), (.load false 1 (.t 56)), (some (55, false))⟩, ⟨(some 58), (.mov (.t 9)), (some (55, false))⟩, ⟨(some 59), (.call (.c (.fn 13 [])) [(.t 57), (.t 58)]), (some (55, false))⟩, ⟨(some 60), (.notB (.t 59)), (some (55, false))⟩, ⟨(some 61), (.pick (.t 55) (.c (.bool true)) (.t 60)), none⟩]) (.cond (.t 61) (.seq (.ops [⟨(some 4), (.mov (.c (.bool false))), none⟩]) .ret) .skip)) (.seq (.ops [⟨(some 62), (.mov (.t 7)), none⟩, ⟨(some 63), (.mov (.t 9)), none⟩, ⟨(some 64), (.blist 1 [(.int .i64 0)] 1 [(0, (.t 63))]), none⟩, ⟨(some 65), (.append 1 8 (.t 62) (.t 64)), none⟩, ⟨(some 7), (.mov (.t 65)), none⟩]) (.seq (.ops [⟨(some 67), (.load true 4 (.t 2)), none⟩, ⟨(some 68), (.mov (.t 1)), none⟩, ⟨(some 69), (.mov (.t 8)), none⟩, ⟨(some 70), (.call (.c (.fn 22 [])) [(.t 67), (.t 68), (.c (.int .i64 0)), (.t 69)]), none⟩, ⟨(some 66), (.mov (.t 70)), none⟩, ⟨(some 71), (.extract (.t 66) 0), none⟩, ⟨(some 72), (.extract (.t 66) 1), none⟩, ⟨(some 11), (.mov (.t 71)), none⟩, ⟨(some 12), (.mov (.t 72)), none⟩]) (.seq (.ops [⟨(some 73), (.mov (.t 12)), none⟩, ⟨(some 74), (.bin .neq (.t 73) (.c (.int .i64 0))), none⟩, ⟨(some 75), (.mov (.t 74)), none⟩, ⟨(some 76), (.mov (.t 11)), (some (75, false))⟩, ⟨(some 77), (.mov (.t 8)), (some (75, false))⟩, ⟨(some 78), (.bin .eql (.t 77) (.c (.int .i64 0))), (some (75, false))⟩, ⟨(some 79), (.binB .neq (.t 76) (.t 78)), (some (75, false))⟩, ⟨(some 80), (.pick (.t 75) (.c (.bool true)) (.t 79)), none⟩]) (.cond (.t 80) (.seq (.ops [⟨(some 4), (.mov (.c (.bool false))), none⟩]) .ret) .skip)))))))) (.ops [⟨(some 81), (.bin .add (.t 38) (.c (.int .i64 1))), none⟩, ⟨(some 38), (.mov (.t 81)), none⟩]))))))) (.seq (.ops [⟨(some 83), (.load true 4 (.t 2)), none⟩, ⟨(some 84), (.mov (.t 1)), none⟩, ⟨(some 85), (.faddr 3 (.t 2)), none⟩, ⟨(some 86), (.load false 1 (.t 85)), none⟩, ⟨(some 87), (.len (.t 86)), none⟩, ⟨(some 88), (.call (.c (.fn 12 [])) [(.t 83), (.t 84), (.t 87)]), none⟩, ⟨(some 82), (.mov (.t 88)), none⟩, ⟨(some 89), (.extract (.t 82) 0), none⟩, ⟨(some 90), (.extract (.t 82) 1), none⟩, ⟨(some 13), (.mov (.t 89)), none⟩, ⟨(some 14), (.mov (.t 90)), none⟩]) (.seq (.ops [⟨(some 91), (.mov (.t 14)), none⟩, ⟨(some 92), (.bin .eql (.t 91) (.c (.int .i64 2))), none⟩, ⟨(some 4), (.mov (.t 92)), none⟩]) .ret)))))))), false⟩
theorem e7 : T 7 = some c7 := by kernel_rfl
/- 8: hopmesh/hopmeshlaw11.HopNewer -/
def c8 : Fun1 := ⟨[(.tmp 6)], (.seq (.ops [⟨(some 3), (.box (.t 0)), none⟩, ⟨(some 5), (.box (.t 2)), none⟩, ⟨(some 6), (.mov (.c (.bool false))), none⟩]) (.seq (.seq (.ops [⟨(some 12), (.call (.c (.fn 11 [])) []), none⟩, ⟨(some 13), (.notB (.t 12)), none⟩]) (.cond (.t 13) (.seq (.ops [⟨(some 6), (.mov (.c (.bool false))), none⟩]) .ret) .skip)) (.seq (.seq (.ops [⟨(some 14), (.faddr 3 (.t 3)), none⟩, ⟨(some 15), (.load false 1 (.t 14)), none⟩, ⟨(some 16), (.len (.t 15)), none⟩, ⟨(some 17), (.bin .gtr (.t 16) (.c (.int .i64 20))), none⟩]) (.cond (.t 17) (.seq (.ops [⟨(some 6), (.mov (.c (.bool true))), none⟩]) .ret) .skip)) (.seq (.drawn [(⟨(some 18), (.iaddrA 2 1 (.t 5) (.c (.int .i64 0))), none⟩, ⟨.seg, [], 0, 0⟩), (⟨(some 19), (.load false 1 (.t 18)), none⟩, ⟨.seg, [], 0, 0⟩), (⟨(some 20), (.iaddrA 2 1 (.t 5) (.c (.int .i64 1))), none⟩, ⟨.seg, [], 0, 0⟩), (⟨(some 21), (.load false 1 (.t 20)), none⟩, ⟨.seg, [], 0, 0⟩), (⟨(some 7), (.mov (.t 19)), none⟩, ⟨.pure, [], 0, 0⟩), (⟨(some 8), (.mov (.t 21)), none⟩, ⟨.pure, [], 0, 0⟩)]) (.seq (.seq (.ops [⟨(some 22), (.mov (.t 7)), none⟩, ⟨(some 23), (.bin .geq (.t 22) (.c (.int .i64 0))), none⟩, ⟨(some 24), (.mov (.t 23)), none⟩, ⟨(some 25), (.mov (.t 7)), (some (24, true))⟩, ⟨(some 26), (.bin .leq (.t 25) (.c (.int .i64 255))), (some (24, true))⟩, ⟨(some 27), (.pick (.t 24) (.t 26) (.c (.bool false))), none⟩, ⟨(some 28), (.mov (.t 27)), none⟩, ⟨(some 29), (.mov (.t 8)), (some (28, true))⟩, ⟨(some 30), (.bin .geq (.t 29) (.c (.int .i64 0))), (some (28, true))⟩, ⟨(some 31), (.pick (.t 28) (.t 30) (.c (.bool false))), none⟩, ⟨(some 32), (.mov (.t 31)), none⟩, ⟨(some 33), (.mov (.t 8)), (some (32, true))⟩, ⟨(some 34), (.bin .leq (.t 33) (.c (.int .i64 255))), (some (32, true))⟩, ⟨(some 35), (.pick (.t 32) (.t 34) (.c (.bool false))), none⟩]) (.cond (.t 35) (.seq (.ops [⟨(some 36), (.mov (.t 7)), none⟩, ⟨(some 37), (.mov (.t 8)), none⟩, ⟨(some 38), (.bin .sub (.t 36) (.t 37)), none⟩, ⟨(some 39), (.mov (.t 8)), none⟩, ⟨(some 40), (.mov (.t 7)), none⟩, ⟨(some 41), (.bin .sub (.t 39) (.t 40)), none⟩, ⟨(some 42), (.maxI [(.t 38), (.t 41)]), none⟩, ⟨(some 9), (.mov (.t 42)), none⟩]) (.seq (.ops [⟨(some 43), (.mov (.t 7)), none⟩, ⟨(some 44), (.mov (.t 8)), none⟩, ⟨(some 45), (.call (.c (.fn 26 [])) [(.t 43), (.t 44)]), none⟩, ⟨(some 46), (.mov (.t 45)), none⟩, ⟨(some 47), (.mov (.t 8)), (some (46, false))⟩, ⟨(some 48), (.mov (.t 7)), (some (46, false))⟩, ⟨(some 49), (.call (.c (.fn 26 [])) [(.t 47), (.t 48)]), (some (46, false))⟩, ⟨(some 50), (.pick (.t 46) (.c (.bool true)) (.t 49)), none⟩, ⟨(some 51), (.mov (.t 9)), none⟩, ⟨(some 52), (.bin .neq (.t 51) (.c (.int .i64 0))), none⟩, ⟨(some 53), (.mov (.t 52)), none⟩, ⟨(some 54), (.mov (.t 9)), (some (53, true))⟩, ⟨(some 55), (.bin .neq (.t 54) (.c (.int .i64 128))), (some (53, true))⟩, ⟨(some 56), (.pick (.t 53) (.t 55) (.c (.bool false))), none⟩, ⟨(some 57), (.binB .neq (.t 50) (.t 56)), none⟩, ⟨(some 58), (.mov (.t 57)), none⟩, ⟨(some 59), (.mov (.t 7)), (some (58, false))⟩, ⟨(some 60), (.mov (.t 8)), (some (58, false))⟩, ⟨(some 61), (.call (.c (.fn 26 [])) [(.t 59), (.t 60)]), (some (58, false))⟩, ⟨(some 62), (.mov (.t 61)), (some (58, false))⟩, ⟨(some 63), (.mov (.t 8)), (some (62, true))⟩, ⟨(some 64), (.mov (.t 7)), (some (62, true))⟩, ⟨(some 65), (.call (.c (.fn 26 [])) [(.t 63), (.t 64)]), (some (62, true))⟩, ⟨(some 66), (.pick (.t 62) (.t 65) (.c (.bool false))), (some (58, false))⟩, ⟨(some 67), (.pick (.t 58) (.c (.bool true)) (.t 66)), none⟩]) (.cond (.t 67) (.seq (.ops [⟨(some 6), (.mov (.c (.bool false))), none⟩]) .ret) .skip))) (.seq (.ops [⟨(some 68), (.mov (.t 7)), none⟩, ⟨(some 69), (.mov (.t 8)), none⟩, ⟨(some 70), (.call (.c (.fn 26 [])) [(.t 68), (.t 69)]), none⟩]) (.cond (.t 70) (.seq (.ops [⟨(some 6), (.mov (.c (.bool false))), none⟩]) .ret) .skip)))) (.seq (.drawn [(⟨(some 72), (.load true 4 (.t 3)), none⟩, ⟨.seg, [], 0, 0⟩), (⟨(some 73), (.mov (.t 1)), none⟩, ⟨.pure, [], 0, 0⟩), (⟨(some 74), (.faddr 3 (.t 3)), none⟩, ⟨.seg, [], 0, 0⟩), (⟨(some 75), (.load false 1 (.t 74)), none⟩, ⟨.seg, [], 0, 0⟩), (⟨(some 76), (.call (.c (.fn 15 [])) [(.t 75)]), none⟩, ⟨.seg, [], 0, 0⟩), (⟨(some 77), (.call (.c (.fn 17 [])) [(.t 72), (.t 73), (.t 76)]), none⟩, ⟨.seg, [], 0, 0⟩), (⟨(some 71), (.mov (.t 77)), none⟩, ⟨.pure, [], 0, 0⟩), (⟨(some 78), (.extract (.t 71) 0), none⟩, ⟨.pure, [], 0, 0⟩), (⟨(some 79), (.extract (.t 71) 1), none⟩, ⟨.pure, [], 0, 0⟩), (⟨(some 10), (.alloc [(.int .i64 0), (.int .i64 0), (.int .i64 0), (.lst 0 [] true)]), none⟩, ⟨.seg, [], 1, 0⟩), (⟨none, (.store 4 (.t 10) (.t 78)), none⟩, ⟨.bar, [], 0, 1⟩), (⟨(some 11), (.mov (.t 79)), none⟩, ⟨.pure, [], 0, 0⟩)]) (.seq (.seq (.ops [⟨(some 80), (.mov (.t 11)), none⟩, ⟨(some 81), (.bin .neq (.t 80) (.c (.int .i64 0))), none⟩]) (.cond (.t 81) (.seq (.ops [⟨(some 82), (.mov (.t 11)), none⟩, ⟨(some 83), (.bin .eql (.t 82) (.c (.int .i64 1))), none⟩, ⟨(some 84), (.mov (.t 83)), none⟩, ⟨(some 85), (.faddr 3 (.t 10)), (some (84, true))⟩, ⟨(some 86), (.load false 1 (.t 85)), (some (84, true))⟩, ⟨(some 87), (.len (.t 86)), (some (84, true))⟩, ⟨(some 88), (.bin .eql (.t 87) (.c (.int .i64 0))), (some (84, true))⟩, ⟨(some 89), (.pick (.t 84) (.t 88) (.c (.bool false))), none⟩, ⟨(some 6), (.mov (.t 89)), none⟩]) .ret) .skip)) (.seq (.ops [⟨(some 90), (.faddr 0 (.t 10)), none⟩, ⟨(some 91), (.load false 1 (.t 90)), none⟩, ⟨(some 92), (.faddr 0 (.t 3)), none⟩, ⟨(some 93), (.load false 1 (.t 92)), none⟩, ⟨(some 94), (.call (.c (.fn 26 [])) [(.t 91), (.t 93)]), none⟩, ⟨(some 95), (.mov (.t 94)), none⟩, ⟨(some 96), (.faddr 0 (.t 3)), (some (95, true))⟩, ⟨(some 97), (.load false 1 (.t 96)), (some (95, true))⟩, ⟨(some 98), (.faddr 0 (.t 10)), (some (95, true))⟩, ⟨(some 99), (.load false 1 (.t 98)), (some (95, true))⟩, ⟨(some 100), (.call (.c (.fn 26 [])) [(.t 97), (.t 99)]), (some (95, true))⟩, ⟨(some 101), (.notB (.t 100)), (some (95, true))⟩, ⟨(some 102), (.pick (.t 95) (.t 101) (.c (.bool false))), none⟩, ⟨(some 103), (.mov (.t 102)), none⟩, ⟨(some 104), (.load true 4 (.t 3)), (some (103, true))⟩, ⟨(some 105), (.load true 4 (.t 10)), (some (103, true))⟩, ⟨(some 106), (.blist 4 [(.int .i64 0), (.int .i64 0), (.int .i64 0), (.lst 0 [] true)] 2 [(0, (.t 104)), (1, (.t 105))]), (some (103, true))⟩, ⟨(some 107), (.call (.c (.fn 27 [])) [(.t 106)]), (some (103, true))⟩, ⟨(some 108), (.bin .eql (.t 107) (.c (.int .i64 0))), (some (103, true))⟩, ⟨(some 109), (.pick (.t 103) (.t 108) (.c (.bool false))), none⟩, ⟨(some 110), (.mov (.t 109)), none⟩, ⟨(some 111), (.faddr 2 (.t 10)), (some (110, true))⟩, ⟨(some 112), (.load false 1 (.t 111)), (some (110, true))⟩, ⟨(some 113), (.mov (.t 1)), (some (110, true))⟩, ⟨(some 114), (.bin .eql (.t 112) (.t 113)), (some (110, true))⟩, ⟨(some 115), (.pick (.t 110) (.t 114) (.c (.bool false))), none⟩, ⟨(some 6), (.mov (.t 115)), none⟩]) .ret)))))))), false⟩
theorem e8 : T 8 = some c8 := by kernel_rfl
/- 9: hopmesh/hopmeshlaw11.HopSequences -/
def c9 : Fun1 := ⟨[(.tmp 4)], (.seq (.ops [⟨(some 4), (.mov (.c (.bool false))), none⟩]) (.seq (.seq (.ops [⟨(some 9), (.call (.c (.fn 11 [])) []), none⟩, ⟨(some 10), (.notB (.t 9)), none⟩]) (.cond (.t 10) (.seq (.ops [⟨(some 4), (.mov (.c (.bool false))), none⟩]) .ret) .skip)) (.seq (.seq (.ops [⟨(some 11), (.mov (.t 0)), none⟩, ⟨(some 12), (.call (.c (.fn 28 [])) [(.t 11)]), none⟩, ⟨(some 13), (.notB (.t 12)), none⟩]) (.cond (.t 13) (.seq (.ops [⟨(some 4), (.mov (.c (.bool true))), none⟩]) .ret) .skip)) (.seq (.ops [⟨(some 15), (.mov (.t 0)), none⟩, ⟨(some 16), (.call (.c (.fn 30 [])) [(.t 15)]), none⟩, ⟨(some 17), (.mov (.t 1)), none⟩, ⟨(some 18), (.call (.c (.fn 29 [])) [(.t 16), (.t 17)]), none⟩, ⟨(some 14), (.mov (.t 18)), none⟩, ⟨(some 19), (.extract (.t 14) 0), none⟩, ⟨(some 20), (.extract (.t 14) 1), none⟩, ⟨(some 5), (.alloc [(.int .i64 0), (.int .i64 0), (.int .i64 0), (.lst 0 [] true)]), none⟩, ⟨none, (.store 4 (.t 5) (.t 19)), none⟩, ⟨(some 6), (.mov (.t 20)), none⟩]) (.seq (.ops [⟨(some 22), (.mov (.t 0)), none⟩, ⟨(some 23), (.mov (.t 1)), none⟩, ⟨(some 24), (.call (.c (.fn 31 [])) [(.t 22), (.t 23)]), none⟩, ⟨(some 21), (.mov (.t 24)), none⟩, ⟨(some 25), (.extract (.t 21) 0), none⟩, ⟨(some 26), (.extract (.t 21) 1), none⟩, ⟨(some 7), (.alloc [(.int .i64 0), (.int .i64 0), (.int .i64 0), (.lst 0 [] true)]), none⟩, ⟨none, (.store 4 (.t 7) (.t 25)), none⟩, ⟨(some 8), (.mov (.t 26)), none⟩]) (.seq (.ops [⟨(some 27), (.mov (.t 0)), none⟩, ⟨(some 28), (.call (.c (.fn 30 [])) [(.t 27)]), none⟩, ⟨(some 29), (.call (.c (.fn 27 [])) [(.t 28)]), none⟩, ⟨(some 30), (.mov (.t 0)), none⟩, ⟨(some 31), (.call (.c (.fn 32 [])) [(.t 30)]), none⟩, ⟨(some 32), (.bin .eql (.t 29) (.t 31)), none⟩, ⟨(some 33), (.mov (.t 32)), none⟩, ⟨(some 34), (.mov (.t 6)), (some (33, true))⟩, ⟨(some 35), (.mov (.t 8)), (some (33, true))⟩, ⟨(some 36), (.bin .eql (.t 34) (.t 35)), (some (33, true))⟩, ⟨(some 37), (.pick (.t 33) (.t 36) (.c (.bool false))), none⟩, ⟨(some 38), (.mov (.t 37)), none⟩, ⟨(some 39), (.load true 4 (.t 5)), (some (38, true))⟩, ⟨(some 40), (.load true 4 (.t 7)), (some (38, true))⟩, ⟨(some 41), (.call (.c (.fn 20 [])) [(.t 39), (.t 40)]), (some (38, true))⟩, ⟨(some 42), (.pick (.t 38) (.t 41) (.c (.bool false))), none⟩, ⟨(some 4), (.mov (.t 42)), none⟩]) .ret)))))), false⟩
theorem e9 : T 9 = some c9 := by kernel_rfl
/- 10: hopmesh/hopmeshlaw11.HopCovers -/
def c10 : Fun1 := ⟨[(.tmp 4)], (.seq (.ops [⟨(some 4), (.mov (.c (.bool false))), none⟩]) (.seq (.seq (.ops [⟨(some 9), (.call (.c (.fn 11 [])) []), none⟩, ⟨(some 10), (.notB (.t 9)), none⟩]) (.cond (.t 10) (.seq (.ops [⟨(some 4), (.mov (.c (.bool false))), none⟩]) .ret) .skip)) (.seq (.seq (.ops [⟨(some 11), (.mov (.t 0)), none⟩, ⟨(some 12), (.call (.c (.fn 28 [])) [(.t 11)]), none⟩, ⟨(some 13), (.notB (.t 12)), none⟩]) (.cond (.t 13) (.seq (.ops [⟨(some 4), (.mov (.c (.bool true))), none⟩]) .ret) .skip)) (.seq (.ops [⟨(some 15), (.mov (.t 0)), none⟩, ⟨(some 16), (.call (.c (.fn 30 [])) [(.t 15)]), none⟩, ⟨(some 17), (.mov (.t 1)), none⟩, ⟨(some 18), (.call (.c (.fn 29 [])) [(.t 16), (.t 17)]), none⟩, ⟨(some 14), (.mov (.t 18)), none⟩, ⟨(some 19), (.extract (.t 14) 0), none⟩, ⟨(some 20), (.extract (.t 14) 1), none⟩, ⟨(some 5), (.alloc [(.int .i64 0), (.int .i64 0), (.int .i64 0), (.lst 0 [] true)]), none⟩, ⟨none, (.store 4 (.t 5) (.t 19)), none⟩, ⟨(some 6), (.mov (.t 20)), none⟩]) (.seq (.seq (.ops [⟨(some 21), (.mov (.t 0)), none⟩, ⟨(some 22), (.call (.c (.fn 30 [])) [(.t 21)]), none⟩, ⟨(some 23), (.call (.c (.fn 27 [])) [(.t 22)]), none⟩, ⟨(some 7), (.mov (.t 23)), none⟩]) (.seq (.ops [⟨(some 24), (.mov (.t 7)), none⟩, ⟨(some 25), (.bin .neq (.t 24) (.c (.int .i64 0))), none⟩]) (.cond (.t 25) (.seq (.ops [⟨(some 26), (.mov (.t 6)), none⟩, ⟨(some 27), (.mov (.t 7)), none⟩, ⟨(some 28), (.bin .eql (.t 26) (.t 27)), none⟩, ⟨(some 29), (.mov (.t 28)), none⟩, ⟨(some 30), (.faddr 3 (.t 5)), (some (29, true))⟩, ⟨(some 31), (.load false 1 (.t 30)), (some (29, true))⟩, ⟨(some 32), (.len (.t 31)), (some (29, true))⟩, ⟨(some 33), (.bin .eql (.t 32) (.c (.int .i64 0))), (some (29, true))⟩, ⟨(some 34), (.pick (.t 29) (.t 33) (.c (.bool false))), none⟩, ⟨(some 4), (.mov (.t 34)), none⟩]) .ret) .skip))) (.seq (.seq (.ops [⟨(some 35), (.mov (.t 0)), none⟩, ⟨(some 36), (.len (.t 35)), none⟩, ⟨(some 37), (.bin .eql (.t 36) (.c (.int .i64 0))), none⟩]) (.cond (.t 37) (.seq (.ops [⟨(some 4), (.mov (.c (.bool false))), none⟩]) .ret) .skip)) (.seq (.ops [⟨(some 38), (.mov (.t 1)), none⟩, ⟨(some 39), (.mov (.t 0)), none⟩, ⟨(some 40), (.iaddrS 4 (.t 39) (.c (.int .i64 0))), none⟩, ⟨(some 41), (.faddr 1 (.t 40)), none⟩, ⟨(some 42), (.load false 1 (.t 41)), none⟩, ⟨(some 43), (.bin .geq (.t 38) (.t 42)), none⟩, ⟨(some 44), (.mov (.t 43)), none⟩, ⟨(some 45), (.mov (.t 1)), (some (44, true))⟩, ⟨(some 46), (.mov (.t 0)), (some (44, true))⟩, ⟨(some 47), (.mov (.t 0)), (some (44, true))⟩, ⟨(some 48), (.len (.t 47)), (some (44, true))⟩, ⟨(some 49), (.bin .sub (.t 48) (.c (.int .i64 1))), (some (44, true))⟩, ⟨(some 50), (.iaddrS 4 (.t 46) (.t 49)), (some (44, true))⟩, ⟨(some 51), (.faddr 2 (.t 50)), (some (44, true))⟩, ⟨(some 52), (.load false 1 (.t 51)), (some (44, true))⟩, ⟨(some 53), (.bin .lss (.t 45) (.t 52)), (some (44, true))⟩, ⟨(some 54), (.pick (.t 44) (.t 53) (.c (.bool false))), none⟩, ⟨(some 8), (.mov (.t 54)), none⟩]) (.seq (.seq (.ops [⟨(some 55), (.mov (.t 8)), none⟩, ⟨(some 56), (.notB (.t 55)), none⟩]) (.cond (.t 56) (.seq (.ops [⟨(some 57), (.mov (.t 6)), none⟩, ⟨(some 58), (.bin .eql (.t 57) (.c (.int .i64 7))), none⟩, ⟨(some 59), (.mov (.t 58)), none⟩, ⟨(some 60), (.faddr 3 (.t 5)), (some (59, true))⟩, ⟨(some 61), (.load false 1 (.t 60)), (some (59, true))⟩, ⟨(some 62), (.len (.t 61)), (some (59, true))⟩, ⟨(some 63), (.bin .eql (.t 62) (.c (.int .i64 0))), (some (59, true))⟩, ⟨(some 64), (.pick (.t 59) (.t 63) (.c (.bool false))), none⟩, ⟨(some 4), (.mov (.t 64)), none⟩]) .ret) .skip)) (.seq (.seq (.ops [⟨(some 65), (.mov (.t 6)), none⟩, ⟨(some 66), (.bin .neq (.t 65) (.c (.int .i64 0))), none⟩, ⟨(some 67), (.mov (.t 66)), none⟩, ⟨(some 68), (.mov (.t 1)), (some (67, false))⟩, ⟨(some 69), (.faddr 1 (.t 5)), (some (67, false))⟩, ⟨(some 70), (.load false 1 (.t 69)), (some (67, false))⟩, ⟨(some 71), (.bin .lss (.t 68) (.t 70)), (some (67, false))⟩, ⟨(some 72), (.pick (.t 67) (.c (.bool true)) (.t 71)), none⟩, ⟨(some 73), (.mov (.t 72)), none⟩, ⟨(some 74), (.mov (.t 1)), (some (73, false))⟩, ⟨(some 75), (.faddr 2 (.t 5)), (some (73, false))⟩, ⟨(some 76), (.load false 1 (.t 75)), (some (73, false))⟩, ⟨(some 77), (.bin .geq (.t 74) (.t 76)), (some (73, false))⟩, ⟨(some 78), (.pick (.t 73) (.c (.bool true)) (.t 77)), none⟩]) (.cond (.t 78) (.seq (.ops [⟨(some 4), (.mov (.c (.bool false))), none⟩]) .ret) .skip)) (.seq (.ops [⟨(some 79), (.mov (.t 0)), none⟩, ⟨(some 80), (.mkfn 34 [(.t 5)]), none⟩, ⟨(some 81), (.call (.c (.fn 33 [])) [(.t 79), (.t 80)]), none⟩, ⟨(some 4), (.mov (.t 81)), none⟩]) .ret)))))))))), false⟩
theorem e10 : T 10 = some c10 := by kernel_rfl
/- 11: hopmesh/hopmeshlaw11.awake -/
def c11 : Fun1 := ⟨[(.tmp 0)], (.seq (.ops [⟨(some 0), (.mov (.c (.bool false))), none⟩]) (.seq (.ops [⟨(some 8), (.blist 1 [(.int .i64 0)] 3 [(0, (.c (.int .i64 11))), (1, (.c (.int .i64 12))), (2, (.c (.int .i64 15)))]), none⟩, ⟨(some 9), (.build [(.int .i64 0), (.int .i64 0), (.int .i64 0), (.lst 0 [] true)] [(2, (1, (.c (.int .i64 100)))), (3, (1, (.t 8)))]), none⟩, ⟨(some 1), (.alloc [(.int .i64 0), (.int .i64 0), (.int .i64 0), (.lst 0 [] true)]), none⟩, ⟨none, (.store 4 (.t 1) (.t 9)), none⟩]) (.seq (.ops [⟨(some 11), (.load true 4 (.t 1)), none⟩, ⟨(some 12), (.call (.c (.fn 12 [])) [(.t 11), (.c (.int .i64 4)), (.c (.int .i64 1))]), none⟩, ⟨(some 10), (.mov (.t 12)), none⟩, ⟨(some 13), (.extract (.t 10) 0), none⟩, ⟨(some 14), (.extract (.t 10) 1), none⟩, ⟨(some 2), (.mov (.t 13)), none⟩, ⟨(some 3), (.mov (.t 14)), none⟩]) (.seq (.ops [⟨(some 16), (.load true 4 (.t 1)), none⟩, ⟨(some 17), (.call (.c (.fn 12 [])) [(.t 16), (.c (.int .i64 5)), (.c (.int .i64 1))]), none⟩, ⟨(some 15), (.mov (.t 17)), none⟩, ⟨(some 18), (.extract (.t 15) 0), none⟩, ⟨(some 19), (.extract (.t 15) 1), none⟩, ⟨(some 4), (.mov (.t 18)), none⟩, ⟨(some 5), (.mov (.t 19)), none⟩]) (.seq (.ops [⟨(some 21), (.blist 1 [(.int .i64 0)] 4 [(0, (.c (.int .i64 11))), (1, (.c (.int .i64 12))), (2, (.c (.int .i64 15))), (3, (.c (.int .i64 3)))]), none⟩, ⟨(some 22), (.blist 1 [(.int .i64 0)] 2 [(0, (.c (.int .i64 12))), (1, (.c (.int .i64 15)))]), none⟩, ⟨(some 23), (.call (.c (.fn 14 [])) [(.t 21), (.t 22), (.c (.int .i64 3))]), none⟩, ⟨(some 20), (.mov (.t 23)), none⟩, ⟨(some 24), (.extract (.t 20) 0), none⟩, ⟨(some 25), (.extract (.t 20) 1), none⟩, ⟨(some 6), (.mov (.t 24)), none⟩, ⟨(some 7), (.mov (.t 25)), none⟩]) (.seq (.ops [⟨(some 26), (.mov (.t 3)), none⟩, ⟨(some 27), (.bin .eql (.t 26) (.c (.int .i64 0))), none⟩, ⟨(some 28), (.mov (.t 27)), none⟩, ⟨(some 29), (.mov (.t 5)), (some (28, true))⟩, ⟨(some 30), (.bin .eql (.t 29) (.c (.int .i64 0))), (some (28, true))⟩, ⟨(some 31), (.pick (.t 28) (.t 30) (.c (.bool false))), none⟩, ⟨(some 32), (.mov (.t 31)), none⟩, ⟨(some 33), (.mov (.t 7)), (some (32, true))⟩, ⟨(some 34), (.bin .eql (.t 33) (.c (.int .i64 0))), (some (32, true))⟩, ⟨(some 35), (.pick (.t 32) (.t 34) (.c (.bool false))), none⟩, ⟨(some 36), (.mov (.t 35)), none⟩, ⟨(some 37), (.mov (.t 2)), (some (36, true))⟩, ⟨(some 38), (.bin .eql (.t 37) (.c (.int .i64 15))), (some (36, true))⟩, ⟨(some 39), (.pick (.t 36) (.t 38) (.c (.bool false))), none⟩, ⟨(some 40), (.mov (.t 39)), none⟩, ⟨(some 41), (.mov (.t 4)), (some (40, true))⟩, ⟨(some 42), (.bin .eql (.t 41) (.c (.int .i64 11))), (some (40, true))⟩, ⟨(some 43), (.pick (.t 40) (.t 42) (.c (.bool false))), none⟩, ⟨(some 44), (.mov (.t 43)), none⟩, ⟨(some 45), (.mov (.t 6)), (some (44, true))⟩, ⟨(some 46), (.blist 1 [(.int .i64 0)] 3 [(0, (.c (.int .i64 11))), (1, (.c (.int .i64 12))), (2, (.c (.int .i64 3)))]), (some (44, true))⟩, ⟨(some 47), (.call (.c (.fn 19 [])) [(.t 45), (.t 46)]), (some (44, true))⟩, ⟨(some 48), (.pick (.t 44) (.t 47) (.c (.bool false))), none⟩, ⟨(some 49), (.mov (.t 48)), none⟩, ⟨(some 50), (.call (.c (.fn 26 [])) [(.c (.int .i64 3)), (.c (.int .i64 250))]), (some (49, true))⟩, ⟨(some 51), (.pick (.t 49) (.t 50) (.c (.bool false))), none⟩, ⟨(some 52), (.mov (.t 51)), none⟩, ⟨(some 53), (.call (.c (.fn 26 [])) [(.c (.int .i64 250)), (.c (.int .i64 3))]), (some (52, true))⟩, ⟨(some 54), (.notB (.t 53)), (some (52, true))⟩, ⟨(some 55), (.pick (.t 52) (.t 54) (.c (.bool false))), none⟩, ⟨(some 0), (.mov (.t 55)), none⟩]) .ret)))))), false⟩
theorem e11 : T 11 = some c11 := by kernel_rfl
/- 12: hopmesh/hop.Channel -/
def c12 : Fun1 := ⟨[(.tmp 6), (.tmp 7)], (.seq (.ops [⟨(some 3), (.box (.t 0)), none⟩, ⟨(some 5), (.box (.t 2)), none⟩, ⟨(some 6), (.mov (.c (.int .i64 0))), none⟩, ⟨(some 7), (.mov (.c (.int .i64 0))), none⟩]) (.seq (.block 0 (.seq (.ops [⟨(some 11), (.load true 4 (.t 3)), none⟩, ⟨(some 12), (.call (.c (.fn 24 [])) [(.t 11)]), none⟩, ⟨(some 13), (.bin .neq (.t 12) (.c (.int .i64 0))), none⟩, ⟨(some 10), (.mov (.t 13)), none⟩]) (.cond (.t 10) (.seq (.ops [⟨(some 6), (.mov (.c (.int .i64 0))), none⟩, ⟨(some 7), (.mov (.c (.int .i64 1))), none⟩]) .ret) (.seq (.ops [⟨(some 15), (.mov (.t 1)), none⟩, ⟨(some 16), (.faddr 1 (.t 3)), none⟩, ⟨(some 17), (.load false 1 (.t 16)), none⟩, ⟨(some 18), (.bin .lss (.t 15) (.t 17)), none⟩, ⟨(some 19), (.mov (.t 18)), none⟩, ⟨(some 20), (.mov (.t 1)), (some (19, false))⟩, ⟨(some 21), (.faddr 2 (.t 3)), (some (19, false))⟩, ⟨(some 22), (.load false 1 (.t 21)), (some (19, false))⟩, ⟨(some 23), (.bin .geq (.t 20) (.t 22)), (some (19, false))⟩, ⟨(some 24), (.pick (.t 19) (.c (.bool true)) (.t 23)), none⟩, ⟨(some 14), (.mov (.t 24)), none⟩]) (.cond (.t 14) (.seq (.ops [⟨(some 6), (.mov (.c (.int .i64 0))), none⟩, ⟨(some 7), (.mov (.c (.int .i64 12))), none⟩]) .ret) (.seq (.ops [⟨(some 26), (.load false 1 (.t 5)), none⟩, ⟨(some 27), (.bin .lss (.t 26) (.c (.int .i64 0))), none⟩, ⟨(some 28), (.mov (.t 27)), none⟩, ⟨(some 29), (.load false 1 (.t 5)), (some (28, false))⟩, ⟨(some 30), (.faddr 3 (.t 3)), (some (28, false))⟩, ⟨(some 31), (.load false 1 (.t 30)), (some (28, false))⟩, ⟨(some 32), (.len (.t 31)), (some (28, false))⟩, ⟨(some 33), (.bin .geq (.t 29) (.t 32)), (some (28, false))⟩, ⟨(some 34), (.pick (.t 28) (.c (.bool true)) (.t 33)), none⟩, ⟨(some 25), (.mov (.t 34)), none⟩]) (.cond (.t 25) (.seq (.ops [⟨(some 6), (.mov (.c (.int .i64 0))), none⟩, ⟨(some 7), (.mov (.c (.int .i64 2))), none⟩]) .ret) .skip))))))) (.seq (.ops [⟨(some 8), (.alloc [(.int .i64 0)]), none⟩, ⟨none, (.store 1 (.t 8) (.c (.int .i64 0))), none⟩]) (.seq (.seq (.drawn [(⟨(some 35), (.faddr 3 (.t 3)), none⟩, ⟨.seg, [], 0, 0⟩), (⟨(some 36), (.load false 1 (.t 35)), none⟩, ⟨.seg, [], 0, 0⟩), (⟨(some 37), (.mov (.t 1)), none⟩, ⟨.pure, [], 0, 0⟩), (⟨(some 38), (.faddr 3 (.t 3)), none⟩, ⟨.seg, [], 0, 0⟩), (⟨(some 39), (.load false 1 (.t 38)), none⟩, ⟨.seg, [], 0, 0⟩), (⟨(some 40), (.len (.t 39)), none⟩, ⟨.seg, [], 0, 0⟩), (⟨(some 41), (.bin .rem (.t 37) (.t 40)), none⟩, ⟨.pure, [], 0, 0⟩), (⟨(some 42), (.callK 35 2 [(.t 36), (.t 41)]), none⟩, ⟨.bar, [], 0, 0⟩)]) (.block 1 (.rangeF (.t 42) [43] (.ops [⟨(some 9), (.mov (.t 43)), none⟩]) (.block 2 (.seq (.ops [⟨(some 44), (.mov (.t 9)), none⟩, ⟨none, (.store 1 (.t 8) (.t 44)), none⟩]) (.seq (.seq (.ops [⟨(some 45), (.load false 1 (.t 5)), none⟩, ⟨(some 46), (.bin .eql (.t 45) (.c (.int .i64 0))), none⟩]) (.cond (.t 46) (.exit 1) .skip)) (.ops [⟨(some 47), (.load false 1 (.t 5)), none⟩, ⟨(some 48), (.bin .sub (.t 47) (.c (.int .i64 1))), none⟩, ⟨none, (.store 1 (.t 5) (.t 48)), none⟩]))))))) (.seq (.ops [⟨(some 49), (.load false 1 (.t 8)), none⟩, ⟨(some 6), (.mov (.t 49)), none⟩, ⟨(some 7), (.mov (.c (.int .i64 0))), none⟩]) .ret))))), false⟩
theorem e12 : T 12 = some c12 := by kernel_rfl
/- 13: slices.Contains[[]int,int] -/
def c13 : Fun1 := ⟨[(.tmp 4)], (.seq (.ops [⟨(some 4), (.mov (.c (.bool false))), none⟩]) (.seq (.ops [⟨(some 5), (.mov (.t 0)), none⟩, ⟨(some 6), (.mov (.t 1)), none⟩, ⟨(some 7), (.call (.c (.fn 36 [])) [(.t 5), (.t 6)]), none⟩, ⟨(some 8), (.bin .geq (.t 7) (.c (.int .i64 0))), none⟩, ⟨(some 4), (.mov (.t 8)), none⟩]) .ret)), false⟩
theorem e13 : T 13 = some c13 := by kernel_rfl
/- 14: hopmesh/hop.Without -/
def c14 : Fun1 := ⟨[(.tmp 6), (.tmp 7)], (.seq (.ops [⟨(some 6), (.mov (.c (.lst 0 [] true))), none⟩, ⟨(some 7), (.mov (.c (.int .i64 0))), none⟩]) (.seq (.seq (.ops [⟨(some 14), (.mov (.t 0)), none⟩, ⟨(some 15), (.call (.c (.fn 37 [])) [(.t 14)]), none⟩, ⟨(some 16), (.notB (.t 15)), none⟩, ⟨(some 17), (.mov (.t 16)), none⟩, ⟨(some 18), (.mov (.t 1)), (some (17, false))⟩, ⟨(some 19), (.len (.t 18)), (some (17, false))⟩, ⟨(some 20), (.bin .gtr (.t 19) (.c (.int .i64 64))), (some (17, false))⟩, ⟨(some 21), (.pick (.t 17) (.c (.bool true)) (.t 20)), none⟩, ⟨(some 22), (.mov (.t 21)), none⟩, ⟨(some 23), (.mov (.t 1)), (some (22, false))⟩, ⟨(some 24), (.call (.c (.fn 38 [])) [(.t 23), (.c (.fn 39 []))]), (some (22, false))⟩, ⟨(some 25), (.pick (.t 22) (.c (.bool true)) (.t 24)), none⟩]) (.cond (.t 25) (.seq (.ops [⟨(some 6), (.mov (.c (.lst 0 [] true))), none⟩, ⟨(some 7), (.mov (.c (.int .i64 1))), none⟩]) .ret) .skip)) (.seq (.seq (.ops [⟨(some 26), (.mov (.t 2)), none⟩, ⟨(some 27), (.bin .lss (.t 26) (.c (.int .i64 1))), none⟩, ⟨(some 28), (.mov (.t 27)), none⟩, ⟨(some 29), (.mov (.t 2)), (some (28, false))⟩, ⟨(some 30), (.mov (.t 0)), (some (28, false))⟩, ⟨(some 31), (.len (.t 30)), (some (28, false))⟩, ⟨(some 32), (.bin .gtr (.t 29) (.t 31)), (some (28, false))⟩, ⟨(some 33), (.pick (.t 28) (.c (.bool true)) (.t 32)), none⟩]) (.cond (.t 33) (.seq (.ops [⟨(some 6), (.mov (.c (.lst 0 [] true))), none⟩, ⟨(some 7), (.mov (.c (.int .i64 2))), none⟩]) .ret) .skip)) (.seq (.ops [⟨(some 8), (.alloc [(.bool false), (.bool false), (.bool false), (.bool false), (.bool false), (.bool false), (.bool false), (.bool false), (.bool false), (.bool false), (.bool false), (.bool false), (.bool false), (.bool false), (.bool false), (.bool false)]), none⟩]) (.seq (.ops [⟨(some 9), (.mov (.c (.int .i64 0))), none⟩]) (.seq (.seq (.ops [⟨(some 34), (.mov (.t 0)), none⟩, ⟨(some 35), (.len (.t 34)), none⟩, ⟨(some 36), (.mov (.c (.int .i64 0))), none⟩]) (.block 0 (.loop ⟨[0, 1, 2, 8, 9, 34, 35, 36], []⟩ (.seq (.ops [⟨(some 37), (.bin .lss (.t 36) (.t 35)), none⟩]) (.seq (.cond (.t 37) .skip (.exit 0)) (.seq (.block 1 (.seq (.ops [⟨(some 38), (.iaddrS 1 (.t 34) (.t 36)), none⟩, ⟨(some 39), (.load false 1 (.t 38)), none⟩, ⟨(some 11), (.mov (.t 39)), none⟩]) (.seq (.ops [⟨(some 40), (.mov (.t 1)), none⟩, ⟨(some 41), (.mov (.t 11)), none⟩, ⟨(some 42), (.call (.c (.fn 13 [])) [(.t 40), (.t 41)]), none⟩, ⟨(some 43), (.notB (.t 42)), none⟩]) (.cond (.t 43) (.seq (.ops [⟨(some 44), (.mov (.t 11)), none⟩, ⟨(some 45), (.iaddrA 16 1 (.t 8) (.t 44)), none⟩, ⟨none, (.store 1 (.t 45) (.c (.bool true))), none⟩]) (.ops [⟨(some 46), (.mov (.t 9)), none⟩, ⟨(some 47), (.bin .add (.t 46) (.c (.int .i64 1))), none⟩, ⟨(some 9), (.mov (.t 47)), none⟩])) .skip)))) (.ops [⟨(some 48), (.bin .add (.t 36) (.c (.int .i64 1))), none⟩, ⟨(some 36), (.mov (.t 48)), none⟩]))))))) (.seq (.seq (.ops [⟨(some 49), (.mov (.t 1)), none⟩, ⟨(some 50), (.len (.t 49)), none⟩, ⟨(some 51), (.mov (.c (.int .i64 0))), none⟩]) (.block 2 (.loop ⟨[0, 2, 8, 9, 49, 50, 51], []⟩ (.seq (.ops [⟨(some 52), (.bin .lss (.t 51) (.t 50)), none⟩]) (.seq (.cond (.t 52) .skip (.exit 2)) (.seq (.block 3 (.seq (.ops [⟨(some 53), (.iaddrS 1 (.t 49) (.t 51)), none⟩, ⟨(some 54), (.load false 1 (.t 53)), none⟩, ⟨(some 13), (.mov (.t 54)), none⟩]) (.seq (.ops [⟨(some 55), (.mov (.t 9)), none⟩, ⟨(some 56), (.mov (.t 2)), none⟩, ⟨(some 57), (.bin .lss (.t 55) (.t 56)), none⟩, ⟨(some 58), (.mov (.t 57)), none⟩, ⟨(some 59), (.mov (.t 13)), (some (58, true))⟩, ⟨(some 60), (.iaddrA 16 1 (.t 8) (.t 59)), (some (58, true))⟩, ⟨(some 61), (.load false 1 (.t 60)), (some (58, true))⟩, ⟨(some 62), (.notB (.t 61)), (some (58, true))⟩, ⟨(some 63), (.pick (.t 58) (.t 62) (.c (.bool false))), none⟩, ⟨(some 64), (.mov (.t 63)), none⟩, ⟨(some 65), (.mov (.t 0)), (some (64, true))⟩, ⟨(some 66), (.mov (.t 13)), (some (64, true))⟩, ⟨(some 67), (.call (.c (.fn 13 [])) [(.t 65), (.t 66)]), (some (64, true))⟩, ⟨(some 68), (.pick (.t 64) (.t 67) (.c (.bool false))), none⟩]) (.cond (.t 68) (.seq (.ops [⟨(some 69), (.mov (.t 13)), none⟩, ⟨(some 70), (.iaddrA 16 1 (.t 8) (.t 69)), none⟩, ⟨none, (.store 1 (.t 70) (.c (.bool true))), none⟩]) (.ops [⟨(some 71), (.mov (.t 9)), none⟩, ⟨(some 72), (.bin .add (.t 71) (.c (.int .i64 1))), none⟩, ⟨(some 9), (.mov (.t 72)), none⟩])) .skip)))) (.ops [⟨(some 73), (.bin .add (.t 51) (.c (.int .i64 1))), none⟩, ⟨(some 51), (.mov (.t 73)), none⟩]))))))) (.seq (.ops [⟨(some 74), (.mov (.t 0)), none⟩, ⟨(some 75), (.callK 15 1 [(.t 74)]), none⟩, ⟨(some 76), (.mkfn 42 [(.t 8)]), none⟩, ⟨(some 77), (.call (.c (.fn 41 [])) [(.t 75), (.t 76)]), none⟩, ⟨(some 6), (.mov (.t 77)), none⟩, ⟨(some 7), (.mov (.c (.int .i64 0))), none⟩]) .ret)))))))), false⟩
theorem e14 : T 14 = some c14 := by kernel_rfl
/- 15: slices.Clone[[]int,int] -/
def c15 : Fun1 := ⟨[(.tmp 2)], (.seq (.ops [⟨(some 2), (.mov (.c (.lst 0 [] true))), none⟩]) (.seq (.seq (.ops [⟨(some 3), (.mov (.t 0)), none⟩]) (.amb 4 false (.t 3) (.cond (.t 4) (.seq (.seq (.ops [⟨(some 2), (.mov (.c (.lst 0 [] true))), none⟩]) (.virt [(2, 1)])) .ret) .skip))) (.seq (.ops [⟨(some 5), (.blist 1 [(.int .i64 0)] 0 []), none⟩, ⟨(some 6), (.mov (.t 0)), none⟩, ⟨(some 7), (.append 1 8 (.t 5) (.t 6)), none⟩, ⟨(some 2), (.mov (.t 7)), none⟩]) .ret))), false⟩
theorem e15 : T 15 = some c15 := by kernel_rfl
/- 16: hopmesh/hopmeshref11.Without -/
def c16 : Fun1 := ⟨[(.tmp 6), (.tmp 7)], (.seq (.ops [⟨(some 6), (.mov (.c (.lst 0 [] true))), none⟩, ⟨(some 7), (.mov (.c (.int .i64 0))), none⟩]) (.seq (.seq (.ops [⟨(some 15), (.mov (.t 0)), none⟩, ⟨(some 16), (.call (.c (.fn 43 [])) [(.t 15)]), none⟩, ⟨(some 17), (.notB (.t 16)), none⟩, ⟨(some 18), (.mov (.t 17)), none⟩, ⟨(some 19), (.mov (.t 1)), (some (18, false))⟩, ⟨(some 20), (.len (.t 19)), (some (18, false))⟩, ⟨(some 21), (.bin .gtr (.t 20) (.c (.int .i64 64))), (some (18, false))⟩, ⟨(some 22), (.pick (.t 18) (.c (.bool true)) (.t 21)), none⟩]) (.cond (.t 22) (.seq (.ops [⟨(some 6), (.mov (.c (.lst 0 [] true))), none⟩, ⟨(some 7), (.mov (.c (.int .i64 1))), none⟩]) .ret) .skip)) (.seq (.seq (.ops [⟨(some 8), (.mov (.c (.int .i64 0))), none⟩]) (.block 0 (.loop ⟨[0, 1, 2, 8], []⟩ (.seq (.seq (.ops [⟨(some 23), (.mov (.t 8)), none⟩, ⟨(some 24), (.mov (.t 1)), none⟩, ⟨(some 25), (.len (.t 24)), none⟩, ⟨(some 26), (.bin .lss (.t 23) (.t 25)), none⟩]) (.cond (.t 26) .skip (.exit 0))) (.seq (.block 1 (.seq (.ops [⟨(some 29), (.mov (.t 1)), none⟩, ⟨(some 30), (.mov (.t 8)), none⟩, ⟨(some 31), (.iaddrS 1 (.t 29) (.t 30)), none⟩, ⟨(some 32), (.load false 1 (.t 31)), none⟩, ⟨(some 33), (.call (.c (.fn 44 [])) [(.t 32)]), none⟩, ⟨(some 34), (.notB (.t 33)), none⟩]) (.cond (.t 34) (.seq (.ops [⟨(some 6), (.mov (.c (.lst 0 [] true))), none⟩, ⟨(some 7), (.mov (.c (.int .i64 1))), none⟩]) .ret) .skip))) (.ops [⟨(some 27), (.mov (.t 8)), none⟩, ⟨(some 28), (.bin .add (.t 27) (.c (.int .i64 1))), none⟩, ⟨(some 8), (.mov (.t 28)), none⟩])))))) (.seq (.seq (.ops [⟨(some 35), (.mov (.t 2)), none⟩, ⟨(some 36), (.bin .lss (.t 35) (.c (.int .i64 1))), none⟩, ⟨(some 37), (.mov (.t 36)), none⟩, ⟨(some 38), (.mov (.t 2)), (some (37, false))⟩, ⟨(some 39), (.mov (.t 0)), (some (37, false))⟩, ⟨(some 40), (.len (.t 39)), (some (37, false))⟩, ⟨(some 41), (.bin .gtr (.t 38) (.t 40)), (some (37, false))⟩, ⟨(some 42), (.pick (.t 37) (.c (.bool true)) (.t 41)), none⟩]) (.cond (.t 42) (.seq (.ops [⟨(some 6), (.mov (.c (.lst 0 [] true))), none⟩, ⟨(some 7), (.mov (.c (.int .i64 2))), none⟩]) .ret) .skip)) (.seq (.ops [⟨(some 9), (.mov (.c (.int .i64 0))), none⟩]) (.seq (.ops [⟨(some 43), (.blist 1 [(.int .i64 0)] 0 []), none⟩, ⟨(some 10), (.mov (.t 43)), none⟩]) (.seq (.seq (.ops [⟨(some 11), (.mov (.c (.int .i64 0))), none⟩]) (.block 2 (.loop ⟨[0, 1, 2, 9, 10, 11], []⟩ (.seq (.seq (.ops [⟨(some 44), (.mov (.t 11)), none⟩, ⟨(some 45), (.mov (.t 0)), none⟩, ⟨(some 46), (.len (.t 45)), none⟩, ⟨(some 47), (.bin .lss (.t 44) (.t 46)), none⟩]) (.cond (.t 47) .skip (.exit 2))) (.seq (.block 3 (.seq (.ops [⟨(some 50), (.mov (.t 1)), none⟩, ⟨(some 51), (.mov (.t 0)), none⟩, ⟨(some 52), (.mov (.t 11)), none⟩, ⟨(some 53), (.iaddrS 1 (.t 51) (.t 52)), none⟩, ⟨(some 54), (.load false 1 (.t 53)), none⟩, ⟨(some 55), (.call (.c (.fn 45 [])) [(.t 50), (.t 54)]), none⟩, ⟨(some 56), (.notB (.t 55)), none⟩]) (.cond (.t 56) (.ops [⟨(some 57), (.mov (.t 9)), none⟩, ⟨(some 58), (.bin .add (.t 57) (.c (.int .i64 1))), none⟩, ⟨(some 9), (.mov (.t 58)), none⟩]) .skip))) (.ops [⟨(some 48), (.mov (.t 11)), none⟩, ⟨(some 49), (.bin .add (.t 48) (.c (.int .i64 1))), none⟩, ⟨(some 11), (.mov (.t 49)), none⟩])))))) (.seq (.seq (.ops [⟨(some 12), (.mov (.c (.int .i64 0))), none⟩]) (.block 4 (.loop ⟨[0, 1, 2, 9, 10, 12], [(10, 1)]⟩ (.seq (.seq (.ops [⟨(some 59), (.mov (.t 12)), none⟩, ⟨(some 60), (.mov (.t 1)), none⟩, ⟨(some 61), (.len (.t 60)), none⟩, ⟨(some 62), (.bin .lss (.t 59) (.t 61)), none⟩, ⟨(some 63), (.mov (.t 62)), none⟩, ⟨(some 64), (.mov (.t 9)), (some (63, true))⟩, ⟨(some 65), (.mov (.t 2)), (some (63, true))⟩, ⟨(some 66), (.bin .lss (.t 64) (.t 65)), (some (63, true))⟩, ⟨(some 67), (.pick (.t 63) (.t 66) (.c (.bool false))), none⟩]) (.cond (.t 67) .skip (.exit 4))) (.seq (.block 5 (.seq (.ops [⟨(some 70), (.mov (.t 0)), none⟩, ⟨(some 71), (.mov (.t 1)), none⟩, ⟨(some 72), (.mov (.t 12)), none⟩, ⟨(some 73), (.iaddrS 1 (.t 71) (.t 72)), none⟩, ⟨(some 74), (.load false 1 (.t 73)), none⟩, ⟨(some 75), (.call (.c (.fn 45 [])) [(.t 70), (.t 74)]), none⟩, ⟨(some 76), (.mov (.t 75)), none⟩, ⟨(some 77), (.mov (.t 10)), (some (76, true))⟩, ⟨(some 78), (.mov (.t 1)), (some (76, true))⟩, ⟨(some 79), (.mov (.t 12)), (some (76, true))⟩, ⟨(some 80), (.iaddrS 1 (.t 78) (.t 79)), (some (76, true))⟩, ⟨(some 81), (.load false 1 (.t 80)), (some (76, true))⟩, ⟨(some 82), (.callV 45 [(.t 77), (.t 81)]), (some (76, true))⟩, ⟨(some 83), (.notB (.t 82)), (some (76, true))⟩, ⟨(some 84), (.pick (.t 76) (.t 83) (.c (.bool false))), none⟩]) (.cond (.t 84) (.seq (.ops [⟨(some 85), (.mov (.t 10)), none⟩, ⟨(some 86), (.mov (.t 1)), none⟩, ⟨(some 87), (.mov (.t 12)), none⟩, ⟨(some 88), (.iaddrS 1 (.t 86) (.t 87)), none⟩, ⟨(some 89), (.load false 1 (.t 88)), none⟩, ⟨(some 90), (.blist 1 [(.int .i64 0)] 1 [(0, (.t 89))]), none⟩, ⟨(some 91), (.append 1 8 (.t 85) (.t 90)), none⟩, ⟨(some 10), (.mov (.t 91)), none⟩]) (.ops [⟨(some 92), (.mov (.t 9)), none⟩, ⟨(some 93), (.bin .add (.t 92) (.c (.int .i64 1))), none⟩, ⟨(some 9), (.mov (.t 93)), none⟩])) .skip))) (.ops [⟨(some 68), (.mov (.t 12)), none⟩, ⟨(some 69), (.bin .add (.t 68) (.c (.int .i64 1))), none⟩, ⟨(some 12), (.mov (.t 69)), none⟩])))))) (.seq (.ops [⟨(some 94), (.blist 1 [(.int .i64 0)] 0 []), none⟩, ⟨(some 13), (.mov (.t 94)), none⟩]) (.seq (.seq (.ops [⟨(some 14), (.mov (.c (.int .i64 0))), none⟩]) (.block 6 (.loop ⟨[0, 1, 10, 13, 14], [(13, 1)]⟩ (.seq (.seq (.ops [⟨(some 95), (.mov (.t 14)), none⟩, ⟨(some 96), (.mov (.t 0)), none⟩, ⟨(some 97), (.len (.t 96)), none⟩, ⟨(some 98), (.bin .lss (.t 95) (.t 97)), none⟩]) (.cond (.t 98) .skip (.exit 6))) (.seq (.block 7 (.seq (.ops [⟨(some 101), (.mov (.t 1)), none⟩, ⟨(some 102), (.mov (.t 0)), none⟩, ⟨(some 103), (.mov (.t 14)), none⟩, ⟨(some 104), (.iaddrS 1 (.t 102) (.t 103)), none⟩, ⟨(some 105), (.load false 1 (.t 104)), none⟩, ⟨(some 106), (.call (.c (.fn 45 [])) [(.t 101), (.t 105)]), none⟩, ⟨(some 107), (.notB (.t 106)), none⟩, ⟨(some 108), (.mov (.t 107)), none⟩, ⟨(some 109), (.mov (.t 10)), (some (108, false))⟩, ⟨(some 110), (.mov (.t 0)), (some (108, false))⟩, ⟨(some 111), (.mov (.t 14)), (some (108, false))⟩, ⟨(some 112), (.iaddrS 1 (.t 110) (.t 111)), (some (108, false))⟩, ⟨(some 113), (.load false 1 (.t 112)), (some (108, false))⟩, ⟨(some 114), (.callV 45 [(.t 109), (.t 113)]), (some (108, false))⟩, ⟨(some 115), (.pick (.t 108) (.c (.bool true)) (.t 114)), none⟩]) (.cond (.t 115) (.ops [⟨(some 116), (.mov (.t 13)), none⟩, ⟨(some 117), (.mov (.t 0)), none⟩, ⟨(some 118), (.mov (.t 14)), none⟩, ⟨(some 119), (.iaddrS 1 (.t 117) (.t 118)), none⟩, ⟨(some 120), (.load false 1 (.t 119)), none⟩, ⟨(some 121), (.blist 1 [(.int .i64 0)] 1 [(0, (.t 120))]), none⟩, ⟨(some 122), (.append 1 8 (.t 116) (.t 121)), none⟩, ⟨(some 13), (.mov (.t 122)), none⟩]) .skip))) (.ops [⟨(some 99), (.mov (.t 14)), none⟩, ⟨(some 100), (.bin .add (.t 99) (.c (.int .i64 1))), none⟩, ⟨(some 14), (.mov (.t 100)), none⟩])))))) (.seq (.ops [⟨(some 123), (.mov (.t 13)), none⟩, ⟨(some 6), (.mov (.t 123)), none⟩, ⟨(some 7), (.mov (.c (.int .i64 0))), none⟩]) .ret))))))))))), false⟩
theorem e16 : T 16 = some c16 := by kernel_rfl
/- 17: hopmesh/hop.Next -/
def c17 : Fun1 := ⟨[(.cell 6 true 4), (.tmp 7)], (.seq (.ops [⟨(some 3), (.box (.t 0)), none⟩, ⟨(some 6), (.alloc [(.int .i64 0), (.int .i64 0), (.int .i64 0), (.lst 0 [] true)]), none⟩, ⟨(some 7), (.mov (.c (.int .i64 0))), none⟩]) (.seq (.drawn [(⟨(some 9), (.faddr 0 (.t 3)), none⟩, ⟨.seg, [], 0, 0⟩), (⟨(some 10), (.load false 1 (.t 9)), none⟩, ⟨.seg, [], 0, 0⟩), (⟨(some 11), (.bin .add (.t 10) (.c (.int .i64 1))), none⟩, ⟨.pure, [], 0, 0⟩), (⟨(some 12), (.bin .rem (.t 11) (.c (.int .i64 256))), none⟩, ⟨.pure, [], 0, 0⟩), (⟨(some 13), (.faddr 2 (.t 3)), none⟩, ⟨.seg, [], 0, 0⟩), (⟨(some 14), (.load false 1 (.t 13)), none⟩, ⟨.seg, [], 0, 0⟩), (⟨(some 15), (.mov (.t 1)), none⟩, ⟨.pure, [], 0, 0⟩), (⟨(some 16), (.mov (.t 2)), none⟩, ⟨.pure, [], 0, 0⟩), (⟨(some 17), (.call (.c (.fn 15 [])) [(.t 16)]), none⟩, ⟨.seg, [], 0, 0⟩), (⟨(some 18), (.build [(.int .i64 0), (.int .i64 0), (.int .i64 0), (.lst 0 [] true)] [(0, (1, (.t 12))), (1, (1, (.t 14))), (2, (1, (.t 15))), (3, (1, (.t 17)))]), none⟩, ⟨.pure, [], 0, 0⟩), (⟨(some 8), (.alloc [(.int .i64 0), (.int .i64 0), (.int .i64 0), (.lst 0 [] true)]), none⟩, ⟨.seg, [], 1, 0⟩), (⟨none, (.store 4 (.t 8) (.t 18)), none⟩, ⟨.bar, [], 0, 1⟩)]) (.seq (.seq (.ops [⟨(some 19), (.load true 4 (.t 3)), none⟩, ⟨(some 20), (.call (.c (.fn 24 [])) [(.t 19)]), none⟩, ⟨(some 21), (.bin .neq (.t 20) (.c (.int .i64 0))), none⟩, ⟨(some 22), (.mov (.t 21)), none⟩, ⟨(some 23), (.load true 4 (.t 8)), (some (22, false))⟩, ⟨(some 24), (.call (.c (.fn 24 [])) [(.t 23)]), (some (22, false))⟩, ⟨(some 25), (.bin .neq (.t 24) (.c (.int .i64 0))), (some (22, false))⟩, ⟨(some 26), (.pick (.t 22) (.c (.bool true)) (.t 25)), none⟩]) (.cond (.t 26) (.seq (.ops [⟨(some 27), (.build [(.int .i64 0), (.int .i64 0), (.int .i64 0), (.lst 0 [] true)] []), none⟩, ⟨none, (.store 4 (.t 6) (.t 27)), none⟩, ⟨(some 7), (.mov (.c (.int .i64 1))), none⟩]) .ret) .skip)) (.seq (.ops [⟨(some 28), (.load true 4 (.t 8)), none⟩, ⟨none, (.store 4 (.t 6) (.t 28)), none⟩, ⟨(some 7), (.mov (.c (.int .i64 0))), none⟩]) .ret)))), false⟩
theorem e17 : T 17 = some c17 := by kernel_rfl
/- 18: hopmesh/hopmeshref11.Next -/
def c18 : Fun1 := ⟨[(.cell 6 true 4), (.tmp 7)], (.seq (.ops [⟨(some 3), (.box (.t 0)), none⟩, ⟨(some 6), (.alloc [(.int .i64 0), (.int .i64 0), (.int .i64 0), (.lst 0 [] true)]), none⟩, ⟨(some 7), (.mov (.c (.int .i64 0))), none⟩]) (.seq (.seq (.ops [⟨(some 9), (.load true 4 (.t 3)), none⟩, ⟨(some 10), (.call (.c (.fn 25 [])) [(.t 9)]), none⟩, ⟨(some 11), (.bin .neq (.t 10) (.c (.int .i64 0))), none⟩]) (.cond (.t 11) (.seq (.ops [⟨(some 12), (.build [(.int .i64 0), (.int .i64 0), (.int .i64 0), (.lst 0 [] true)] []), none⟩, ⟨none, (.store 4 (.t 6) (.t 12)), none⟩, ⟨(some 7), (.mov (.c (.int .i64 1))), none⟩]) .ret) .skip)) (.seq (.drawn [(⟨(some 13), (.faddr 0 (.t 3)), none⟩, ⟨.seg, [], 0, 0⟩), (⟨(some 14), (.load false 1 (.t 13)), none⟩, ⟨.seg, [], 0, 0⟩), (⟨(some 15), (.bin .add (.t 14) (.c (.int .i64 1))), none⟩, ⟨.pure, [], 0, 0⟩), (⟨(some 16), (.bin .rem (.t 15) (.c (.int .i64 256))), none⟩, ⟨.pure, [], 0, 0⟩), (⟨(some 17), (.faddr 2 (.t 3)), none⟩, ⟨.seg, [], 0, 0⟩), (⟨(some 18), (.load false 1 (.t 17)), none⟩, ⟨.seg, [], 0, 0⟩), (⟨(some 19), (.mov (.t 1)), none⟩, ⟨.pure, [], 0, 0⟩), (⟨(some 20), (.blist 1 [(.int .i64 0)] 0 []), none⟩, ⟨.pure, [], 0, 0⟩), (⟨(some 21), (.mov (.t 2)), none⟩, ⟨.pure, [], 0, 0⟩), (⟨(some 22), (.append 1 8 (.t 20) (.t 21)), none⟩, ⟨.seg, [], 1, 0⟩), (⟨(some 23), (.build [(.int .i64 0), (.int .i64 0), (.int .i64 0), (.lst 0 [] true)] [(0, (1, (.t 16))), (1, (1, (.t 18))), (2, (1, (.t 19))), (3, (1, (.t 22)))]), none⟩, ⟨.pure, [], 0, 1⟩), (⟨(some 8), (.alloc [(.int .i64 0), (.int .i64 0), (.int .i64 0), (.lst 0 [] true)]), none⟩, ⟨.seg, [0], 1, 1⟩), (⟨none, (.store 4 (.t 8) (.t 23)), none⟩, ⟨.bar, [], 0, 2⟩)]) (.seq (.seq (.ops [⟨(some 24), (.load true 4 (.t 8)), none⟩, ⟨(some 25), (.callV 25 [(.t 24)]), none⟩, ⟨(some 26), (.bin .neq (.t 25) (.c (.int .i64 0))), none⟩]) (.cond (.t 26) (.seq (.ops [⟨(some 27), (.build [(.int .i64 0), (.int .i64 0), (.int .i64 0), (.lst 0 [] true)] []), none⟩, ⟨none, (.store 4 (.t 6) (.t 27)), none⟩, ⟨(some 7), (.mov (.c (.int .i64 1))), none⟩]) .ret) .skip)) (.seq (.ops [⟨(some 28), (.load true 4 (.t 8)), none⟩, ⟨none, (.store 4 (.t 6) (.t 28)), none⟩, ⟨(some 7), (.mov (.c (.int .i64 0))), none⟩]) .ret))))), false⟩
theorem e18 : T 18 = some c18 := by kernel_rfl
/- 19: slices.Equal[[]int,int] -/
def c19 : Fun1 := ⟨[(.tmp 4)], (.seq (.ops [⟨(some 4), (.mov (.c (.bool false))), none⟩]) (.seq (.seq (.ops [⟨(some 6), (.mov (.t 0)), none⟩, ⟨(some 7), (.len (.t 6)), none⟩, ⟨(some 8), (.mov (.t 1)), none⟩, ⟨(some 9), (.len (.t 8)), none⟩, ⟨(some 10), (.bin .neq (.t 7) (.t 9)), none⟩]) (.cond (.t 10) (.seq (.ops [⟨(some 4), (.mov (.c (.bool false))), none⟩]) .ret) .skip)) (.seq (.seq (.ops [⟨(some 11), (.mov (.t 0)), none⟩, ⟨(some 12), (.len (.t 11)), none⟩, ⟨(some 13), (.mov (.c (.int .i64 0))), none⟩]) (.block 0 (.loop ⟨[0, 1, 12, 13], []⟩ (.seq (.ops [⟨(some 14), (.bin .lss (.t 13) (.t 12)), none⟩]) (.seq (.cond (.t 14) .skip (.exit 0)) (.seq (.block 1 (.seq (.ops [⟨(some 15), (.mov (.t 13)), none⟩, ⟨(some 5), (.mov (.t 15)), none⟩]) (.seq (.drawn [(⟨(some 16), (.mov (.t 0)), none⟩, ⟨.pure, [], 0, 0⟩), (⟨(some 17), (.mov (.t 5)), none⟩, ⟨.pure, [], 0, 0⟩), (⟨(some 18), (.iaddrS 1 (.t 16) (.t 17)), none⟩, ⟨.seg, [], 0, 0⟩), (⟨(some 19), (.load false 1 (.t 18)), none⟩, ⟨.seg, [], 0, 0⟩), (⟨(some 20), (.mov (.t 1)), none⟩, ⟨.pure, [], 0, 0⟩), (⟨(some 21), (.mov (.t 5)), none⟩, ⟨.pure, [], 0, 0⟩), (⟨(some 22), (.iaddrS 1 (.t 20) (.t 21)), none⟩, ⟨.seg, [], 0, 0⟩), (⟨(some 23), (.load false 1 (.t 22)), none⟩, ⟨.seg, [], 0, 0⟩), (⟨(some 24), (.bin .neq (.t 19) (.t 23)), none⟩, ⟨.pure, [], 0, 0⟩)]) (.cond (.t 24) (.seq (.ops [⟨(some 4), (.mov (.c (.bool false))), none⟩]) .ret) .skip)))) (.ops [⟨(some 25), (.bin .add (.t 13) (.c (.int .i64 1))), none⟩, ⟨(some 13), (.mov (.t 25)), none⟩]))))))) (.seq (.ops [⟨(some 4), (.mov (.c (.bool true))), none⟩]) .ret)))), false⟩
theorem e19 : T 19 = some c19 := by kernel_rfl
/- 20: hopmesh/hopmeshref11.Same -/
def c20 : Fun1 := ⟨[(.tmp 4)], (.seq (.ops [⟨(some 2), (.box (.t 0)), none⟩, ⟨(some 3), (.box (.t 1)), none⟩, ⟨(some 4), (.mov (.c (.bool false))), none⟩]) (.seq (.seq (.ops [⟨(some 6), (.faddr 0 (.t 2)), none⟩, ⟨(some 7), (.load false 1 (.t 6)), none⟩, ⟨(some 8), (.faddr 0 (.t 3)), none⟩, ⟨(some 9), (.load false 1 (.t 8)), none⟩, ⟨(some 10), (.bin .neq (.t 7) (.t 9)), none⟩, ⟨(some 11), (.mov (.t 10)), none⟩, ⟨(some 12), (.faddr 1 (.t 2)), (some (11, false))⟩, ⟨(some 13), (.load false 1 (.t 12)), (some (11, false))⟩, ⟨(some 14), (.faddr 1 (.t 3)), (some (11, false))⟩, ⟨(some 15), (.load false 1 (.t 14)), (some (11, false))⟩, ⟨(some 16), (.bin .neq (.t 13) (.t 15)), (some (11, false))⟩, ⟨(some 17), (.pick (.t 11) (.c (.bool true)) (.t 16)), none⟩, ⟨(some 18), (.mov (.t 17)), none⟩, ⟨(some 19), (.faddr 2 (.t 2)), (some (18, false))⟩, ⟨(some 20), (.load false 1 (.t 19)), (some (18, false))⟩, ⟨(some 21), (.faddr 2 (.t 3)), (some (18, false))⟩, ⟨(some 22), (.load false 1 (.t 21)), (some (18, false))⟩, ⟨(some 23), (.bin .neq (.t 20) (.t 22)), (some (18, false))⟩, ⟨(some 24), (.pick (.t 18) (.c (.bool true)) (.t 23)), none⟩, ⟨(some 25), (.mov (.t 24)), none⟩, ⟨(some 26), (.faddr 3 (.t 2)), (some (25, false))⟩, ⟨(some 27), (.load false 1 (.t 26)), (some (25, false))⟩, ⟨(some 28), (.len (.t 27)), (some (25, false))⟩, ⟨(some 29), (.faddr 3 (.t 3)), (some (25, false))⟩, ⟨(some 30), (.load false 1 (.t 29)), (some (25, false))⟩, ⟨(some 31), (.len (.t 30)), (some (25, false))⟩, ⟨(some 32), (.bin .neq (.t 28) (.t 31)), (some (25, false))⟩, ⟨(some 33), (.pick (.t 25) (.c (.bool true)) (.t 32)), none⟩]) (.cond (.t 33) (.seq (.ops [⟨(some 4), (.mov (.c (.bool false))), none⟩]) .ret) .skip)) (.seq (.seq (.ops [⟨(some 5), (.mov (.c (.int .i64 0))), none⟩]) (.block 0 (.loop ⟨[2, 3, 5], []⟩ (.seq (.seq (.ops [⟨(some 34), (.mov (.t 5)), none⟩, ⟨(some 35), (.faddr 3 (.t 2)), none⟩, ⟨(some 36), (.load false 1 (.t 35)), none⟩, ⟨(some 37), (.len (.t 36)), none⟩, ⟨(some 38), (.bin .lss (.t 34) (.t 37)), none⟩]) (.cond (.t 38) .skip (.exit 0))) (.seq (.block 1 (.seq (.drawn [(⟨(some 41), (.faddr 3 (.t 2)), none⟩, ⟨.seg, [], 0, 0⟩), (⟨(some 42), (.load false 1 (.t 41)), none⟩, ⟨.seg, [], 0, 0⟩), (⟨(some 43), (.mov (.t 5)), none⟩, ⟨.pure, [], 0, 0⟩), (⟨(some 44), (.iaddrS 1 (.t 42) (.t 43)), none⟩, ⟨.seg, [], 0, 0⟩), (⟨(some 45), (.load false 1 (.t 44)), none⟩, ⟨.seg, [], 0, 0⟩), (⟨(some 46), (.faddr 3 (.t 3)), none⟩, ⟨.seg, [], 0, 0⟩), (⟨(some 47), (.load false 1 (.t 46)), none⟩, ⟨.seg, [], 0, 0⟩), (⟨(some 48), (.mov (.t 5)), none⟩, ⟨.pure, [], 0, 0⟩), (⟨(some 49), (.iaddrS 1 (.t 47) (.t 48)), none⟩, ⟨.seg, [], 0, 0⟩), (⟨(some 50), (.load false 1 (.t 49)), none⟩, ⟨.seg, [], 0, 0⟩), (⟨(some 51), (.bin .neq (.t 45) (.t 50)), none⟩, ⟨.pure, [], 0, 0⟩)]) (.cond (.t 51) (.seq (.ops [⟨(some 4), (.mov (.c (.bool false))), none⟩]) .ret) .skip))) (.ops [⟨(some 39), (.mov (.t 5)), none⟩, ⟨(some 40), (.bin .add (.t 39) (.c (.int .i64 1))), none⟩, ⟨(some 5), (.mov (.t 40)), none⟩])))))) (.seq (.ops [⟨(some 4), (.mov (.c (.bool true))), none⟩]) .ret)))), false⟩
theorem e20 : T 20 = some c20 := by kernel_rfl
/- 21: hopmesh/hopmeshref11.Channel -/
def c21 : Fun1 := ⟨[(.tmp 6), (.tmp 7)], (.seq (.ops [⟨(some 3), (.box (.t 0)), none⟩, ⟨(some 6), (.mov (.c (.int .i64 0))), none⟩, ⟨(some 7), (.mov (.c (.int .i64 0))), none⟩]) (.seq (.seq (.ops [⟨(some 8), (.load true 4 (.t 3)), none⟩, ⟨(some 9), (.call (.c (.fn 25 [])) [(.t 8)]), none⟩, ⟨(some 10), (.bin .neq (.t 9) (.c (.int .i64 0))), none⟩]) (.cond (.t 10) (.seq (.ops [⟨(some 6), (.mov (.c (.int .i64 0))), none⟩, ⟨(some 7), (.mov (.c (.int .i64 1))), none⟩]) .ret) .skip)) (.seq (.seq (.ops [⟨(some 11), (.mov (.t 1)), none⟩, ⟨(some 12), (.faddr 1 (.t 3)), none⟩, ⟨(some 13), (.load false 1 (.t 12)), none⟩, ⟨(some 14), (.bin .lss (.t 11) (.t 13)), none⟩, ⟨(some 15), (.mov (.t 14)), none⟩, ⟨(some 16), (.mov (.t 1)), (some (15, false))⟩, ⟨(some 17), (.faddr 2 (.t 3)), (some (15, false))⟩, ⟨(some 18), (.load false 1 (.t 17)), (some (15, false))⟩, ⟨(some 19), (.bin .geq (.t 16) (.t 18)), (some (15, false))⟩, ⟨(some 20), (.pick (.t 15) (.c (.bool true)) (.t 19)), none⟩]) (.cond (.t 20) (.seq (.ops [⟨(some 6), (.mov (.c (.int .i64 0))), none⟩, ⟨(some 7), (.mov (.c (.int .i64 12))), none⟩]) .ret) .skip)) (.seq (.seq (.ops [⟨(some 21), (.mov (.t 2)), none⟩, ⟨(some 22), (.bin .lss (.t 21) (.c (.int .i64 0))), none⟩, ⟨(some 23), (.mov (.t 22)), none⟩, ⟨(some 24), (.mov (.t 2)), (some (23, false))⟩, ⟨(some 25), (.faddr 3 (.t 3)), (some (23, false))⟩, ⟨(some 26), (.load false 1 (.t 25)), (some (23, false))⟩, ⟨(some 27), (.len (.t 26)), (some (23, false))⟩, ⟨(some 28), (.bin .geq (.t 24) (.t 27)), (some (23, false))⟩, ⟨(some 29), (.pick (.t 23) (.c (.bool true)) (.t 28)), none⟩]) (.cond (.t 29) (.seq (.ops [⟨(some 6), (.mov (.c (.int .i64 0))), none⟩, ⟨(some 7), (.mov (.c (.int .i64 2))), none⟩]) .ret) .skip)) (.seq (.drawn [(⟨(some 30), (.faddr 3 (.t 3)), none⟩, ⟨.seg, [], 0, 0⟩), (⟨(some 31), (.load false 1 (.t 30)), none⟩, ⟨.seg, [], 0, 0⟩), (⟨(some 32), (.mov (.t 1)), none⟩, ⟨.pure, [], 0, 0⟩), (⟨(some 33), (.mov (.t 2)), none⟩, ⟨.pure, [], 0, 0⟩), (⟨(some 34), (.bin .add (.t 32) (.t 33)), none⟩, ⟨.pure, [], 0, 0⟩), (⟨(some 35), (.faddr 3 (.t 3)), none⟩, ⟨.seg, [], 0, 0⟩), (⟨(some 36), (.load false 1 (.t 35)), none⟩, ⟨.seg, [], 0, 0⟩), (⟨(some 37), (.len (.t 36)), none⟩, ⟨.seg, [], 0, 0⟩), (⟨(some 38), (.bin .rem (.t 34) (.t 37)), none⟩, ⟨.pure, [], 0, 0⟩), (⟨(some 39), (.iaddrS 1 (.t 31) (.t 38)), none⟩, ⟨.bar, [], 0, 0⟩), (⟨(some 40), (.load false 1 (.t 39)), none⟩, ⟨.bar, [], 0, 0⟩), (⟨(some 6), (.mov (.t 40)), none⟩, ⟨.pure, [], 0, 0⟩), (⟨(some 7), (.mov (.c (.int .i64 0))), none⟩, ⟨.pure, [], 0, 0⟩)]) .ret))))), false⟩
theorem e21 : T 21 = some c21 := by kernel_rfl
/- 22: hopmesh/hop.Meet -/
def c22 : Fun1 := ⟨[(.tmp 8), (.tmp 9)], (.seq (.ops [⟨(some 4), (.box (.t 0)), none⟩, ⟨(some 8), (.mov (.c (.bool false))), none⟩, ⟨(some 9), (.mov (.c (.int .i64 0))), none⟩]) (.seq (.ops [⟨(some 15), (.load true 4 (.t 4)), none⟩, ⟨(some 16), (.mov (.t 1)), none⟩, ⟨(some 17), (.mov (.t 2)), none⟩, ⟨(some 18), (.call (.c (.fn 12 [])) [(.t 15), (.t 16), (.t 17)]), none⟩, ⟨(some 14), (.mov (.t 18)), none⟩, ⟨(some 19), (.extract (.t 14) 0), none⟩, ⟨(some 20), (.extract (.t 14) 1), none⟩, ⟨(some 10), (.mov (.t 19)), none⟩, ⟨(some 11), (.mov (.t 20)), none⟩]) (.seq (.ops [⟨(some 22), (.load true 4 (.t 4)), none⟩, ⟨(some 23), (.mov (.t 1)), none⟩, ⟨(some 24), (.mov (.t 3)), none⟩, ⟨(some 25), (.call (.c (.fn 12 [])) [(.t 22), (.t 23), (.t 24)]), none⟩, ⟨(some 21), (.mov (.t 25)), none⟩, ⟨(some 26), (.extract (.t 21) 0), none⟩, ⟨(some 27), (.extract (.t 21) 1), none⟩, ⟨(some 12), (.mov (.t 26)), none⟩, ⟨(some 13), (.mov (.t 27)), none⟩]) (.seq (.seq (.ops [⟨(some 28), (.mov (.t 11)), none⟩, ⟨(some 29), (.bin .eql (.t 28) (.c (.int .i64 0))), none⟩]) (.cond (.t 29) (.ops [⟨(some 30), (.mov (.t 13)), none⟩, ⟨(some 11), (.mov (.t 30)), none⟩]) .skip)) (.seq (.ops [⟨(some 31), (.mov (.t 11)), none⟩, ⟨(some 32), (.bin .eql (.t 31) (.c (.int .i64 0))), none⟩, ⟨(some 33), (.mov (.t 32)), none⟩, ⟨(some 34), (.mov (.t 10)), (some (33, true))⟩, ⟨(some 35), (.mov (.t 12)), (some (33, true))⟩, ⟨(some 36), (.bin .eql (.t 34) (.t 35)), (some (33, true))⟩, ⟨(some 37), (.pick (.t 33) (.t 36) (.c (.bool false))), none⟩, ⟨(some 38), (.mov (.t 11)), none⟩, ⟨(some 8), (.mov (.t 37)), none⟩, ⟨(some 9), (.mov (.t 38)), none⟩]) .ret))))), false⟩
theorem e22 : T 22 = some c22 := by kernel_rfl
/- 23: hopmesh/hopmeshref11.Meet -/
def c23 : Fun1 := ⟨[(.tmp 8), (.tmp 9)], (.seq (.ops [⟨(some 4), (.box (.t 0)), none⟩, ⟨(some 8), (.mov (.c (.bool false))), none⟩, ⟨(some 9), (.mov (.c (.int .i64 0))), none⟩]) (.seq (.ops [⟨(some 14), (.load true 4 (.t 4)), none⟩, ⟨(some 15), (.mov (.t 1)), none⟩, ⟨(some 16), (.mov (.t 2)), none⟩, ⟨(some 17), (.call (.c (.fn 21 [])) [(.t 14), (.t 15), (.t 16)]), none⟩, ⟨(some 13), (.mov (.t 17)), none⟩, ⟨(some 18), (.extract (.t 13) 0), none⟩, ⟨(some 19), (.extract (.t 13) 1), none⟩, ⟨(some 10), (.mov (.t 18)), none⟩, ⟨(some 11), (.mov (.t 19)), none⟩]) (.seq (.seq (.ops [⟨(some 20), (.mov (.t 11)), none⟩, ⟨(some 21), (.bin .neq (.t 20) (.c (.int .i64 0))), none⟩]) (.cond (.t 21) (.seq (.ops [⟨(some 22), (.mov (.t 11)), none⟩, ⟨(some 8), (.mov (.c (.bool false))), none⟩, ⟨(some 9), (.mov (.t 22)), none⟩]) .ret) .skip)) (.seq (.ops [⟨(some 24), (.load true 4 (.t 4)), none⟩, ⟨(some 25), (.mov (.t 1)), none⟩, ⟨(some 26), (.mov (.t 3)), none⟩, ⟨(some 27), (.call (.c (.fn 21 [])) [(.t 24), (.t 25), (.t 26)]), none⟩, ⟨(some 23), (.mov (.t 27)), none⟩, ⟨(some 28), (.extract (.t 23) 0), none⟩, ⟨(some 29), (.extract (.t 23) 1), none⟩, ⟨(some 12), (.mov (.t 28)), none⟩, ⟨(some 11), (.mov (.t 29)), none⟩]) (.seq (.seq (.ops [⟨(some 30), (.mov (.t 11)), none⟩, ⟨(some 31), (.bin .neq (.t 30) (.c (.int .i64 0))), none⟩]) (.cond (.t 31) (.seq (.ops [⟨(some 32), (.mov (.t 11)), none⟩, ⟨(some 8), (.mov (.c (.bool false))), none⟩, ⟨(some 9), (.mov (.t 32)), none⟩]) .ret) .skip)) (.seq (.ops [⟨(some 33), (.mov (.t 10)), none⟩, ⟨(some 34), (.mov (.t 12)), none⟩, ⟨(some 35), (.bin .eql (.t 33) (.t 34)), none⟩, ⟨(some 8), (.mov (.t 35)), none⟩, ⟨(some 9), (.mov (.c (.int .i64 0))), none⟩]) .ret)))))), false⟩
theorem e23 : T 23 = some c23 := by kernel_rfl
/- 24: hopmesh/hop.Check -/
def c24 : Fun1 := ⟨[(.tmp 2)], (.seq (.ops [⟨(some 1), (.box (.t 0)), none⟩, ⟨(some 2), (.mov (.c (.int .i64 0))), none⟩]) (.seq (.seq (.ops [⟨(some 3), (.faddr 0 (.t 1)), none⟩, ⟨(some 4), (.load false 1 (.t 3)), none⟩, ⟨(some 5), (.bin .lss (.t 4) (.c (.int .i64 0))), none⟩, ⟨(some 6), (.mov (.t 5)), none⟩, ⟨(some 7), (.faddr 0 (.t 1)), (some (6, false))⟩, ⟨(some 8), (.load false 1 (.t 7)), (some (6, false))⟩, ⟨(some 9), (.bin .geq (.t 8) (.c (.int .i64 256))), (some (6, false))⟩, ⟨(some 10), (.pick (.t 6) (.c (.bool true)) (.t 9)), none⟩, ⟨(some 11), (.mov (.t 10)), none⟩, ⟨(some 12), (.faddr 1 (.t 1)), (some (11, false))⟩, ⟨(some 13), (.load false 1 (.t 12)), (some (11, false))⟩, ⟨(some 14), (.bin .lss (.t 13) (.c (.int .i64 0))), (some (11, false))⟩, ⟨(some 15), (.pick (.t 11) (.c (.bool true)) (.t 14)), none⟩, ⟨(some 16), (.mov (.t 15)), none⟩, ⟨(some 17), (.faddr 1 (.t 1)), (some (16, false))⟩, ⟨(some 18), (.load false 1 (.t 17)), (some (16, false))⟩, ⟨(some 19), (.faddr 2 (.t 1)), (some (16, false))⟩, ⟨(some 20), (.load false 1 (.t 19)), (some (16, false))⟩, ⟨(some 21), (.bin .geq (.t 18) (.t 20)), (some (16, false))⟩, ⟨(some 22), (.pick (.t 16) (.c (.bool true)) (.t 21)), none⟩, ⟨(some 23), (.mov (.t 22)), none⟩, ⟨(some 24), (.faddr 2 (.t 1)), (some (23, false))⟩, ⟨(some 25), (.load false 1 (.t 24)), (some (23, false))⟩, ⟨(some 26), (.bin .gtr (.t 25) (.c (.int .i64 109951163))), (some (23, false))⟩, ⟨(some 27), (.pick (.t 23) (.c (.bool true)) (.t 26)), none⟩, ⟨(some 28), (.mov (.t 27)), none⟩, ⟨(some 29), (.faddr 3 (.t 1)), (some (28, false))⟩, ⟨(some 30), (.load false 1 (.t 29)), (some (28, false))⟩, ⟨(some 31), (.call (.c (.fn 37 [])) [(.t 30)]), (some (28, false))⟩, ⟨(some 32), (.notB (.t 31)), (some (28, false))⟩, ⟨(some 33), (.pick (.t 28) (.c (.bool true)) (.t 32)), none⟩]) (.cond (.t 33) (.seq (.ops [⟨(some 2), (.mov (.c (.int .i64 1))), none⟩]) .ret) .skip)) (.seq (.ops [⟨(some 2), (.mov (.c (.int .i64 0))), none⟩]) .ret))), false⟩
theorem e24 : T 24 = some c24 := by kernel_rfl
/- 25: hopmesh/hopmeshref11.Check -/
def c25 : Fun1 := ⟨[(.tmp 2)], (.seq (.ops [⟨(some 1), (.box (.t 0)), none⟩, ⟨(some 2), (.mov (.c (.int .i64 0))), none⟩]) (.seq (.seq (.ops [⟨(some 3), (.faddr 0 (.t 1)), none⟩, ⟨(some 4), (.load false 1 (.t 3)), none⟩, ⟨(some 5), (.bin .lss (.t 4) (.c (.int .i64 0))), none⟩, ⟨(some 6), (.mov (.t 5)), none⟩, ⟨(some 7), (.faddr 0 (.t 1)), (some (6, false))⟩, ⟨(some 8), (.load false 1 (.t 7)), (some (6, false))⟩, ⟨(some 9), (.bin .gtr (.t 8) (.c (.int .i64 255))), (some (6, false))⟩, ⟨(some 10), (.pick (.t 6) (.c (.bool true)) (.t 9)), none⟩, ⟨(some 11), (.mov (.t 10)), none⟩, ⟨(some 12), (.faddr 1 (.t 1)), (some (11, false))⟩, ⟨(some 13), (.load false 1 (.t 12)), (some (11, false))⟩, ⟨(some 14), (.bin .lss (.t 13) (.c (.int .i64 0))), (some (11, false))⟩, ⟨(some 15), (.pick (.t 11) (.c (.bool true)) (.t 14)), none⟩, ⟨(some 16), (.mov (.t 15)), none⟩, ⟨(some 17), (.faddr 1 (.t 1)), (some (16, false))⟩, ⟨(some 18), (.load false 1 (.t 17)), (some (16, false))⟩, ⟨(some 19), (.faddr 2 (.t 1)), (some (16, false))⟩, ⟨(some 20), (.load false 1 (.t 19)), (some (16, false))⟩, ⟨(some 21), (.bin .geq (.t 18) (.t 20)), (some (16, false))⟩, ⟨(some 22), (.pick (.t 16) (.c (.bool true)) (.t 21)), none⟩, ⟨(some 23), (.mov (.t 22)), none⟩, ⟨(some 24), (.faddr 2 (.t 1)), (some (23, false))⟩, ⟨(some 25), (.load false 1 (.t 24)), (some (23, false))⟩, ⟨(some 26), (.bin .gtr (.t 25) (.c (.int .i64 109951163))), (some (23, false))⟩, ⟨(some 27), (.pick (.t 23) (.c (.bool true)) (.t 26)), none⟩, ⟨(some 28), (.mov (.t 27)), none⟩, ⟨(some 29), (.faddr 3 (.t 1)), (some (28, false))⟩, ⟨(some 30), (.load false 1 (.t 29)), (some (28, false))⟩, ⟨(some 31), (.call (.c (.fn 43 [])) [(.t 30)]), (some (28, false))⟩, ⟨(some 32), (.notB (.t 31)), (some (28, false))⟩, ⟨(some 33), (.pick (.t 28) (.c (.bool true)) (.t 32)), none⟩]) (.cond (.t 33) (.seq (.ops [⟨(some 2), (.mov (.c (.int .i64 1))), none⟩]) .ret) .skip)) (.seq (.ops [⟨(some 2), (.mov (.c (.int .i64 0))), none⟩]) .ret))), false⟩
theorem e25 : T 25 = some c25 := by kernel_rfl
/- 26: hopmesh/hop.Newer -/
def c26 : Fun1 := ⟨[(.tmp 4)], (.seq (.ops [⟨(some 4), (.mov (.c (.bool false))), none⟩]) (.seq (.seq (.ops [⟨(some 6), (.mov (.t 0)), none⟩, ⟨(some 7), (.mov (.t 1)), none⟩, ⟨(some 8), (.minI [(.t 6), (.t 7)]), none⟩, ⟨(some 9), (.bin .lss (.t 8) (.c (.int .i64 0))), none⟩, ⟨(some 10), (.mov (.t 9)), none⟩, ⟨(some 11), (.mov (.t 0)), (some (10, false))⟩, ⟨(some 12), (.mov (.t 1)), (some (10, false))⟩, ⟨(some 13), (.maxI [(.t 11), (.t 12)]), (some (10, false))⟩, ⟨(some 14), (.bin .geq (.t 13) (.c (.int .i64 256))), (some (10, false))⟩, ⟨(some 15), (.pick (.t 10) (.c (.bool true)) (.t 14)), none⟩]) (.cond (.t 15) (.seq (.ops [⟨(some 4), (.mov (.c (.bool false))), none⟩]) .ret) .skip)) (.seq (.ops [⟨(some 16), (.mov (.t 0)), none⟩, ⟨(some 17), (.convI .u8 (.t 16)), none⟩, ⟨(some 18), (.mov (.t 1)), none⟩, ⟨(some 19), (.convI .u8 (.t 18)), none⟩, ⟨(some 20), (.bin .sub (.t 17) (.t 19)), none⟩, ⟨(some 5), (.mov (.t 20)), none⟩]) (.seq (.ops [⟨(some 21), (.mov (.t 5)), none⟩, ⟨(some 22), (.bin .geq (.t 21) (.c (.int .u8 1))), none⟩, ⟨(some 23), (.mov (.t 22)), none⟩, ⟨(some 24), (.mov (.t 5)), (some (23, true))⟩, ⟨(some 25), (.bin .leq (.t 24) (.c (.int .u8 127))), (some (23, true))⟩, ⟨(some 26), (.pick (.t 23) (.t 25) (.c (.bool false))), none⟩, ⟨(some 4), (.mov (.t 26)), none⟩]) .ret)))), false⟩
theorem e26 : T 26 = some c26 := by kernel_rfl
/- 27: hopmesh/hop.CheckAll -/
def c27 : Fun1 := ⟨[(.tmp 2)], (.seq (.ops [⟨(some 2), (.mov (.c (.int .i64 0))), none⟩]) (.seq (.seq (.ops [⟨(some 5), (.mov (.t 0)), none⟩, ⟨(some 6), (.len (.t 5)), none⟩, ⟨(some 7), (.bin .lss (.t 6) (.c (.int .i64 1))), none⟩, ⟨(some 8), (.mov (.t 7)), none⟩, ⟨(some 9), (.mov (.t 0)), (some (8, false))⟩, ⟨(some 10), (.len (.t 9)), (some (8, false))⟩, ⟨(some 11), (.bin .gtr (.t 10) (.c (.int .i64 1024))), (some (8, false))⟩, ⟨(some 12), (.pick (.t 8) (.c (.bool true)) (.t 11)), none⟩]) (.cond (.t 12) (.seq (.ops [⟨(some 2), (.mov (.c (.int .i64 1))), none⟩]) .ret) .skip)) (.seq (.seq (.ops [⟨(some 13), (.mov (.t 0)), none⟩, ⟨(some 14), (.len (.t 13)), none⟩, ⟨(some 15), (.mov (.c (.int .i64 0))), none⟩]) (.block 0 (.loop ⟨[0, 13, 14, 15], []⟩ (.seq (.ops [⟨(some 16), (.bin .lss (.t 15) (.t 14)), none⟩]) (.seq (.cond (.t 16) .skip (.exit 0)) (.seq (.block 1 (.seq (.ops [⟨(some 17), (.mov (.t 15)), none⟩, ⟨(some 18), (.iaddrS 4 (.t 13) (.t 15)), none⟩, ⟨(some 19), (.load true 4 (.t 18)), none⟩, ⟨(some 4), (.alloc [(.int .i64 0), (.int .i64 0), (.int .i64 0), (.lst 0 [] true)]), none⟩, ⟨(some 3), (.mov (.t 17)), none⟩, ⟨none, (.store 4 (.t 4) (.t 19)), none⟩]) (.block 2 (.seq (.ops [⟨(some 21), (.load true 4 (.t 4)), none⟩, ⟨(some 22), (.call (.c (.fn 24 [])) [(.t 21)]), none⟩, ⟨(some 23), (.bin .neq (.t 22) (.c (.int .i64 0))), none⟩, ⟨(some 20), (.mov (.t 23)), none⟩]) (.cond (.t 20) (.seq (.ops [⟨(some 2), (.mov (.c (.int .i64 1))), none⟩]) .ret) (.seq (.drawn [(⟨(some 25), (.mov (.t 3)), none⟩, ⟨.pure, [], 0, 0⟩), (⟨(some 26), (.bin .gtr (.t 25) (.c (.int .i64 0))), none⟩, ⟨.pure, [], 0, 0⟩), (⟨(some 27), (.mov (.t 26)), none⟩, ⟨.pure, [], 0, 0⟩), (⟨(some 28), (.faddr 1 (.t 4)), (some (27, true))⟩, ⟨.seg, [], 0, 0⟩), (⟨(some 29), (.load false 1 (.t 28)), (some (27, true))⟩, ⟨.seg, [], 0, 0⟩), (⟨(some 30), (.mov (.t 0)), (some (27, true))⟩, ⟨.pure, [], 0, 0⟩), (⟨(some 31), (.mov (.t 3)), (some (27, true))⟩, ⟨.pure, [], 0, 0⟩), (⟨(some 32), (.bin .sub (.t 31) (.c (.int .i64 1))), (some (27, true))⟩, ⟨.pure, [], 0, 0⟩), (⟨(some 33), (.iaddrS 4 (.t 30) (.t 32)), (some (27, true))⟩, ⟨.seg, [], 0, 0⟩), (⟨(some 34), (.faddr 2 (.t 33)), (some (27, true))⟩, ⟨.seg, [], 0, 0⟩), (⟨(some 35), (.load false 1 (.t 34)), (some (27, true))⟩, ⟨.seg, [], 0, 0⟩), (⟨(some 36), (.bin .neq (.t 29) (.t 35)), (some (27, true))⟩, ⟨.pure, [], 0, 0⟩), (⟨(some 37), (.pick (.t 27) (.t 36) (.c (.bool false))), none⟩, ⟨.pure, [], 0, 0⟩), (⟨(some 24), (.mov (.t 37)), none⟩, ⟨.pure, [], 0, 0⟩)]) (.cond (.t 24) (.seq (.ops [⟨(some 2), (.mov (.c (.int .i64 5))), none⟩]) .ret) (.seq (.drawn [(⟨(some 39), (.mov (.t 3)), none⟩, ⟨.pure, [], 0, 0⟩), (⟨(some 40), (.bin .gtr (.t 39) (.c (.int .i64 0))), none⟩, ⟨.pure, [], 0, 0⟩), (⟨(some 41), (.mov (.t 40)), none⟩, ⟨.pure, [], 0, 0⟩), (⟨(some 42), (.faddr 0 (.t 4)), (some (41, true))⟩, ⟨.seg, [], 0, 0⟩), (⟨(some 43), (.load false 1 (.t 42)), (some (41, true))⟩, ⟨.seg, [], 0, 0⟩), (⟨(some 44), (.mov (.t 0)), (some (41, true))⟩, ⟨.pure, [], 0, 0⟩), (⟨(some 45), (.mov (.t 3)), (some (41, true))⟩, ⟨.pure, [], 0, 0⟩), (⟨(some 46), (.bin .sub (.t 45) (.c (.int .i64 1))), (some (41, true))⟩, ⟨.pure, [], 0, 0⟩), (⟨(some 47), (.iaddrS 4 (.t 44) (.t 46)), (some (41, true))⟩, ⟨.seg, [], 0, 0⟩), (⟨(some 48), (.faddr 0 (.t 47)), (some (41, true))⟩, ⟨.seg, [], 0, 0⟩), (⟨(some 49), (.load false 1 (.t 48)), (some (41, true))⟩, ⟨.seg, [], 0, 0⟩), (⟨(some 50), (.bin .add (.t 49) (.c (.int .i64 1))), (some (41, true))⟩, ⟨.pure, [], 0, 0⟩), (⟨(some 51), (.bin .rem (.t 50) (.c (.int .i64 256))), (some (41, true))⟩, ⟨.pure, [], 0, 0⟩), (⟨(some 52), (.bin .neq (.t 43) (.t 51)), (some (41, true))⟩, ⟨.pure, [], 0, 0⟩), (⟨(some 53), (.pick (.t 41) (.t 52) (.c (.bool false))), none⟩, ⟨.pure, [], 0, 0⟩), (⟨(some 38), (.mov (.t 53)), none⟩, ⟨.pure, [], 0, 0⟩)]) (.cond (.t 38) (.seq (.ops [⟨(some 2), (.mov (.c (.int .i64 23))), none⟩]) .ret) .skip))))))))) (.ops [⟨(some 54), (.bin .add (.t 15) (.c (.int .i64 1))), none⟩, ⟨(some 15), (.mov (.t 54)), none⟩]))))))) (.seq (.ops [⟨(some 2), (.mov (.c (.int .i64 0))), none⟩]) .ret)))), false⟩
theorem e27 : T 27 = some c27 := by kernel_rfl
/- 28: hopmesh/hopmeshlaw11.few -/
def c28 : Fun1 := ⟨[(.tmp 2)], (.seq (.ops [⟨(some 2), (.mov (.c (.bool false))), none⟩]) (.seq (.ops [⟨(some 3), (.mov (.t 0)), none⟩, ⟨(some 4), (.len (.t 3)), none⟩, ⟨(some 5), (.bin .leq (.t 4) (.c (.int .i64 10))), none⟩, ⟨(some 6), (.mov (.t 5)), none⟩, ⟨(some 7), (.mov (.t 0)), (some (6, true))⟩, ⟨(some 8), (.call (.c (.fn 33 [])) [(.t 7), (.c (.fn 46 []))]), (some (6, true))⟩, ⟨(some 9), (.notB (.t 8)), (some (6, true))⟩, ⟨(some 10), (.pick (.t 6) (.t 9) (.c (.bool false))), none⟩, ⟨(some 2), (.mov (.t 10)), none⟩]) .ret)), false⟩
theorem e28 : T 28 = some c28 := by kernel_rfl
/- 29: hopmesh/hop.InForce -/
def c29 : Fun1 := ⟨[(.cell 4 true 4), (.tmp 5)], (.seq (.ops [⟨(some 3), (.box (.t 1)), none⟩, ⟨(some 4), (.alloc [(.int .i64 0), (.int .i64 0), (.int .i64 0), (.lst 0 [] true)]), none⟩, ⟨(some 5), (.mov (.c (.int .i64 0))), none⟩]) (.seq (.seq (.ops [⟨(some 9), (.mov (.t 0)), none⟩, ⟨(some 10), (.call (.c (.fn 27 [])) [(.t 9)]), none⟩, ⟨(some 6), (.mov (.t 10)), none⟩]) (.seq (.ops [⟨(some 11), (.mov (.t 6)), none⟩, ⟨(some 12), (.bin .neq (.t 11) (.c (.int .i64 0))), none⟩]) (.cond (.t 12) (.seq (.ops [⟨(some 13), (.build [(.int .i64 0), (.int .i64 0), (.int .i64 0), (.lst 0 [] true)] []), none⟩, ⟨(some 14), (.mov (.t 6)), none⟩, ⟨none, (.store 4 (.t 4) (.t 13)), none⟩, ⟨(some 5), (.mov (.t 14)), none⟩]) .ret) .skip))) (.seq (.ops [⟨(some 15), (.mov (.t 0)), none⟩, ⟨(some 16), (.mkfn 48 [(.t 3)]), none⟩, ⟨(some 17), (.call (.c (.fn 47 [])) [(.t 15), (.t 16)]), none⟩, ⟨(some 7), (.mov (.t 17)), none⟩]) (.seq (.seq (.ops [⟨(some 18), (.mov (.t 7)), none⟩, ⟨(some 19), (.bin .lss (.t 18) (.c (.int .i64 0))), none⟩]) (.cond (.t 19) (.seq (.ops [⟨(some 20), (.build [(.int .i64 0), (.int .i64 0), (.int .i64 0), (.lst 0 [] true)] []), none⟩, ⟨none, (.store 4 (.t 4) (.t 20)), none⟩, ⟨(some 5), (.mov (.c (.int .i64 7))), none⟩]) .ret) .skip)) (.seq (.ops [⟨(some 21), (.mov (.t 0)), none⟩, ⟨(some 22), (.mov (.t 7)), none⟩, ⟨(some 23), (.iaddrS 4 (.t 21) (.t 22)), none⟩, ⟨(some 24), (.load true 4 (.t 23)), none⟩, ⟨(some 8), (.alloc [(.int .i64 0), (.int .i64 0), (.int .i64 0), (.lst 0 [] true)]), none⟩, ⟨none, (.store 4 (.t 8) (.t 24)), none⟩]) (.seq (.ops [⟨(some 25), (.faddr 3 (.t 8)), none⟩, ⟨(some 26), (.load false 1 (.t 25)), none⟩, ⟨(some 27), (.call (.c (.fn 15 [])) [(.t 26)]), none⟩, ⟨(some 28), (.faddr 3 (.t 8)), none⟩, ⟨none, (.store 1 (.t 28) (.t 27)), none⟩]) (.seq (.ops [⟨(some 29), (.load true 4 (.t 8)), none⟩, ⟨none, (.store 4 (.t 4) (.t 29)), none⟩, ⟨(some 5), (.mov (.c (.int .i64 0))), none⟩]) .ret))))))), false⟩
theorem e29 : T 29 = some c29 := by kernel_rfl
/- 30: hopmesh/hopmeshlaw11.cp -/
def c30 : Fun1 := ⟨[(.tmp 2)], (.seq (.ops [⟨(some 2), (.mov (.c (.lst 0 [] true))), none⟩]) (.seq (.ops [⟨(some 5), (.mov (.t 0)), none⟩, ⟨(some 6), (.callK 49 1 [(.t 5)]), none⟩, ⟨(some 3), (.mov (.t 6)), none⟩]) (.seq (.seq (.ops [⟨(some 7), (.mov (.t 3)), none⟩, ⟨(some 8), (.len (.t 7)), none⟩, ⟨(some 9), (.mov (.c (.int .i64 0))), none⟩]) (.block 0 (.loop ⟨[3, 8, 9], []⟩ (.seq (.ops [⟨(some 10), (.bin .lss (.t 9) (.t 8)), none⟩]) (.seq (.cond (.t 10) .skip (.exit 0)) (.seq (.block 1 (.seq (.ops [⟨(some 11), (.mov (.t 9)), none⟩, ⟨(some 4), (.mov (.t 11)), none⟩]) (.ops [⟨(some 12), (.mov (.t 3)), none⟩, ⟨(some 13), (.mov (.t 4)), none⟩, ⟨(some 14), (.mov (.t 3)), none⟩, ⟨(some 15), (.mov (.t 4)), none⟩, ⟨(some 16), (.iaddrS 4 (.t 14) (.t 15)), none⟩, ⟨(some 17), (.faddr 3 (.t 16)), none⟩, ⟨(some 18), (.load false 1 (.t 17)), none⟩, ⟨(some 19), (.call (.c (.fn 15 [])) [(.t 18)]), none⟩, ⟨(some 20), (.iaddrS 4 (.t 12) (.t 13)), none⟩, ⟨(some 21), (.faddr 3 (.t 20)), none⟩, ⟨none, (.store 1 (.t 21) (.t 19)), none⟩]))) (.ops [⟨(some 22), (.bin .add (.t 9) (.c (.int .i64 1))), none⟩, ⟨(some 9), (.mov (.t 22)), none⟩]))))))) (.seq (.ops [⟨(some 23), (.mov (.t 3)), none⟩, ⟨(some 2), (.mov (.t 23)), none⟩]) .ret)))), false⟩
theorem e30 : T 30 = some c30 := by kernel_rfl
/- 31: hopmesh/hopmeshref11.InForce -/
def c31 : Fun1 := ⟨[(.cell 4 true 4), (.tmp 5)], (.seq (.ops [⟨(some 4), (.alloc [(.int .i64 0), (.int .i64 0), (.int .i64 0), (.lst 0 [] true)]), none⟩, ⟨(some 5), (.mov (.c (.int .i64 0))), none⟩]) (.seq (.seq (.ops [⟨(some 8), (.mov (.t 0)), none⟩, ⟨(some 9), (.call (.c (.fn 32 [])) [(.t 8)]), none⟩, ⟨(some 6), (.mov (.t 9)), none⟩]) (.seq (.ops [⟨(some 10), (.mov (.t 6)), none⟩, ⟨(some 11), (.bin .neq (.t 10) (.c (.int .i64 0))), none⟩]) (.cond (.t 11) (.seq (.ops [⟨(some 12), (.build [(.int .i64 0), (.int .i64 0), (.int .i64 0), (.lst 0 [] true)] []), none⟩, ⟨(some 13), (.mov (.t 6)), none⟩, ⟨none, (.store 4 (.t 4) (.t 12)), none⟩, ⟨(some 5), (.mov (.t 13)), none⟩]) .ret) .skip))) (.seq (.seq (.ops [⟨(some 7), (.mov (.c (.int .i64 0))), none⟩]) (.block 0 (.loop ⟨[0, 1, 4, 7], []⟩ (.seq (.seq (.ops [⟨(some 14), (.mov (.t 7)), none⟩, ⟨(some 15), (.mov (.t 0)), none⟩, ⟨(some 16), (.len (.t 15)), none⟩, ⟨(some 17), (.bin .lss (.t 14) (.t 16)), none⟩]) (.cond (.t 17) .skip (.exit 0))) (.seq (.block 1 (.seq (.ops [⟨(some 20), (.mov (.t 0)), none⟩, ⟨(some 21), (.mov (.t 7)), none⟩, ⟨(some 22), (.iaddrS 4 (.t 20) (.t 21)), none⟩, ⟨(some 23), (.faddr 1 (.t 22)), none⟩, ⟨(some 24), (.load false 1 (.t 23)), none⟩, ⟨(some 25), (.mov (.t 1)), none⟩, ⟨(some 26), (.bin .leq (.t 24) (.t 25)), none⟩, ⟨(some 27), (.mov (.t 26)), none⟩, ⟨(some 28), (.mov (.t 1)), (some (27, true))⟩, ⟨(some 29), (.mov (.t 0)), (some (27, true))⟩, ⟨(some 30), (.mov (.t 7)), (some (27, true))⟩, ⟨(some 31), (.iaddrS 4 (.t 29) (.t 30)), (some (27, true))⟩, ⟨(some 32), (.faddr 2 (.t 31)), (some (27, true))⟩, ⟨(some 33), (.load false 1 (.t 32)), (some (27, true))⟩, ⟨(some 34), (.bin .lss (.t 28) (.t 33)), (some (27, true))⟩, ⟨(some 35), (.pick (.t 27) (.t 34) (.c (.bool false))), none⟩]) (.cond (.t 35) (.seq (.ops [⟨(some 36), (.mov (.t 0)), none⟩, ⟨(some 37), (.mov (.t 7)), none⟩, ⟨(some 38), (.iaddrS 4 (.t 36) (.t 37)), none⟩, ⟨(some 39), (.load true 4 (.t 38)), none⟩, ⟨none, (.store 4 (.t 4) (.t 39)), none⟩, ⟨(some 5), (.mov (.c (.int .i64 0))), none⟩]) .ret) .skip))) (.ops [⟨(some 18), (.mov (.t 7)), none⟩, ⟨(some 19), (.bin .add (.t 18) (.c (.int .i64 1))), none⟩, ⟨(some 7), (.mov (.t 19)), none⟩])))))) (.seq (.ops [⟨(some 40), (.build [(.int .i64 0), (.int .i64 0), (.int .i64 0), (.lst 0 [] true)] []), none⟩, ⟨none, (.store 4 (.t 4) (.t 40)), none⟩, ⟨(some 5), (.mov (.c (.int .i64 7))), none⟩]) .ret)))), false⟩
theorem e31 : T 31 = some c31 := by kernel_rfl
/- 32: hopmesh/hopmeshref11.CheckAll -/
def c32 : Fun1 := ⟨[(.tmp 2)], (.seq (.ops [⟨(some 2), (.mov (.c (.int .i64 0))), none⟩]) (.seq (.seq (.ops [⟨(some 4), (.mov (.t 0)), none⟩, ⟨(some 5), (.len (.t 4)), none⟩, ⟨(some 6), (.bin .lss (.t 5) (.c (.int .i64 1))), none⟩, ⟨(some 7), (.mov (.t 6)), none⟩, ⟨(some 8), (.mov (.t 0)), (some (7, false))⟩, ⟨(some 9), (.len (.t 8)), (some (7, false))⟩, ⟨(some 10), (.bin .gtr (.t 9) (.c (.int .i64 1024))), (some (7, false))⟩, ⟨(some 11), (.pick (.t 7) (.c (.bool true)) (.t 10)), none⟩]) (.cond (.t 11) (.seq (.ops [⟨(some 2), (.mov (.c (.int .i64 1))), none⟩]) .ret) .skip)) (.seq (.seq (.ops [⟨(some 3), (.mov (.c (.int .i64 0))), none⟩]) (.block 0 (.loop ⟨[0, 3], []⟩ (.seq (.seq (.ops [⟨(some 12), (.mov (.t 3)), none⟩, ⟨(some 13), (.mov (.t 0)), none⟩, ⟨(some 14), (.len (.t 13)), none⟩, ⟨(some 15), (.bin .lss (.t 12) (.t 14)), none⟩]) (.cond (.t 15) .skip (.exit 0))) (.seq (.block 1 (.seq (.seq (.ops [⟨(some 18), (.mov (.t 0)), none⟩, ⟨(some 19), (.mov (.t 3)), none⟩, ⟨(some 20), (.iaddrS 4 (.t 18) (.t 19)), none⟩, ⟨(some 21), (.load true 4 (.t 20)), none⟩, ⟨(some 22), (.call (.c (.fn 25 [])) [(.t 21)]), none⟩, ⟨(some 23), (.bin .neq (.t 22) (.c (.int .i64 0))), none⟩]) (.cond (.t 23) (.seq (.ops [⟨(some 2), (.mov (.c (.int .i64 1))), none⟩]) .ret) .skip)) (.seq (.seq (.drawn [(⟨(some 24), (.mov (.t 3)), none⟩, ⟨.pure, [], 0, 0⟩), (⟨(some 25), (.bin .gtr (.t 24) (.c (.int .i64 0))), none⟩, ⟨.pure, [], 0, 0⟩), (⟨(some 26), (.mov (.t 25)), none⟩, ⟨.pure, [], 0, 0⟩), (⟨(some 27), (.mov (.t 0)), (some (26, true))⟩, ⟨.pure, [], 0, 0⟩), (⟨(some 28), (.mov (.t 3)), (some (26, true))⟩, ⟨.pure, [], 0, 0⟩), (⟨(some 29), (.iaddrS 4 (.t 27) (.t 28)), (some (26, true))⟩, ⟨.seg, [], 0, 0⟩), (⟨(some 30), (.faddr 1 (.t 29)), (some (26, true))⟩, ⟨.seg, [], 0, 0⟩), (⟨(some 31), (.load false 1 (.t 30)), (some (26, true))⟩, ⟨.seg, [], 0, 0⟩), (⟨(some 32), (.mov (.t 0)), (some (26, true))⟩, ⟨.pure, [], 0, 0⟩), (⟨(some 33), (.mov (.t 3)), (some (26, true))⟩, ⟨.pure, [], 0, 0⟩), (⟨(some 34), (.bin .sub (.t 33) (.c (.int .i64 1))), (some (26, true))⟩, ⟨.pure, [], 0, 0⟩), (⟨(some 35), (.iaddrS 4 (.t 32) (.t 34)), (some (26, true))⟩, ⟨.seg, [], 0, 0⟩), (⟨(some 36), (.faddr 2 (.t 35)), (some (26, true))⟩, ⟨.seg, [], 0, 0⟩), (⟨(some 37), (.load false 1 (.t 36)), (some (26, true))⟩, ⟨.seg, [], 0, 0⟩), (⟨(some 38), (.bin .neq (.t 31) (.t 37)), (some (26, true))⟩, ⟨.pure, [], 0, 0⟩), (⟨(some 39), (.pick (.t 26) (.t 38) (.c (.bool false))), none⟩, ⟨.pure, [], 0, 0⟩)]) (.cond (.t 39) (.seq (.ops [⟨(some 2), (.mov (.c (.int .i64 5))), none⟩]) .ret) .skip)) (.seq (.drawn [(⟨(some 40), (.mov (.t 3)), none⟩, ⟨.pure, [], 0, 0⟩), (⟨(some 41), (.bin .gtr (.t 40) (.c (.int .i64 0))), none⟩, ⟨.pure, [], 0, 0⟩), (⟨(some 42), (.mov (.t 41)), none⟩, ⟨.pure, [], 0, 0⟩), (⟨(some 43), (.mov (.t 0)), (some (42, true))⟩, ⟨.pure, [], 0, 0⟩), (⟨(some 44), (.mov (.t 3)), (some (42, true))⟩, ⟨.pure, [], 0, 0⟩), (⟨(some 45), (.iaddrS 4 (.t 43) (.t 44)), (some (42, true))⟩, ⟨.seg, [], 0, 0⟩), (⟨(some 46), (.faddr 0 (.t 45)), (some (42, true))⟩, ⟨.seg, [], 0, 0⟩), (⟨(some 47), (.load false 1 (.t 46)), (some (42, true))⟩, ⟨.seg, [], 0, 0⟩), (⟨(some 48), (.mov (.t 0)), (some (42, true))⟩, ⟨.pure, [], 0, 0⟩), (⟨(some 49), (.mov (.t 3)), (some (42, true))⟩, ⟨.pure, [], 0, 0⟩), (⟨(some 50), (.bin .sub (.t 49) (.c (.int .i64 1))), (some (42, true))⟩, ⟨.pure, [], 0, 0⟩), (⟨(some 51), (.iaddrS 4 (.t 48) (.t 50)), (some (42, true))⟩, ⟨.seg, [], 0, 0⟩), (⟨(some 52), (.faddr 0 (.t 51)), (some (42, true))⟩, ⟨.seg, [], 0, 0⟩), (⟨(some 53), (.load false 1 (.t 52)), (some (42, true))⟩, ⟨.seg, [], 0, 0⟩), (⟨(some 54), (.bin .add (.t 53) (.c (.int .i64 1))), (some (42, true))⟩, ⟨.pure, [], 0, 0⟩), (⟨(some 55), (.bin .rem (.t 54) (.c (.int .i64 256))), (some (42, true))⟩, ⟨.pure, [], 0, 0⟩), (⟨(some 56), (.bin .neq (.t 47) (.t 55)), (some (42, true))⟩, ⟨.pure, [], 0, 0⟩), (⟨(some 57), (.pick (.t 42) (.t 56) (.c (.bool false))), none⟩, ⟨.pure, [], 0, 0⟩)]) (.cond (.t 57) (.seq (.ops [⟨(some 2), (.mov (.c (.int .i64 23))), none⟩]) .ret) .skip))))) (.ops [⟨(some 16), (.mov (.t 3)), none⟩, ⟨(some 17), (.bin .add (.t 16) (.c (.int .i64 1))), none⟩, ⟨(some 3), (.mov (.t 17)), none⟩])))))) (.seq (.ops [⟨(some 2), (.mov (.c (.int .i64 0))), none⟩]) .ret)))), false⟩
theorem e32 : T 32 = some c32 := by kernel_rfl
/- 33: slices.ContainsFunc[[]hopmesh/api.HopList,hopmesh/api.HopList] -/
def c33 : Fun1 := ⟨[(.tmp 4)], (.seq (.ops [⟨(some 4), (.mov (.c (.bool false))), none⟩]) (.seq (.ops [⟨(some 5), (.mov (.t 0)), none⟩, ⟨(some 6), (.mov (.t 1)), none⟩, ⟨(some 7), (.call (.c (.fn 47 [])) [(.t 5), (.t 6)]), none⟩, ⟨(some 8), (.bin .geq (.t 7) (.c (.int .i64 0))), none⟩, ⟨(some 4), (.mov (.t 8)), none⟩]) .ret)), false⟩
theorem e33 : T 33 = some c33 := by kernel_rfl
/- 34: hopmesh/hopmeshlaw11.HopCovers$1 -/
def c34 : Fun1 := ⟨[(.tmp 3)], (.seq (.ops [⟨(some 2), (.box (.t 0)), none⟩, ⟨(some 3), (.mov (.c (.bool false))), none⟩]) (.seq (.ops [⟨(some 4), (.load true 4 (.t 1)), none⟩, ⟨(some 5), (.load true 4 (.t 2)), none⟩, ⟨(some 6), (.call (.c (.fn 20 [])) [(.t 4), (.t 5)]), none⟩, ⟨(some 3), (.mov (.t 6)), none⟩]) .ret)), false⟩
theorem e34 : T 34 = some c34 := by kernel_rfl
/- 35: hopmesh/hop.round -/
def c35 : Fun1 := ⟨[(.tmp 4)], (.seq (.ops [⟨(some 2), (.box (.t 0)), none⟩, ⟨(some 3), (.box (.t 1)), none⟩, ⟨(some 4), (.mov (.c .nilFn)), none⟩]) (.seq (.ops [⟨(some 5), (.mkfn 50 [(.t 2), (.t 3)]), none⟩, ⟨(some 4), (.mov (.t 5)), none⟩]) .ret)), false⟩
theorem e35 : T 35 = some c35 := by kernel_rfl
/- 36: slices.Index[[]int,int] -/
def c36 : Fun1 := ⟨[(.tmp 4)], (.seq (.ops [⟨(some 4), (.mov (.c (.int .i64 0))), none⟩]) (.seq (.seq (.ops [⟨(some 6), (.mov (.t 0)), none⟩, ⟨(some 7), (.len (.t 6)), none⟩, ⟨(some 8), (.mov (.c (.int .i64 0))), none⟩]) (.block 0 (.loop ⟨[0, 1, 7, 8], []⟩ (.seq (.ops [⟨(some 9), (.bin .lss (.t 8) (.t 7)), none⟩]) (.seq (.cond (.t 9) .skip (.exit 0)) (.seq (.block 1 (.seq (.ops [⟨(some 10), (.mov (.t 8)), none⟩, ⟨(some 5), (.mov (.t 10)), none⟩]) (.seq (.ops [⟨(some 11), (.mov (.t 1)), none⟩, ⟨(some 12), (.mov (.t 0)), none⟩, ⟨(some 13), (.mov (.t 5)), none⟩, ⟨(some 14), (.iaddrS 1 (.t 12) (.t 13)), none⟩, ⟨(some 15), (.load false 1 (.t 14)), none⟩, ⟨(some 16), (.bin .eql (.t 11) (.t 15)), none⟩]) (.cond (.t 16) (.seq (.ops [⟨(some 17), (.mov (.t 5)), none⟩, ⟨(some 4), (.mov (.t 17)), none⟩]) .ret) .skip)))) (.ops [⟨(some 18), (.bin .add (.t 8) (.c (.int .i64 1))), none⟩, ⟨(some 8), (.mov (.t 18)), none⟩]))))))) (.seq (.ops [⟨(some 4), (.mov (.c (.int .i64 (-1)))), none⟩]) .ret))), false⟩
theorem e36 : T 36 = some c36 := by kernel_rfl
/- 37: hopmesh/hop.channels -/
def c37 : Fun1 := ⟨[(.tmp 2)], (.seq (.ops [⟨(some 2), (.mov (.c (.bool false))), none⟩]) (.seq (.seq (.ops [⟨(some 5), (.mov (.t 0)), none⟩, ⟨(some 6), (.len (.t 5)), none⟩, ⟨(some 7), (.mov (.c (.int .i64 0))), none⟩]) (.block 0 (.loop ⟨[0, 5, 6, 7], []⟩ (.seq (.ops [⟨(some 8), (.bin .lss (.t 7) (.t 6)), none⟩]) (.seq (.cond (.t 8) .skip (.exit 0)) (.seq (.block 1 (.seq (.ops [⟨(some 9), (.mov (.t 7)), none⟩, ⟨(some 10), (.iaddrS 1 (.t 5) (.t 7)), none⟩, ⟨(some 11), (.load false 1 (.t 10)), none⟩, ⟨(some 3), (.mov (.t 9)), none⟩, ⟨(some 4), (.mov (.t 11)), none⟩]) (.seq (.ops [⟨(some 12), (.mov (.t 4)), none⟩, ⟨(some 13), (.call (.c (.fn 40 [])) [(.t 12)]), none⟩, ⟨(some 14), (.notB (.t 13)), none⟩, ⟨(some 15), (.mov (.t 14)), none⟩, ⟨(some 16), (.mov (.t 0)), (some (15, false))⟩, ⟨(some 17), (.mov (.t 3)), (some (15, false))⟩, ⟨(some 18), (.sliceL 1 (.t 16) none (some (.t 17)) none), (some (15, false))⟩, ⟨(some 19), (.mov (.t 4)), (some (15, false))⟩, ⟨(some 20), (.call (.c (.fn 13 [])) [(.t 18), (.t 19)]), (some (15, false))⟩, ⟨(some 21), (.pick (.t 15) (.c (.bool true)) (.t 20)), none⟩]) (.cond (.t 21) (.seq (.ops [⟨(some 2), (.mov (.c (.bool false))), none⟩]) .ret) .skip)))) (.ops [⟨(some 22), (.bin .add (.t 7) (.c (.int .i64 1))), none⟩, ⟨(some 7), (.mov (.t 22)), none⟩]))))))) (.seq (.ops [⟨(some 23), (.mov (.t 0)), none⟩, ⟨(some 24), (.len (.t 23)), none⟩, ⟨(some 25), (.bin .gtr (.t 24) (.c (.int .i64 0))), none⟩, ⟨(some 2), (.mov (.t 25)), none⟩]) .ret))), false⟩
theorem e37 : T 37 = some c37 := by kernel_rfl
/- 38: slices.ContainsFunc[[]int,int] -/
def c38 : Fun1 := ⟨[(.tmp 4)], (.seq (.ops [⟨(some 4), (.mov (.c (.bool false))), none⟩]) (.seq (.ops [⟨(some 5), (.mov (.t 0)), none⟩, ⟨(some 6), (.mov (.t 1)), none⟩, ⟨(some 7), (.call (.c (.fn 51 [])) [(.t 5), (.t 6)]), none⟩, ⟨(some 8), (.bin .geq (.t 7) (.c (.int .i64 0))), none⟩, ⟨(some 4), (.mov (.t 8)), none⟩]) .ret)), false⟩
theorem e38 : T 38 = some c38 := by kernel_rfl
/- 39: hopmesh/hop.Without$1 -/
def c39 : Fun1 := ⟨[(.tmp 2)], (.seq (.ops [⟨(some 2), (.mov (.c (.bool false))), none⟩]) (.seq (.ops [⟨(some 3), (.mov (.t 0)), none⟩, ⟨(some 4), (.call (.c (.fn 40 [])) [(.t 3)]), none⟩, ⟨(some 5), (.notB (.t 4)), none⟩, ⟨(some 2), (.mov (.t 5)), none⟩]) .ret)), false⟩
theorem e39 : T 39 = some c39 := by kernel_rfl
/- 40: hopmesh/hop.channel -/
def c40 : Fun1 := ⟨[(.tmp 2)], (.seq (.ops [⟨(some 2), (.mov (.c (.bool false))), none⟩]) (.seq (.ops [⟨(some 3), (.mov (.t 0)), none⟩, ⟨(some 4), (.bin .geq (.t 3) (.c (.int .i64 0))), none⟩, ⟨(some 5), (.mov (.t 4)), none⟩, ⟨(some 6), (.mov (.t 0)), (some (5, true))⟩, ⟨(some 7), (.bin .lss (.t 6) (.c (.int .i64 16))), (some (5, true))⟩, ⟨(some 8), (.pick (.t 5) (.t 7) (.c (.bool false))), none⟩, ⟨(some 2), (.mov (.t 8)), none⟩]) .ret)), false⟩
theorem e40 : T 40 = some c40 := by kernel_rfl
/- 41: slices.DeleteFunc[[]int,int] -/
def c41 : Fun1 := ⟨[(.tmp 4)], (.seq (.ops [⟨(some 4), (.mov (.c (.lst 0 [] true))), none⟩]) (.seq (.ops [⟨(some 8), (.mov (.t 0)), none⟩, ⟨(some 9), (.mov (.t 1)), none⟩, ⟨(some 10), (.call (.c (.fn 51 [])) [(.t 8), (.t 9)]), none⟩, ⟨(some 5), (.mov (.t 10)), none⟩]) (.seq (.seq (.ops [⟨(some 11), (.mov (.t 5)), none⟩, ⟨(some 12), (.bin .eql (.t 11) (.c (.int .i64 (-1)))), none⟩]) (.cond (.t 12) (.seq (.ops [⟨(some 13), (.mov (.t 0)), none⟩, ⟨(some 4), (.mov (.t 13)), none⟩]) .ret) .skip)) (.seq (.seq (.ops [⟨(some 14), (.mov (.t 5)), none⟩, ⟨(some 15), (.bin .add (.t 14) (.c (.int .i64 1))), none⟩, ⟨(some 6), (.mov (.t 15)), none⟩]) (.block 0 (.loop ⟨[0, 1, 5, 6], []⟩ (.seq (.seq (.ops [⟨(some 16), (.mov (.t 6)), none⟩, ⟨(some 17), (.mov (.t 0)), none⟩, ⟨(some 18), (.len (.t 17)), none⟩, ⟨(some 19), (.bin .lss (.t 16) (.t 18)), none⟩]) (.cond (.t 19) .skip (.exit 0))) (.seq (.block 1 (.seq (.ops [⟨(some 22), (.mov (.t 0)), none⟩, ⟨(some 23), (.mov (.t 6)), none⟩, ⟨(some 24), (.iaddrS 1 (.t 22) (.t 23)), none⟩, ⟨(some 25), (.load false 1 (.t 24)), none⟩, ⟨(some 7), (.mov (.t 25)), none⟩]) (.seq (.ops [⟨(some 26), (.mov (.t 1)), none⟩, ⟨(some 27), (.mov (.t 7)), none⟩, ⟨(some 28), (.call (.t 26) [(.t 27)]), none⟩, ⟨(some 29), (.notB (.t 28)), none⟩]) (.cond (.t 29) (.seq (.ops [⟨(some 30), (.mov (.t 0)), none⟩, ⟨(some 31), (.mov (.t 5)), none⟩, ⟨(some 32), (.mov (.t 7)), none⟩, ⟨(some 33), (.iaddrS 1 (.t 30) (.t 31)), none⟩, ⟨none, (.store 1 (.t 33) (.t 32)), none⟩]) (.ops [⟨(some 34), (.mov (.t 5)), none⟩, ⟨(some 35), (.bin .add (.t 34) (.c (.int .i64 1))), none⟩, ⟨(some 5), (.mov (.t 35)), none⟩])) .skip)))) (.ops [⟨(some 20), (.mov (.t 6)), none⟩, ⟨(some 21), (.bin .add (.t 20) (.c (.int .i64 1))), none⟩, ⟨(some 6), (.mov (.t 21)), none⟩])))))) (.seq (.ops [⟨(some 36), (.mov (.t 0)), none⟩, ⟨(some 37), (.mov (.t 5)), none⟩, ⟨(some 38), (.sliceL 1 (.t 36) (some (.t 37)) none none), none⟩, ⟨none, (.clear 1 [(.int .i64 0)] (.t 38)), none⟩]) (.seq (.ops [⟨(some 39), (.mov (.t 0)), none⟩, ⟨(some 40), (.mov (.t 5)), none⟩, ⟨(some 41), (.sliceL 1 (.t 39) none (some (.t 40)) none), none⟩, ⟨(some 4), (.mov (.t 41)), none⟩]) .ret)))))), false⟩
theorem e41 : T 41 = some c41 := by kernel_rfl
/- 42: hopmesh/hop.Without$2 -/
def c42 : Fun1 := ⟨[(.tmp 3)], (.seq (.ops [⟨(some 3), (.mov (.c (.bool false))), none⟩]) (.seq (.ops [⟨(some 4), (.mov (.t 0)), none⟩, ⟨(some 5), (.iaddrA 16 1 (.t 1) (.t 4)), none⟩, ⟨(some 6), (.load false 1 (.t 5)), none⟩, ⟨(some 7), (.notB (.t 6)), none⟩, ⟨(some 3), (.mov (.t 7)), none⟩]) .ret)), false⟩
theorem e42 : T 42 = some c42 := by kernel_rfl
/- 43: hopmesh/hopmeshref11.different -/
def c43 : Fun1 := ⟨[(.tmp 2)], (.seq (.ops [⟨(some 2), (.mov (.c (.bool false))), none⟩]) (.seq (.seq (.ops [⟨(some 3), (.mov (.c (.int .i64 0))), none⟩]) (.block 0 (.loop ⟨[0, 3], []⟩ (.seq (.seq (.ops [⟨(some 4), (.mov (.t 3)), none⟩, ⟨(some 5), (.mov (.t 0)), none⟩, ⟨(some 6), (.len (.t 5)), none⟩, ⟨(some 7), (.bin .lss (.t 4) (.t 6)), none⟩]) (.cond (.t 7) .skip (.exit 0))) (.seq (.block 1 (.seq (.drawn [(⟨(some 10), (.mov (.t 0)), none⟩, ⟨.pure, [], 0, 0⟩), (⟨(some 11), (.mov (.t 3)), none⟩, ⟨.pure, [], 0, 0⟩), (⟨(some 12), (.iaddrS 1 (.t 10) (.t 11)), none⟩, ⟨.bar, [], 0, 0⟩), (⟨(some 13), (.load false 1 (.t 12)), none⟩, ⟨.bar, [], 0, 0⟩), (⟨(some 14), (.call (.c (.fn 44 [])) [(.t 13)]), none⟩, ⟨.bar, [], 0, 0⟩), (⟨(some 15), (.notB (.t 14)), none⟩, ⟨.pure, [], 0, 0⟩), (⟨(some 16), (.mov (.t 15)), none⟩, ⟨.pure, [], 0, 0⟩), (⟨(some 17), (.mov (.t 0)), (some (16, false))⟩, ⟨.pure, [], 0, 0⟩), (⟨(some 18), (.mov (.t 3)), (some (16, false))⟩, ⟨.pure, [], 0, 0⟩), (⟨(some 19), (.sliceL 1 (.t 17) none (some (.t 18)) none), (some (16, false))⟩, ⟨.seg, [], 0, 0⟩), (⟨(some 20), (.mov (.t 0)), (some (16, false))⟩, ⟨.pure, [], 0, 0⟩), (⟨(some 21), (.mov (.t 3)), (some (16, false))⟩, ⟨.pure, [], 0, 0⟩), (⟨(some 22), (.iaddrS 1 (.t 20) (.t 21)), (some (16, false))⟩, ⟨.seg, [], 0, 0⟩), (⟨(some 23), (.load false 1 (.t 22)), (some (16, false))⟩, ⟨.seg, [], 0, 0⟩), (⟨(some 24), (.call (.c (.fn 45 [])) [(.t 19), (.t 23)]), (some (16, false))⟩, ⟨.bar, [], 0, 0⟩), (⟨(some 25), (.pick (.t 16) (.c (.bool true)) (.t 24)), none⟩, ⟨.pure, [], 0, 0⟩)]) (.cond (.t 25) (.seq (.ops [⟨(some 2), (.mov (.c (.bool false))), none⟩]) .ret) .skip))) (.ops [⟨(some 8), (.mov (.t 3)), none⟩, ⟨(some 9), (.bin .add (.t 8) (.c (.int .i64 1))), none⟩, ⟨(some 3), (.mov (.t 9)), none⟩])))))) (.seq (.ops [⟨(some 26), (.mov (.t 0)), none⟩, ⟨(some 27), (.len (.t 26)), none⟩, ⟨(some 28), (.bin .geq (.t 27) (.c (.int .i64 1))), none⟩, ⟨(some 2), (.mov (.t 28)), none⟩]) .ret))), false⟩
theorem e43 : T 43 = some c43 := by kernel_rfl
/- 44: hopmesh/hopmeshref11.channel -/
def c44 : Fun1 := ⟨[(.tmp 2)], (.seq (.ops [⟨(some 2), (.mov (.c (.bool false))), none⟩]) (.seq (.ops [⟨(some 3), (.mov (.t 0)), none⟩, ⟨(some 4), (.bin .geq (.t 3) (.c (.int .i64 0))), none⟩, ⟨(some 5), (.mov (.t 4)), none⟩, ⟨(some 6), (.mov (.t 0)), (some (5, true))⟩, ⟨(some 7), (.bin .lss (.t 6) (.c (.int .i64 16))), (some (5, true))⟩, ⟨(some 8), (.pick (.t 5) (.t 7) (.c (.bool false))), none⟩, ⟨(some 2), (.mov (.t 8)), none⟩]) .ret)), false⟩
theorem e44 : T 44 = some c44 := by kernel_rfl
/- 45: hopmesh/hopmeshref11.Has -/
def c45 : Fun1 := ⟨[(.tmp 4)], (.seq (.ops [⟨(some 4), (.mov (.c (.bool false))), none⟩]) (.seq (.seq (.ops [⟨(some 5), (.mov (.c (.int .i64 0))), none⟩]) (.block 0 (.loop ⟨[0, 1, 5], []⟩ (.seq (.seq (.ops [⟨(some 6), (.mov (.t 5)), none⟩, ⟨(some 7), (.mov (.t 0)), none⟩, ⟨(some 8), (.len (.t 7)), none⟩, ⟨(some 9), (.bin .lss (.t 6) (.t 8)), none⟩]) (.cond (.t 9) .skip (.exit 0))) (.seq (.block 1 (.seq (.ops [⟨(some 12), (.mov (.t 0)), none⟩, ⟨(some 13), (.mov (.t 5)), none⟩, ⟨(some 14), (.iaddrS 1 (.t 12) (.t 13)), none⟩, ⟨(some 15), (.load false 1 (.t 14)), none⟩, ⟨(some 16), (.mov (.t 1)), none⟩, ⟨(some 17), (.bin .eql (.t 15) (.t 16)), none⟩]) (.cond (.t 17) (.seq (.ops [⟨(some 4), (.mov (.c (.bool true))), none⟩]) .ret) .skip))) (.ops [⟨(some 10), (.mov (.t 5)), none⟩, ⟨(some 11), (.bin .add (.t 10) (.c (.int .i64 1))), none⟩, ⟨(some 5), (.mov (.t 11)), none⟩])))))) (.seq (.ops [⟨(some 4), (.mov (.c (.bool false))), none⟩]) .ret))), false⟩
theorem e45 : T 45 = some c45 := by kernel_rfl
/- 46: hopmesh/hopmeshlaw11.few$1 -/
def c46 : Fun1 := ⟨[(.tmp 2)], (.seq (.ops [⟨(some 1), (.box (.t 0)), none⟩, ⟨(some 2), (.mov (.c (.bool false))), none⟩]) (.seq (.ops [⟨(some 3), (.faddr 3 (.t 1)), none⟩, ⟨(some 4), (.load false 1 (.t 3)), none⟩, ⟨(some 5), (.len (.t 4)), none⟩, ⟨(some 6), (.bin .gtr (.t 5) (.c (.int .i64 20))), none⟩, ⟨(some 2), (.mov (.t 6)), none⟩]) .ret)), false⟩
theorem e46 : T 46 = some c46 := by kernel_rfl
/- 47: slices.IndexFunc[[]hopmesh/api.HopList,hopmesh/api.HopList] -/
def c47 : Fun1 := ⟨[(.tmp 4)], (.seq (.ops [⟨(some 4), (.mov (.c (.int .i64 0))), none⟩]) (.seq (.seq (.ops [⟨(some 6), (.mov (.t 0)), none⟩, ⟨(some 7), (.len (.t 6)), none⟩, ⟨(some 8), (.mov (.c (.int .i64 0))), none⟩]) (.block 0 (.loop ⟨[0, 1, 7, 8], []⟩ (.seq (.ops [⟨(some 9), (.bin .lss (.t 8) (.t 7)), none⟩]) (.seq (.cond (.t 9) .skip (.exit 0)) (.seq (.block 1 (.seq (.ops [⟨(some 10), (.mov (.t 8)), none⟩, ⟨(some 5), (.mov (.t 10)), none⟩]) (.seq (.ops [⟨(some 11), (.mov (.t 1)), none⟩, ⟨(some 12), (.mov (.t 0)), none⟩, ⟨(some 13), (.mov (.t 5)), none⟩, ⟨(some 14), (.iaddrS 4 (.t 12) (.t 13)), none⟩, ⟨(some 15), (.load true 4 (.t 14)), none⟩, ⟨(some 16), (.call (.t 11) [(.t 15)]), none⟩]) (.cond (.t 16) (.seq (.ops [⟨(some 17), (.mov (.t 5)), none⟩, ⟨(some 4), (.mov (.t 17)), none⟩]) .ret) .skip)))) (.ops [⟨(some 18), (.bin .add (.t 8) (.c (.int .i64 1))), none⟩, ⟨(some 8), (.mov (.t 18)), none⟩]))))))) (.seq (.ops [⟨(some 4), (.mov (.c (.int .i64 (-1)))), none⟩]) .ret))), false⟩
theorem e47 : T 47 = some c47 := by kernel_rfl
/- 48: hopmesh/hop.InForce$1 -/
def c48 : Fun1 := ⟨[(.tmp 3)], (.seq (.ops [⟨(some 2), (.box (.t 0)), none⟩, ⟨(some 3), (.mov (.c (.bool false))), none⟩]) (.seq (.ops [⟨(some 4), (.faddr 1 (.t 2)), none⟩, ⟨(some 5), (.load false 1 (.t 4)), none⟩, ⟨(some 6), (.load false 1 (.t 1)), none⟩, ⟨(some 7), (.bin .leq (.t 5) (.t 6)), none⟩, ⟨(some 8), (.mov (.t 7)), none⟩, ⟨(some 9), (.load false 1 (.t 1)), (some (8, true))⟩, ⟨(some 10), (.faddr 2 (.t 2)), (some (8, true))⟩, ⟨(some 11), (.load false 1 (.t 10)), (some (8, true))⟩, ⟨(some 12), (.bin .lss (.t 9) (.t 11)), (some (8, true))⟩, ⟨(some 13), (.pick (.t 8) (.t 12) (.c (.bool false))), none⟩, ⟨(some 3), (.mov (.t 13)), none⟩]) .ret)), false⟩
theorem e48 : T 48 = some c48 := by kernel_rfl
/- 49: slices.Clone[[]hopmesh/api.HopList,hopmesh/api.HopList] -/
def c49 : Fun1 := ⟨[(.tmp 2)], (.seq (.ops [⟨(some 2), (.mov (.c (.lst 0 [] true))), none⟩]) (.seq (.seq (.ops [⟨(some 3), (.mov (.t 0)), none⟩]) (.amb 4 false (.t 3) (.cond (.t 4) (.seq (.seq (.ops [⟨(some 2), (.mov (.c (.lst 0 [] true))), none⟩]) (.virt [(2, 4)])) .ret) .skip))) (.seq (.ops [⟨(some 5), (.blist 4 [(.int .i64 0), (.int .i64 0), (.int .i64 0), (.lst 0 [] true)] 0 []), none⟩, ⟨(some 6), (.mov (.t 0)), none⟩, ⟨(some 7), (.append 4 48 (.t 5) (.t 6)), none⟩, ⟨(some 2), (.mov (.t 7)), none⟩]) .ret))), false⟩
theorem e49 : T 49 = some c49 := by kernel_rfl
/- 50: hopmesh/hop.round$1 -/
def c50 : Fun1 := ⟨[], (.seq (.ops [⟨(some 5), (.load false 1 (.t 1)), none⟩, ⟨(some 6), (.len (.t 5)), none⟩, ⟨(some 7), (.mov (.c (.int .i64 0))), none⟩]) (.block 0 (.loop ⟨[0, 1, 2, 6, 7], []⟩ (.seq (.ops [⟨(some 8), (.bin .lss (.t 7) (.t 6)), none⟩]) (.seq (.cond (.t 8) .skip (.exit 0)) (.seq (.block 1 (.seq (.ops [⟨(some 9), (.mov (.t 7)), none⟩, ⟨(some 4), (.mov (.t 9)), none⟩]) (.seq (.drawn [(⟨(some 10), (.mov (.t 0)), none⟩, ⟨.pure, [], 0, 0⟩), (⟨(some 11), (.load false 1 (.t 1)), none⟩, ⟨.seg, [], 0, 0⟩), (⟨(some 12), (.load false 1 (.t 2)), none⟩, ⟨.seg, [], 0, 0⟩), (⟨(some 13), (.mov (.t 4)), none⟩, ⟨.pure, [], 0, 0⟩), (⟨(some 14), (.bin .add (.t 12) (.t 13)), none⟩, ⟨.pure, [], 0, 0⟩), (⟨(some 15), (.load false 1 (.t 1)), none⟩, ⟨.seg, [], 0, 0⟩), (⟨(some 16), (.len (.t 15)), none⟩, ⟨.seg, [], 0, 0⟩), (⟨(some 17), (.bin .rem (.t 14) (.t 16)), none⟩, ⟨.pure, [], 0, 0⟩), (⟨(some 18), (.iaddrS 1 (.t 11) (.t 17)), none⟩, ⟨.bar, [], 0, 0⟩), (⟨(some 19), (.load false 1 (.t 18)), none⟩, ⟨.bar, [], 0, 0⟩), (⟨(some 20), (.call (.t 10) [(.t 19)]), none⟩, ⟨.bar, [], 0, 0⟩), (⟨(some 21), (.notB (.t 20)), none⟩, ⟨.pure, [], 0, 0⟩)]) (.cond (.t 21) .ret .skip)))) (.ops [⟨(some 22), (.bin .add (.t 7) (.c (.int .i64 1))), none⟩, ⟨(some 7), (.mov (.t 22)), none⟩]))))))), false⟩
theorem e50 : T 50 = some c50 := by kernel_rfl
/- 51: slices.IndexFunc[[]int,int] -/
def c51 : Fun1 := ⟨[(.tmp 4)], (.seq (.ops [⟨(some 4), (.mov (.c (.int .i64 0))), none⟩]) (.seq (.seq (.ops [⟨(some 6), (.mov (.t 0)), none⟩, ⟨(some 7), (.len (.t 6)), none⟩, ⟨(some 8), (.mov (.c (.int .i64 0))), none⟩]) (.block 0 (.loop ⟨[0, 1, 7, 8], []⟩ (.seq (.ops [⟨(some 9), (.bin .lss (.t 8) (.t 7)), none⟩]) (.seq (.cond (.t 9) .skip (.exit 0)) (.seq (.block 1 (.seq (.ops [⟨(some 10), (.mov (.t 8)), none⟩, ⟨(some 5), (.mov (.t 10)), none⟩]) (.seq (.ops [⟨(some 11), (.mov (.t 1)), none⟩, ⟨(some 12), (.mov (.t 0)), none⟩, ⟨(some 13), (.mov (.t 5)), none⟩, ⟨(some 14), (.iaddrS 1 (.t 12) (.t 13)), none⟩, ⟨(some 15), (.load false 1 (.t 14)), none⟩, ⟨(some 16), (.call (.t 11) [(.t 15)]), none⟩]) (.cond (.t 16) (.seq (.ops [⟨(some 17), (.mov (.t 5)), none⟩, ⟨(some 4), (.mov (.t 17)), none⟩]) .ret) .skip)))) (.ops [⟨(some 18), (.bin .add (.t 8) (.c (.int .i64 1))), none⟩, ⟨(some 8), (.mov (.t 18)), none⟩]))))))) (.seq (.ops [⟨(some 4), (.mov (.c (.int .i64 (-1)))), none⟩]) .ret))), false⟩
theorem e51 : T 51 = some c51 := by kernel_rfl
end Go.Sh
namespace Go.Sh
set_option linter.unusedSectionVars false
set_option linter.unnecessarySimpa false
set_option linter.unusedVariables false
set_option linter.unusedSimpArgs false
set_option maxRecDepth 100000
set_option maxHeartbeats 4000000
theorem x36 : T 36 = some stdIdx := e36
theorem x13 : T 13 = some (stdCon 36) := e13
theorem x19 : T 19 = some stdEq := e19
theorem x15 : T 15 = some (stdClone 1 8 [.int .i64 0]) := e15
theorem x49 : T 49 = some (stdClone 4 48 [.int .i64 0, .int .i64 0, .int .i64 0, .lst 0 [] true]) := e49
theorem x51 : T 51 = some (stdIdxF false 1) := e51
theorem x47 : T 47 = some (stdIdxF true 4) := e47
theorem x38 : T 38 = some (stdCF 51) := e38
theorem x33 : T 33 = some (stdCF 47) := e33
theorem x41 : T 41 = some (stdDel 51) := e41
theorem lvI {bl : List SBlk} {C : List Int} {f : Bool} : LV bl 1 (iS C) (.lst 1 (iS C) f) := .lst 1 f (.inl rfl)
def chanB (c : Int) : Bool := decide (0 ≤ c) && decide (c < 16)
theorem s40 (n : Nat) (H : Heap) (c : Int) : call1 T (n + 1) (.fn 40) [.int .i64 c] H = some (.bool (chanB c), H) := by
  refine call_pure e40 (by rfl) ?_
  simp only [c40, heap0, go_sem, Int.cast_ofNat_Int, Int.reduceToNat, Nat.reduceAdd, Nat.reduceBEq, Nat.reduceLeDiff, Nat.reduceLT, Nat.reduceMul, Nat.reduceSub, Int.reduceEq, Int.reduceLT, Int.reduceLE, Int.reduceNeg]
  repeat' (with_reducible refine fork_split (fun _ => ?_) (fun _ => ?_) <;> simp only [*, go_sem, Int.cast_ofNat_Int, Int.reduceToNat, Nat.reduceAdd, Nat.reduceBEq, Nat.reduceLeDiff, Nat.reduceLT, Nat.reduceMul, Nat.reduceSub, Int.reduceEq, Int.reduceLT, Int.reduceLE, Int.reduceNeg])
  all_goals (simp only [chanB]; refine congrArg some (congrArg SV.bool ?_); rw [Bool.eq_iff_iff]; grind)
theorem s44 (n : Nat) (H : Heap) (c : Int) : call1 T (n + 1) (.fn 44) [.int .i64 c] H = some (.bool (chanB c), H) := by
  refine call_pure e44 (by rfl) ?_
  simp only [c44, heap0, go_sem, Int.cast_ofNat_Int, Int.reduceToNat, Nat.reduceAdd, Nat.reduceBEq, Nat.reduceLeDiff, Nat.reduceLT, Nat.reduceMul, Nat.reduceSub, Int.reduceEq, Int.reduceLT, Int.reduceLE, Int.reduceNeg]
  repeat' (with_reducible refine fork_split (fun _ => ?_) (fun _ => ?_) <;> simp only [*, go_sem, Int.cast_ofNat_Int, Int.reduceToNat, Nat.reduceAdd, Nat.reduceBEq, Nat.reduceLeDiff, Nat.reduceLT, Nat.reduceMul, Nat.reduceSub, Int.reduceEq, Int.reduceLT, Int.reduceLE, Int.reduceNeg])
  all_goals (simp only [chanB]; refine congrArg some (congrArg SV.bool ?_); rw [Bool.eq_iff_iff]; grind)
def badAt (C : List Int) (i : Nat) : Bool := match C[i]? with
  | some c => !chanB c || decide (c ∈ C.take i)
  | none => false
theorem badAt_some {C : List Int} {i : Nat} {c : Int} (h : C[i]? = some c) : badAt C i = (!chanB c || decide (c ∈ C.take i)) := by simp [badAt, h]
def difB (C : List Int) : Bool := !((List.range C.length).any (badAt C)) && decide (0 < C.length)
theorem difB_bad {C : List Int} {i : Nat} {c : Int} (h : C[i]? = some c) (hb : badAt C i = true) : difB C = false := by
  have : (List.range C.length).any (badAt C) = true := List.any_eq_true.2 ⟨i, List.mem_range.2 (List.getElem?_eq_some_iff.1 h).1, hb⟩
  simp [difB, this]
theorem difB_good {C : List Int} (h : ∀ j, j < C.length → badAt C j = false) : difB C = decide (0 < C.length) := by
  have : (List.range C.length).any (badAt C) = false := by
    rw [List.any_eq_false]
    intro j hj
    rw [h j (List.mem_range.1 hj)]; simp
  simp [difB, this]
theorem s37 (n : Nat) (H : Heap) (C : List Int) (f : Bool) (hC : C.length ≤ maxLen) : call1 T (n + 3) (.fn 37) [.lst 1 (iS C) f] H = some (.bool (difB C), H) := by
  refine call_pure e37 (by rfl) ?_
  simp only [c37, heap0, go_sem, Int.cast_ofNat_Int, Int.reduceToNat, Nat.reduceAdd, Nat.reduceBEq, Nat.reduceLeDiff, Nat.reduceLT, Nat.reduceMul, Nat.reduceSub, Int.reduceEq, Int.reduceLT, Int.reduceLE, Int.reduceNeg]
  refine loop_rule (fun i => ([(0, .lst 1 (iS C) f), (5, .lst 1 (iS C) f), (6, .int .i64 C.length), (7, .int .i64 i)], ⟨[], [], 0⟩)) (fun i => ∀ (j : Nat), j < i → badAt C j = false) C.length ?_ (fun j h => by omega) ?_
  · simp only [go_sem, Int.cast_ofNat_Int, Int.reduceToNat, Nat.reduceAdd, Nat.reduceBEq, Nat.reduceLeDiff, Nat.reduceLT, Nat.reduceMul, Nat.reduceSub, Int.reduceEq, Int.reduceLT, Int.reduceLE, Int.reduceNeg] <;> rfl
  · intro i hi hP
    rcases Nat.lt_or_ge i C.length with hlt | hge
    · obtain ⟨c, hc⟩ := getS hlt
      have hw := w64_suc hlt hC
      have hb := badAt_some hc
      have hle : decide ((i : Int) ≤ (C.length : Int)) = true := decide_eq_true (by omega)
      have h13 := fun H => stdCon_ok (n := n) (H := H) (v := .lst 1 (iS (C.take i)) (f && i == C.length)) (M := C.take i) (x := c) x13 x36 (lvI) (by simp; omega)
      cases hx : chanB c with
      | false =>
        simp only [go_sem, Int.cast_ofNat_Int, Int.reduceToNat, Nat.reduceAdd, Nat.reduceBEq, Nat.reduceLeDiff, Nat.reduceLT, Nat.reduceMul, Nat.reduceSub, Int.reduceEq, Int.reduceLT, Int.reduceLE, Int.reduceNeg, hlt, hc, s40, hx]
        rw [difB_bad hc (by rw [hb, hx]; rfl)]
      | true =>
        simp only [go_sem, Int.cast_ofNat_Int, Int.reduceToNat, Nat.reduceAdd, Nat.reduceBEq, Nat.reduceLeDiff, Nat.reduceLT, Nat.reduceMul, Nat.reduceSub, Int.reduceEq, Int.reduceLT, Int.reduceLE, Int.reduceNeg, hlt, hc, s40, hx, hle, iS_take, h13]
        cases hm : decide (c ∈ C.take i) with
        | true =>
          simp only [go_sem, Int.cast_ofNat_Int, Int.reduceToNat, Nat.reduceAdd, Nat.reduceBEq, Nat.reduceLeDiff, Nat.reduceLT, Nat.reduceMul, Nat.reduceSub, Int.reduceEq, Int.reduceLT, Int.reduceLE, Int.reduceNeg]
          rw [difB_bad hc (by rw [hb, hm]; simp)]
        | false =>
          simp only [go_sem, Int.cast_ofNat_Int, Int.reduceToNat, Nat.reduceAdd, Nat.reduceBEq, Nat.reduceLeDiff, Nat.reduceLT, Nat.reduceMul, Nat.reduceSub, Int.reduceEq, Int.reduceLT, Int.reduceLE, Int.reduceNeg, hw]
          refine ⟨by first | trivial | omega, by first | trivial | rfl, ?_⟩
          intro j hj
          rcases Nat.lt_or_ge j i with h3 | h3
          · exact hP j h3
          · have : j = i := by omega
            subst this
            rw [hb, hx, hm]; rfl
    · have hlt : ¬ i < C.length := by omega
      have hd := difB_good (C := C) (fun j hj => hP j (by omega))
      simp only [go_sem, Int.cast_ofNat_Int, Int.reduceToNat, Nat.reduceAdd, Nat.reduceBEq, Nat.reduceLeDiff, Nat.reduceLT, Nat.reduceMul, Nat.reduceSub, Int.reduceEq, Int.reduceLT, Int.reduceLE, Int.reduceNeg, hlt, hd]
      refine congrArg some (congrArg SV.bool ?_)
      rw [Bool.eq_iff_iff, decide_eq_true_eq, decide_eq_true_eq]; omega
theorem s45 (n : Nat) (H : Heap) (C : List Int) (f : Bool) (z : Nat) (c : Int) (hz : z = 1 ∨ C = []) (hC : C.length ≤ maxLen) : call1 T (n + 1) (.fn 45) [.lst z (iS C) f, .int .i64 c] H = some (.bool (decide (c ∈ C)), H) := by
  refine call_pure e45 (by rfl) ?_
  simp only [c45, heap0, go_sem, Int.cast_ofNat_Int, Int.reduceToNat, Nat.reduceAdd, Nat.reduceBEq, Nat.reduceLeDiff, Nat.reduceLT, Nat.reduceMul, Nat.reduceSub, Int.reduceEq, Int.reduceLT, Int.reduceLE, Int.reduceNeg]
  refine loop_rule (fun i => ([(0, .lst z (iS C) f), (1, .int .i64 c), (5, .int .i64 i)], ⟨[], [], 0⟩)) (fun i => ∀ (j : Nat) y, j < i → C[j]? = some y → y ≠ c) C.length ?_ (fun j y h => by omega) ?_
  · simp only [go_sem, Int.cast_ofNat_Int, Int.reduceToNat, Nat.reduceAdd, Nat.reduceBEq, Nat.reduceLeDiff, Nat.reduceLT, Nat.reduceMul, Nat.reduceSub, Int.reduceEq, Int.reduceLT, Int.reduceLE, Int.reduceNeg] <;> rfl
  · intro i hi hP
    rcases Nat.lt_or_ge i C.length with hlt | hge
    · obtain ⟨y, hy⟩ := getS hlt
      have hw := w64_suc hlt hC
      obtain rfl : z = 1 := hz.resolve_right (by rintro rfl; simp at hlt)
      simp only [go_sem, Int.cast_ofNat_Int, Int.reduceToNat, Nat.reduceAdd, Nat.reduceBEq, Nat.reduceLeDiff, Nat.reduceLT, Nat.reduceMul, Nat.reduceSub, Int.reduceEq, Int.reduceLT, Int.reduceLE, Int.reduceNeg, hlt, hy]
      cases hd : decide (y = c) with
      | true =>
        simp only [decide_eq_true_eq] at hd
        subst hd
        simp only [go_sem, Int.cast_ofNat_Int, Int.reduceToNat, Nat.reduceAdd, Nat.reduceBEq, Nat.reduceLeDiff, Nat.reduceLT, Nat.reduceMul, Nat.reduceSub, Int.reduceEq, Int.reduceLT, Int.reduceLE, Int.reduceNeg, List.mem_of_getElem? hy]
      | false =>
        simp only [decide_eq_false_iff_not] at hd
        simp only [go_sem, Int.cast_ofNat_Int, Int.reduceToNat, Nat.reduceAdd, Nat.reduceBEq, Nat.reduceLeDiff, Nat.reduceLT, Nat.reduceMul, Nat.reduceSub, Int.reduceEq, Int.reduceLT, Int.reduceLE, Int.reduceNeg, hw]
        refine ⟨by first | trivial | omega, by first | trivial | rfl, ?_⟩
        intro j y' hj hy'
        rcases Nat.lt_or_ge j i with h3 | h3
        · exact hP j y' h3 hy'
        · have : j = i := by omega
          subst this
          rw [hy] at hy'; cases hy'
          exact hd
    · have hlt : ¬ i < C.length := by omega
      have hn : ¬ c ∈ C := fun h => by
        obtain ⟨j, hj⟩ := List.mem_iff_getElem?.1 h
        exact hP j c (by have := (List.getElem?_eq_some_iff.1 hj).1; omega) hj rfl
      simp only [go_sem, Int.cast_ofNat_Int, Int.reduceToNat, Nat.reduceAdd, Nat.reduceBEq, Nat.reduceLeDiff, Nat.reduceLT, Nat.reduceMul, Nat.reduceSub, Int.reduceEq, Int.reduceLT, Int.reduceLE, Int.reduceNeg, hlt, hn]
theorem s43 (n : Nat) (H : Heap) (C : List Int) (f : Bool) (hC : C.length ≤ maxLen) : call1 T (n + 2) (.fn 43) [.lst 1 (iS C) f] H = some (.bool (difB C), H) := by
  refine call_pure e43 (by rfl) ?_
  simp only [c43, heap0, go_sem, Int.cast_ofNat_Int, Int.reduceToNat, Nat.reduceAdd, Nat.reduceBEq, Nat.reduceLeDiff, Nat.reduceLT, Nat.reduceMul, Nat.reduceSub, Int.reduceEq, Int.reduceLT, Int.reduceLE, Int.reduceNeg]
  refine loop_rule (fun i => ([(0, .lst 1 (iS C) f), (3, .int .i64 i)], ⟨[], [], 0⟩)) (fun i => ∀ (j : Nat), j < i → badAt C j = false) C.length ?_ (fun j h => by omega) ?_
  · simp only [go_sem, Int.cast_ofNat_Int, Int.reduceToNat, Nat.reduceAdd, Nat.reduceBEq, Nat.reduceLeDiff, Nat.reduceLT, Nat.reduceMul, Nat.reduceSub, Int.reduceEq, Int.reduceLT, Int.reduceLE, Int.reduceNeg] <;> rfl
  · intro i hi hP
    rcases Nat.lt_or_ge i C.length with hlt | hge
    · obtain ⟨c, hc⟩ := getS hlt
      have hw := w64_suc hlt hC
      have hb := badAt_some hc
      have hle : decide ((i : Int) ≤ (C.length : Int)) = true := decide_eq_true (by omega)
      have h45 := fun H => s45 n H (C.take i) (f && i == C.length) 1 c (.inl rfl) (by simp; omega)
      cases hx : chanB c with
      | false =>
        simp only [go_sem, Int.cast_ofNat_Int, Int.reduceToNat, Nat.reduceAdd, Nat.reduceBEq, Nat.reduceLeDiff, Nat.reduceLT, Nat.reduceMul, Nat.reduceSub, Int.reduceEq, Int.reduceLT, Int.reduceLE, Int.reduceNeg, hlt, hc, s44, hx]
        rw [difB_bad hc (by rw [hb, hx]; rfl)]
      | true =>
        simp only [go_sem, Int.cast_ofNat_Int, Int.reduceToNat, Nat.reduceAdd, Nat.reduceBEq, Nat.reduceLeDiff, Nat.reduceLT, Nat.reduceMul, Nat.reduceSub, Int.reduceEq, Int.reduceLT, Int.reduceLE, Int.reduceNeg, hlt, hc, s44, hx, hle, iS_take, h45]
        cases hm : decide (c ∈ C.take i) with
        | true =>
          simp only [go_sem, Int.cast_ofNat_Int, Int.reduceToNat, Nat.reduceAdd, Nat.reduceBEq, Nat.reduceLeDiff, Nat.reduceLT, Nat.reduceMul, Nat.reduceSub, Int.reduceEq, Int.reduceLT, Int.reduceLE, Int.reduceNeg]
          rw [difB_bad hc (by rw [hb, hm]; simp)]
        | false =>
          simp only [go_sem, Int.cast_ofNat_Int, Int.reduceToNat, Nat.reduceAdd, Nat.reduceBEq, Nat.reduceLeDiff, Nat.reduceLT, Nat.reduceMul, Nat.reduceSub, Int.reduceEq, Int.reduceLT, Int.reduceLE, Int.reduceNeg, hw]
          refine ⟨by first | trivial | omega, by first | trivial | rfl, ?_⟩
          intro j hj
          rcases Nat.lt_or_ge j i with h3 | h3
          · exact hP j h3
          · have : j = i := by omega
            subst this
            rw [hb, hx, hm]; rfl
    · have hlt : ¬ i < C.length := by omega
      have hd := difB_good (C := C) (fun j hj => hP j (by omega))
      simp only [go_sem, Int.cast_ofNat_Int, Int.reduceToNat, Nat.reduceAdd, Nat.reduceBEq, Nat.reduceLeDiff, Nat.reduceLT, Nat.reduceMul, Nat.reduceSub, Int.reduceEq, Int.reduceLT, Int.reduceLE, Int.reduceNeg, hlt, hd]
      refine congrArg some (congrArg SV.bool ?_)
      rw [Bool.eq_iff_iff, decide_eq_true_eq, decide_eq_true_eq]; omega
end Go.Sh
namespace Go.Sh
set_option linter.unusedSectionVars false
set_option linter.unnecessarySimpa false
set_option linter.unusedVariables false
set_option linter.unusedSimpArgs false
set_option maxRecDepth 100000
set_option maxHeartbeats 4000000
abbrev hl (v a b : Int) (z : Nat) (C : List Int) (f : Bool) : SV := .agg [.int .i64 v, .int .i64 a, .int .i64 b, .lst z (iS C) f]
def okH (v a b : Int) (C : List Int) : Bool := decide (0 ≤ v) && decide (v ≤ 255) && decide (0 ≤ a) && decide (a < b) && decide (b ≤ 109951163) && difB C
def ckH (v a b : Int) (C : List Int) : Int := bif okH v a b C then 0 else 1
theorem ckH_yes {v a b : Int} {C : List Int} (h : okH v a b C = true) : ckH v a b C = 0 := by simp [ckH, h]
theorem ckH_no {v a b : Int} {C : List Int} (h : okH v a b C = false) : ckH v a b C = 1 := by simp [ckH, h]
theorem s24 (n : Nat) (H : Heap) (v a b : Int) (C : List Int) (f : Bool) (hC : C.length ≤ maxLen) : call1 T (n + 4) (.fn 24) [hl v a b 1 C f] H = some (.int .i64 (ckH v a b C), H) := by
  refine call_pure e24 (by rfl) ?_
  have h37 := fun H => s37 n H C f hC
  simp only [c24, heap0, go_sem, Int.cast_ofNat_Int, Int.reduceToNat, Nat.reduceAdd, Nat.reduceBEq, Nat.reduceLeDiff, Nat.reduceLT, Nat.reduceMul, Nat.reduceSub, Int.reduceEq, Int.reduceLT, Int.reduceLE, Int.reduceNeg, h37]
  repeat' (with_reducible refine fork_split (fun _ => ?_) (fun _ => ?_) <;> simp only [*, go_sem, Int.cast_ofNat_Int, Int.reduceToNat, Nat.reduceAdd, Nat.reduceBEq, Nat.reduceLeDiff, Nat.reduceLT, Nat.reduceMul, Nat.reduceSub, Int.reduceEq, Int.reduceLT, Int.reduceLE, Int.reduceNeg, h37])
  all_goals
    clear h37
    refine congrArg some (congrArg (SV.int .i64) ?_)
    simp only [ckH]
    generalize hq : okH v a b C = q
    simp only [okH] at hq
    generalize difB C = D at *
    cases q <;> simp only [cond_true, cond_false] <;> grind
theorem s25 (n : Nat) (H : Heap) (v a b : Int) (C : List Int) (f : Bool) (hC : C.length ≤ maxLen) : call1 T (n + 3) (.fn 25) [hl v a b 1 C f] H = some (.int .i64 (ckH v a b C), H) := by
  refine call_pure e25 (by rfl) ?_
  have h43 := fun H => s43 n H C f hC
  simp only [c25, heap0, go_sem, Int.cast_ofNat_Int, Int.reduceToNat, Nat.reduceAdd, Nat.reduceBEq, Nat.reduceLeDiff, Nat.reduceLT, Nat.reduceMul, Nat.reduceSub, Int.reduceEq, Int.reduceLT, Int.reduceLE, Int.reduceNeg, h43]
  repeat' (with_reducible refine fork_split (fun _ => ?_) (fun _ => ?_) <;> simp only [*, go_sem, Int.cast_ofNat_Int, Int.reduceToNat, Nat.reduceAdd, Nat.reduceBEq, Nat.reduceLeDiff, Nat.reduceLT, Nat.reduceMul, Nat.reduceSub, Int.reduceEq, Int.reduceLT, Int.reduceLE, Int.reduceNeg, h43])
  all_goals
    clear h43
    refine congrArg some (congrArg (SV.int .i64) ?_)
    simp only [ckH]
    generalize hq : okH v a b C = q
    simp only [okH] at hq
    generalize difB C = D at *
    cases q <;> simp only [cond_true, cond_false] <;> grind
def smB (v a b : Int) (C : List Int) (v' a' b' : Int) (C' : List Int) : Bool := decide (v = v') && decide (a = a') && decide (b = b') && decide (C = C')
theorem s20 (n : Nat) (H : Heap) (v a b : Int) (z : Nat) (C : List Int) (f : Bool) (v' a' b' : Int) (z' : Nat) (C' : List Int) (f' : Bool) (hz : z = 1 ∨ C = []) (hz' : z' = 1 ∨ C' = []) (hC : C.length ≤ maxLen) :
    call1 T (n + 1) (.fn 20) [hl v a b z C f, hl v' a' b' z' C' f'] H = some (.bool (smB v a b C v' a' b' C'), H) := by
  refine call_pure e20 (by rfl) ?_
  have hne : ∀ (h : ¬ C.length = C'.length), C ≠ C' := fun h e => h (by rw [e])
  simp only [c20, heap0, go_sem, Int.cast_ofNat_Int, Int.reduceToNat, Nat.reduceAdd, Nat.reduceBEq, Nat.reduceLeDiff, Nat.reduceLT, Nat.reduceMul, Nat.reduceSub, Int.reduceEq, Int.reduceLT, Int.reduceLE, Int.reduceNeg]
  repeat' (with_reducible refine fork_split (fun _ => ?_) (fun _ => ?_) <;> simp only [*, go_sem, Int.cast_ofNat_Int, Int.reduceToNat, Nat.reduceAdd, Nat.reduceBEq, Nat.reduceLeDiff, Nat.reduceLT, Nat.reduceMul, Nat.reduceSub, Int.reduceEq, Int.reduceLT, Int.reduceLE, Int.reduceNeg])
  all_goals try (
    refine congrArg some (congrArg SV.bool ?_)
    simp only [smB]
    grind)
  refine loop_rule (fun i => ([(2, .ptr 0 0 0 0), (3, .ptr 1 0 0 0), (5, .int .i64 i)], ⟨[.box [.int .i64 v, .int .i64 a, .int .i64 b, .lst z (iS C) f], .box [.int .i64 v', .int .i64 a', .int .i64 b', .lst z' (iS C') f']], [], 0⟩)) (fun i => ∀ j : Nat, j < i → C[j]? = C'[j]?) C.length ?_ (fun j h => by omega) ?_
  · simp only [go_sem, Int.cast_ofNat_Int, Int.reduceToNat, Nat.reduceAdd, Nat.reduceBEq, Nat.reduceLeDiff, Nat.reduceLT, Nat.reduceMul, Nat.reduceSub, Int.reduceEq, Int.reduceLT, Int.reduceLE, Int.reduceNeg] <;> rfl
  · intro i hi hI
    have hlen : C.length = C'.length := by simp_all; omega
    rcases Nat.lt_or_ge i C.length with hlt | hge
    · obtain ⟨x, hx⟩ := getS hlt
      have hlt2 : i < C'.length := by omega
      obtain ⟨y, hy⟩ := getS hlt2
      obtain rfl : z = 1 := hz.resolve_right (by rintro rfl; simp at hlt)
      obtain rfl : z' = 1 := hz'.resolve_right (by rintro rfl; simp at hlt2)
      have hs := w64_suc hlt hC
      simp only [go_sem, Int.cast_ofNat_Int, Int.reduceToNat, Nat.reduceAdd, Nat.reduceBEq, Nat.reduceLeDiff, Nat.reduceLT, Nat.reduceMul, Nat.reduceSub, Int.reduceEq, Int.reduceLT, Int.reduceLE, Int.reduceNeg, hlt, hlt2, hx, hy]
      with_reducible refine post_fork (fun hab => ?_) (fun hab => ?_)
      rotate_left
      · have hab : x ≠ y := by simpa using hab
        have : C ≠ C' := fun h => by subst h; rw [hx] at hy; cases hy; exact hab rfl
        simp only [go_sem, Int.cast_ofNat_Int, Int.reduceToNat, Nat.reduceAdd, Nat.reduceBEq, Nat.reduceLeDiff, Nat.reduceLT, Nat.reduceMul, Nat.reduceSub, Int.reduceEq, Int.reduceLT, Int.reduceLE, Int.reduceNeg, smB, decide_eq_false this]
      · have hab : x = y := by simpa using hab
        simp only [go_sem, Int.cast_ofNat_Int, Int.reduceToNat, Nat.reduceAdd, Nat.reduceBEq, Nat.reduceLeDiff, Nat.reduceLT, Nat.reduceMul, Nat.reduceSub, Int.reduceEq, Int.reduceLT, Int.reduceLE, Int.reduceNeg, hlt, hs]
        refine ⟨by first | trivial | omega, by first | trivial | rfl, ?_⟩
        intro j hj
        rcases Nat.lt_or_ge j i with h3 | h3
        · exact hI j h3
        · have : j = i := by omega
          subst this
          rw [hx, hy, hab]
    · have hlt : ¬ i < C.length := by omega
      have : C = C' := List.ext_getElem? (fun j => by
        rcases Nat.lt_or_ge j C.length with h3 | h3
        · exact hI j (by omega)
        · rw [List.getElem?_eq_none h3, List.getElem?_eq_none (by omega)])
      simp only [go_sem, Int.cast_ofNat_Int, Int.reduceToNat, Nat.reduceAdd, Nat.reduceBEq, Nat.reduceLeDiff, Nat.reduceLT, Nat.reduceMul, Nat.reduceSub, Int.reduceEq, Int.reduceLT, Int.reduceLE, Int.reduceNeg, hlt]
      refine congrArg some (congrArg SV.bool ?_)
      simp only [smB]
      simp_all
def newB (a b : Int) : Bool := decide (0 ≤ a) && decide (a ≤ 255) && decide (0 ≤ b) && decide (b ≤ 255) && decide (1 ≤ (a - b) % 256) && decide ((a - b) % 256 ≤ 127)
theorem w8 (x : Int) : IntKind.wrap .u8 x = x % 256 := by
  simp [IntKind.wrap, IntKind.bits, IntKind.signed]
theorem s26 (n : Nat) (H : Heap) (a b : Int) : call1 T (n + 1) (.fn 26) [.int .i64 a, .int .i64 b] H = some (.bool (newB a b), H) := by
  refine call_pure e26 (by rfl) ?_
  simp only [c26, heap0, go_sem, Int.cast_ofNat_Int, Int.reduceToNat, Nat.reduceAdd, Nat.reduceBEq, Nat.reduceLeDiff, Nat.reduceLT, Nat.reduceMul, Nat.reduceSub, Int.reduceEq, Int.reduceLT, Int.reduceLE, Int.reduceNeg]
  repeat' (with_reducible refine fork_split (fun _ => ?_) (fun _ => ?_) <;> simp only [*, go_sem, Int.cast_ofNat_Int, Int.reduceToNat, Nat.reduceAdd, Nat.reduceBEq, Nat.reduceLeDiff, Nat.reduceLT, Nat.reduceMul, Nat.reduceSub, Int.reduceEq, Int.reduceLT, Int.reduceLE, Int.reduceNeg])
  all_goals
    refine congrArg some (congrArg SV.bool ?_)
    simp only [w8, decide_eq_true_eq, decide_eq_false_iff_not] at *
    have hm : (a % 256 - b % 256) % 256 = (a - b) % 256 := by omega
    rw [Bool.eq_iff_iff]
    simp only [newB, Bool.and_eq_true, decide_eq_true_eq, Bool.false_eq_true, false_iff, hm] at *
    omega
/-- The channel of an offset in a slot. -/
def chnA (C : List Int) (s o : Int) : Int := C.getD ((s + o) % (C.length : Int)).toNat 0
def chE (v a b : Int) (C : List Int) (s o : Int) : Int := bif okH v a b C then (bif decide (a ≤ s) && decide (s < b) then (bif decide (0 ≤ o) && decide (o < (C.length : Int)) then 0 else 2) else 12) else 1
def chV (v a b : Int) (C : List Int) (s o : Int) : Int := bif decide (chE v a b C s o = 0) then chnA C s o else 0
theorem okH_spec {v a b : Int} {C : List Int} (h : okH v a b C = true) : (0 ≤ v ∧ v ≤ 255) ∧ 0 ≤ a ∧ a < b ∧ b ≤ 109951163 ∧ difB C = true := by
  simp only [okH, Bool.and_eq_true, decide_eq_true_eq] at h
  exact ⟨⟨h.1.1.1.1.1, h.1.1.1.1.2⟩, h.1.1.1.2, h.1.1.2, h.1.2, h.2⟩
theorem difB_pos {C : List Int} (h : difB C = true) : 0 < C.length := by
  simp only [difB, Bool.and_eq_true, decide_eq_true_eq] at h
  exact h.2
theorem s21 (n : Nat) (H : Heap) (v a b : Int) (C : List Int) (f : Bool) (s o : Int) (hC : C.length ≤ 1000) : call1 T (n + 4) (.fn 21) [hl v a b 1 C f, .int .i64 s, .int .i64 o] H = some (.tup [.int .i64 (chV v a b C s o), .int .i64 (chE v a b C s o)], H) := by
  refine call_pure e21 (by rfl) ?_
  have h25 := fun H => s25 n H v a b C f (Nat.le_trans hC (by decide))
  cases hok : okH v a b C with
  | false =>
    rw [ckH_no hok] at h25
    simp only [c21, heap0, go_sem, Int.cast_ofNat_Int, Int.reduceToNat, Nat.reduceAdd, Nat.reduceBEq, Nat.reduceLeDiff, Nat.reduceLT, Nat.reduceMul, Nat.reduceSub, Int.reduceEq, Int.reduceLT, Int.reduceLE, Int.reduceNeg, h25, chV, chE, hok]
  | true =>
    rw [ckH_yes hok] at h25
    obtain ⟨hv, ha, hab, hb, hd⟩ := okH_spec hok
    have hpos := difB_pos hd
    simp only [c21, heap0, go_sem, Int.cast_ofNat_Int, Int.reduceToNat, Nat.reduceAdd, Nat.reduceBEq, Nat.reduceLeDiff, Nat.reduceLT, Nat.reduceMul, Nat.reduceSub, Int.reduceEq, Int.reduceLT, Int.reduceLE, Int.reduceNeg, h25, chV, chE, hok]
    by_cases h1 : s < a
    · have e1 : decide (s < a) = true := decide_eq_true h1
      have e2 : decide (a ≤ s) = false := decide_eq_false (by omega)
      simp only [e1, e2, go_sem, Int.cast_ofNat_Int, Int.reduceToNat, Nat.reduceAdd, Nat.reduceBEq, Nat.reduceLeDiff, Nat.reduceLT, Nat.reduceMul, Nat.reduceSub, Int.reduceEq, Int.reduceLT, Int.reduceLE, Int.reduceNeg]
    · have e1 : decide (s < a) = false := decide_eq_false h1
      have e2 : decide (a ≤ s) = true := decide_eq_true (by omega)
      by_cases h2 : b ≤ s
      · have e3 : decide (b ≤ s) = true := decide_eq_true h2
        have e4 : decide (s < b) = false := decide_eq_false (by omega)
        simp only [e1, e2, e3, e4, go_sem, Int.cast_ofNat_Int, Int.reduceToNat, Nat.reduceAdd, Nat.reduceBEq, Nat.reduceLeDiff, Nat.reduceLT, Nat.reduceMul, Nat.reduceSub, Int.reduceEq, Int.reduceLT, Int.reduceLE, Int.reduceNeg]
      · have e3 : decide (b ≤ s) = false := decide_eq_false h2
        have e4 : decide (s < b) = true := decide_eq_true (by omega)
        by_cases h3 : o < 0
        · have e5 : decide (o < 0) = true := decide_eq_true h3
          have e6 : decide (0 ≤ o) = false := decide_eq_false (by omega)
          simp only [e1, e2, e3, e4, e5, e6, go_sem, Int.cast_ofNat_Int, Int.reduceToNat, Nat.reduceAdd, Nat.reduceBEq, Nat.reduceLeDiff, Nat.reduceLT, Nat.reduceMul, Nat.reduceSub, Int.reduceEq, Int.reduceLT, Int.reduceLE, Int.reduceNeg]
        · have e5 : decide (o < 0) = false := decide_eq_false h3
          have e6 : decide (0 ≤ o) = true := decide_eq_true (by omega)
          by_cases h4 : (C.length : Int) ≤ o
          · have e7 : decide ((C.length : Int) ≤ o) = true := decide_eq_true h4
            have e8 : decide (o < (C.length : Int)) = false := decide_eq_false (by omega)
            simp only [e1, e2, e3, e4, e5, e6, e7, e8, go_sem, Int.cast_ofNat_Int, Int.reduceToNat, Nat.reduceAdd, Nat.reduceBEq, Nat.reduceLeDiff, Nat.reduceLT, Nat.reduceMul, Nat.reduceSub, Int.reduceEq, Int.reduceLT, Int.reduceLE, Int.reduceNeg]
          · have e7 : decide ((C.length : Int) ≤ o) = false := decide_eq_false h4
            have e8 : decide (o < (C.length : Int)) = true := decide_eq_true (by omega)
            have hw : w64 (s + o) = s + o := w64_id (by omega) (by omega)
            have hn0 : decide ((C.length : Int) = 0) = false := decide_eq_false (by omega)
            have htm : (s + o).tmod (C.length : Int) = (s + o) % (C.length : Int) := Int.tmod_eq_emod_of_nonneg (by omega)
            have hm0 : 0 ≤ (s + o) % (C.length : Int) := Int.emod_nonneg _ (by omega)
            have hm1 : (s + o) % (C.length : Int) < C.length := Int.emod_lt_of_pos _ (by omega)
            have e9 : decide (0 ≤ (s + o) % (C.length : Int)) = true := decide_eq_true hm0
            have e10 : decide ((s + o) % (C.length : Int) < C.length) = true := decide_eq_true hm1
            obtain ⟨c, hc⟩ := getS (l := C) (i := ((s + o) % (C.length : Int)).toNat) (by omega)
            simp only [e1, e2, e3, e4, e5, e6, e7, e8, hw, hn0, htm, e9, e10, hc, go_sem, Int.cast_ofNat_Int, Int.reduceToNat, Nat.reduceAdd, Nat.reduceBEq, Nat.reduceLeDiff, Nat.reduceLT, Nat.reduceMul, Nat.reduceSub, Int.reduceEq, Int.reduceLT, Int.reduceLE, Int.reduceNeg, chnA, List.getD_eq_getElem?_getD, Option.getD_some]
theorem chE_ok {v a b : Int} {C : List Int} {s o : Int} : chE v a b C s o = 0 ↔ okH v a b C = true ∧ (a ≤ s ∧ s < b) ∧ 0 ≤ o ∧ o < (C.length : Int) := by
  unfold chE
  cases okH v a b C with
  | false => simp
  | true =>
    simp only [cond_true, true_and]
    by_cases h1 : a ≤ s ∧ s < b
    · have : (decide (a ≤ s) && decide (s < b)) = true := by simp [h1]
      rw [this]
      simp only [cond_true, h1, true_and, and_self]
      by_cases h2 : 0 ≤ o ∧ o < (C.length : Int)
      · have : (decide (0 ≤ o) && decide (o < (C.length : Int))) = true := by simp [h2]
        rw [this]; simp [h2]
      · have : (decide (0 ≤ o) && decide (o < (C.length : Int))) = false := by
          rw [Bool.and_eq_false_iff]; simp only [decide_eq_false_iff_not]; omega
        rw [this]; simp only [cond_false, h2, iff_false]; omega
    · have : (decide (a ≤ s) && decide (s < b)) = false := by
        rw [Bool.and_eq_false_iff]; simp only [decide_eq_false_iff_not]; omega
      rw [this]; simp only [cond_false, h1, false_and, iff_false]; omega
def meE (v a b : Int) (C : List Int) (s x y : Int) : Int := bif decide (chE v a b C s x = 0) then chE v a b C s y else chE v a b C s x
def meB (v a b : Int) (C : List Int) (s x y : Int) : Bool := decide (meE v a b C s x y = 0) && decide (chV v a b C s x = chV v a b C s y)
theorem s23 (n : Nat) (H : Heap) (v a b : Int) (C : List Int) (f : Bool) (s x y : Int) (hC : C.length ≤ 1000) : call1 T (n + 5) (.fn 23) [hl v a b 1 C f, .int .i64 s, .int .i64 x, .int .i64 y] H = some (.tup [.bool (meB v a b C s x y), .int .i64 (meE v a b C s x y)], H) := by
  refine call_pure e23 (by rfl) ?_
  have h1 := fun H => s21 n H v a b C f s x hC
  have h2 := fun H => s21 n H v a b C f s y hC
  simp only [c23, heap0, go_sem, Int.cast_ofNat_Int, Int.reduceToNat, Nat.reduceAdd, Nat.reduceBEq, Nat.reduceLeDiff, Nat.reduceLT, Nat.reduceMul, Nat.reduceSub, Int.reduceEq, Int.reduceLT, Int.reduceLE, Int.reduceNeg, h1, h2]
  cases hx : decide (chE v a b C s x = 0) with
  | false =>
    have hx' := of_decide_eq_false hx
    simp only [go_sem, Int.cast_ofNat_Int, Int.reduceToNat, Nat.reduceAdd, Nat.reduceBEq, Nat.reduceLeDiff, Nat.reduceLT, Nat.reduceMul, Nat.reduceSub, Int.reduceEq, Int.reduceLT, Int.reduceLE, Int.reduceNeg, meB, meE, hx, decide_eq_false hx']
  | true =>
    have hx' := of_decide_eq_true hx
    simp only [go_sem, Int.cast_ofNat_Int, Int.reduceToNat, Nat.reduceAdd, Nat.reduceBEq, Nat.reduceLeDiff, Nat.reduceLT, Nat.reduceMul, Nat.reduceSub, Int.reduceEq, Int.reduceLT, Int.reduceLE, Int.reduceNeg, h2, meB, meE, hx]
    cases hy : decide (chE v a b C s y = 0) with
    | false => simp only [go_sem, Int.cast_ofNat_Int, Int.reduceToNat, Nat.reduceAdd, Nat.reduceBEq, Nat.reduceLeDiff, Nat.reduceLT, Nat.reduceMul, Nat.reduceSub, Int.reduceEq, Int.reduceLT, Int.reduceLE, Int.reduceNeg, hy]
    | true => simp only [go_sem, Int.cast_ofNat_Int, Int.reduceToNat, Nat.reduceAdd, Nat.reduceBEq, Nat.reduceLeDiff, Nat.reduceLT, Nat.reduceMul, Nat.reduceSub, Int.reduceEq, Int.reduceLT, Int.reduceLE, Int.reduceNeg, hy, of_decide_eq_true hy]
end Go.Sh
namespace Go.Sh
set_option linter.unusedSectionVars false
set_option linter.unnecessarySimpa false
set_option linter.unusedVariables false
set_option linter.unusedSimpArgs false
set_option maxRecDepth 100000
set_option maxHeartbeats 4000000
theorem s35 (n : Nat) (bl es ro) (C : List Int) (f : Bool) (x : Int) : call1 T (n + 1) (.kfn 35) [.lst 1 (iS C) f, .int .i64 x] ⟨bl, es, ro⟩ =
    some (.fn 50 [.ptr bl.length 0 0 0, .ptr (bl.length + 1) 0 0 0], ⟨bl ++ [.box [.lst 1 (iS C) f], .box [.int .i64 x]], es, ro⟩) := by
  refine kcall_in e35 ?_
  simp only [c35, go_sem, Int.cast_ofNat_Int, Int.reduceToNat, Nat.reduceAdd, Nat.reduceBEq, Nat.reduceLeDiff, Nat.reduceLT, Nat.reduceMul, Nat.reduceSub, Int.reduceEq, Int.reduceLT, Int.reduceLE, Int.reduceNeg, List.append_assoc, List.length_append]
def rnd (C : List Int) (s : Int) (i : Nat) : Int := C.getD ((s + i) % (C.length : Int)).toNat 0
theorem s50 (n o : Nat) (q : LoopRec) (X0 : SBlk) (X1 X2 : Nat → SBlk) (C : List Int) (f : Bool) (s : Int) (hs : 0 ≤ s) (hs1 : s < C.length) (ho : o < C.length) (hC : C.length ≤ 1000)
    (hy : ∀ i, i < o → call1 T n (.yld 5) [.int .i64 (rnd C s i)] ⟨[X0, X1 i, X2 i, .box [.lst 1 (iS C) f], .box [.int .i64 s], .loop q .ready .normal], [], 0⟩ =
      some (.bool true, ⟨[X0, X1 (i + 1), X2 (i + 1), .box [.lst 1 (iS C) f], .box [.int .i64 s], .loop q .ready .normal], [], 0⟩))
    (Y1 Y2 : SBlk) (st : LoopState) (pe : SEx)
    (hyE : call1 T n (.yld 5) [.int .i64 (rnd C s o)] ⟨[X0, X1 o, X2 o, .box [.lst 1 (iS C) f], .box [.int .i64 s], .loop q .ready .normal], [], 0⟩ =
      some (.bool false, ⟨[X0, Y1, Y2, .box [.lst 1 (iS C) f], .box [.int .i64 s], .loop q st pe], [], 0⟩)) :
    call1 T (n + 1) (.fn 50) [.yld 5, .ptr 3 0 0 0, .ptr 4 0 0 0] ⟨[X0, X1 0, X2 0, .box [.lst 1 (iS C) f], .box [.int .i64 s], .loop q .ready .normal], [], 0⟩ =
      some (.tup [], ⟨[X0, Y1, Y2, .box [.lst 1 (iS C) f], .box [.int .i64 s], .loop q st pe], [], 0⟩) := by
  refine call_in e50 (by rfl) ?_
  simp only [c50, go_sem, Int.cast_ofNat_Int, Int.reduceToNat, Nat.reduceAdd, Nat.reduceBEq, Nat.reduceLeDiff, Nat.reduceLT, Nat.reduceMul, Nat.reduceSub, Int.reduceEq, Int.reduceLT, Int.reduceLE, Int.reduceNeg]
  refine loop_rule (fun i => ([(0, .yld 5), (1, .ptr 3 0 0 0), (2, .ptr 4 0 0 0), (6, .int .i64 C.length), (7, .int .i64 i)], ⟨[X0, X1 i, X2 i, .box [.lst 1 (iS C) f], .box [.int .i64 s], .loop q .ready .normal], [], 0⟩)) (fun _ => True) o ?_ trivial ?_
  · simp only [go_sem, Int.cast_ofNat_Int, Int.reduceToNat, Nat.reduceAdd, Nat.reduceBEq, Nat.reduceLeDiff, Nat.reduceLT, Nat.reduceMul, Nat.reduceSub, Int.reduceEq, Int.reduceLT, Int.reduceLE, Int.reduceNeg] <;> rfl
  · intro i hi _
    have hlt : i < C.length := by omega
    have hw : w64 (s + i) = s + i := w64_id (by omega) (by omega)
    have hw1 := w64_suc hlt (Nat.le_trans hC (by decide))
    have hn0 : decide ((C.length : Int) = 0) = false := decide_eq_false (by omega)
    have htm : (s + i).tmod (C.length : Int) = (s + i) % (C.length : Int) := Int.tmod_eq_emod_of_nonneg (by omega)
    have hm0 : 0 ≤ (s + i) % (C.length : Int) := Int.emod_nonneg _ (by omega)
    have hm1 : (s + i) % (C.length : Int) < C.length := Int.emod_lt_of_pos _ (by omega)
    have e9 : decide (0 ≤ (s + i) % (C.length : Int)) = true := decide_eq_true hm0
    have e10 : decide ((s + i) % (C.length : Int) < C.length) = true := decide_eq_true hm1
    have hc : C[((s + i) % (C.length : Int)).toNat]? = some (rnd C s i) := by
      rw [rnd, List.getD_eq_getElem?_getD, List.getElem?_eq_getElem (by omega)]; rfl
    rcases Nat.lt_or_ge i o with hio | hio
    · simp only [go_sem, Int.cast_ofNat_Int, Int.reduceToNat, Nat.reduceAdd, Nat.reduceBEq, Nat.reduceLeDiff, Nat.reduceLT, Nat.reduceMul, Nat.reduceSub, Int.reduceEq, Int.reduceLT, Int.reduceLE, Int.reduceNeg, hlt, hw, hn0, htm, e9, e10, hc, hy i hio, hw1]
      refine ⟨by first | trivial | omega, by first | trivial | rfl, ?_⟩
      trivial
    · obtain rfl : i = o := by omega
      simp only [go_sem, Int.cast_ofNat_Int, Int.reduceToNat, Nat.reduceAdd, Nat.reduceBEq, Nat.reduceLeDiff, Nat.reduceLT, Nat.reduceMul, Nat.reduceSub, Int.reduceEq, Int.reduceLT, Int.reduceLE, Int.reduceNeg, hlt, hw, hn0, htm, e9, e10, hc, hyE]
def outc (C : List Int) (s : Int) : Nat → Int
  | 0 => 0
  | i + 1 => rnd C s i
def offc (o : Nat) : Nat → Int
  | 0 => (o : Int)
  | i + 1 => (o : Int) - ((i + 1 : Nat) : Int)
theorem offc_eq (o i : Nat) : offc o i = (o : Int) - i := by
  cases i with
  | zero => simp [offc]
  | succ i => rfl
theorem onSome_of {A R : Type} {v : Option A} {f : A → Option R} {t : Tok f} {r : Option R} (o : A) (h : v = some o) (k : f o = r) : onSome v f t = r := by rw [h]; exact k
theorem s12 (n : Nat) (H : Heap) (v a b : Int) (C : List Int) (f : Bool) (s o : Int) (hC : C.length ≤ 1000) : call1 T (n + 5) (.fn 12) [hl v a b 1 C f, .int .i64 s, .int .i64 o] H = some (.tup [.int .i64 (chV v a b C s o), .int .i64 (chE v a b C s o)], H) := by
  refine call_pure e12 (by rfl) ?_
  have h24 := fun H => s24 n H v a b C f (Nat.le_trans hC (by decide))
  cases hok : okH v a b C with
  | false =>
    rw [ckH_no hok] at h24
    simp only [c12, heap0, go_sem, Int.cast_ofNat_Int, Int.reduceToNat, Nat.reduceAdd, Nat.reduceBEq, Nat.reduceLeDiff, Nat.reduceLT, Nat.reduceMul, Nat.reduceSub, Int.reduceEq, Int.reduceLT, Int.reduceLE, Int.reduceNeg, h24, chV, chE, hok]
  | true =>
    rw [ckH_yes hok] at h24
    obtain ⟨hv, ha, hab, hb, hd⟩ := okH_spec hok
    have hpos := difB_pos hd
    simp only [c12, heap0, go_sem, Int.cast_ofNat_Int, Int.reduceToNat, Nat.reduceAdd, Nat.reduceBEq, Nat.reduceLeDiff, Nat.reduceLT, Nat.reduceMul, Nat.reduceSub, Int.reduceEq, Int.reduceLT, Int.reduceLE, Int.reduceNeg, h24, chV, chE, hok]
    by_cases h1 : s < a
    · have e1 : decide (s < a) = true := decide_eq_true h1
      have e2 : decide (a ≤ s) = false := decide_eq_false (by omega)
      simp only [e1, e2, go_sem, Int.cast_ofNat_Int, Int.reduceToNat, Nat.reduceAdd, Nat.reduceBEq, Nat.reduceLeDiff, Nat.reduceLT, Nat.reduceMul, Nat.reduceSub, Int.reduceEq, Int.reduceLT, Int.reduceLE, Int.reduceNeg]
    · have e1 : decide (s < a) = false := decide_eq_false h1
      have e2 : decide (a ≤ s) = true := decide_eq_true (by omega)
      by_cases h2 : b ≤ s
      · have e3 : decide (b ≤ s) = true := decide_eq_true h2
        have e4 : decide (s < b) = false := decide_eq_false (by omega)
        simp only [e1, e2, e3, e4, go_sem, Int.cast_ofNat_Int, Int.reduceToNat, Nat.reduceAdd, Nat.reduceBEq, Nat.reduceLeDiff, Nat.reduceLT, Nat.reduceMul, Nat.reduceSub, Int.reduceEq, Int.reduceLT, Int.reduceLE, Int.reduceNeg]
      · have e3 : decide (b ≤ s) = false := decide_eq_false h2
        have e4 : decide (s < b) = true := decide_eq_true (by omega)
        by_cases h3 : o < 0
        · have e5 : decide (o < 0) = true := decide_eq_true h3
          have e6 : decide (0 ≤ o) = false := decide_eq_false (by omega)
          simp only [e1, e2, e3, e4, e5, e6, go_sem, Int.cast_ofNat_Int, Int.reduceToNat, Nat.reduceAdd, Nat.reduceBEq, Nat.reduceLeDiff, Nat.reduceLT, Nat.reduceMul, Nat.reduceSub, Int.reduceEq, Int.reduceLT, Int.reduceLE, Int.reduceNeg]
        · have e5 : decide (o < 0) = false := decide_eq_false h3
          have e6 : decide (0 ≤ o) = true := decide_eq_true (by omega)
          by_cases h4 : (C.length : Int) ≤ o
          · have e7 : decide ((C.length : Int) ≤ o) = true := decide_eq_true h4
            have e8 : decide (o < (C.length : Int)) = false := decide_eq_false (by omega)
            simp only [e1, e2, e3, e4, e5, e6, e7, e8, go_sem, Int.cast_ofNat_Int, Int.reduceToNat, Nat.reduceAdd, Nat.reduceBEq, Nat.reduceLeDiff, Nat.reduceLT, Nat.reduceMul, Nat.reduceSub, Int.reduceEq, Int.reduceLT, Int.reduceLE, Int.reduceNeg]
          · have e7 : decide ((C.length : Int) ≤ o) = false := decide_eq_false h4
            have e8 : decide (o < (C.length : Int)) = true := decide_eq_true (by omega)
            have hn0 : decide ((C.length : Int) = 0) = false := decide_eq_false (by omega)
            have htm : s.tmod (C.length : Int) = s % (C.length : Int) := Int.tmod_eq_emod_of_nonneg (by omega)
            obtain ⟨o', rfl⟩ := Int.eq_ofNat_of_zero_le (show 0 ≤ o by omega)
            have hm0 : 0 ≤ s % (C.length : Int) := Int.emod_nonneg _ (by omega)
            have hm1 : s % (C.length : Int) < C.length := Int.emod_lt_of_pos _ (by omega)
            simp only [e1, e2, e3, e4, e5, e6, e7, e8, hn0, htm, go_sem, Int.cast_ofNat_Int, Int.reduceToNat, Nat.reduceAdd, Nat.reduceBEq, Nat.reduceLeDiff, Nat.reduceLT, Nat.reduceMul, Nat.reduceSub, Int.reduceEq, Int.reduceLT, Int.reduceLE, Int.reduceNeg, s35]
            refine onSome_of _ (s50 (n + 3) o' _ _ (fun i => .box [.int .i64 (offc o' i)]) (fun i => .box [.int .i64 (outc C (s % (C.length : Int)) i)]) C f (s % (C.length : Int)) hm0 hm1 (by omega) hC ?_
              (.box [.int .i64 0]) (.box [.int .i64 (rnd C (s % (C.length : Int)) o')]) .done (.exit 1) ?_) ?_
            · intro i hi
              refine yld_in rfl rfl ?_
              have g1 : decide (offc o' i = 0) = false := decide_eq_false (by rw [offc_eq]; omega)
              have g2 : w64 (offc o' i - 1) = offc o' (i + 1) := by rw [offc_eq, offc_eq, w64_id (by omega) (by omega)]; omega
              simp only [go_sem, Int.cast_ofNat_Int, Int.reduceToNat, Nat.reduceAdd, Nat.reduceBEq, Nat.reduceLeDiff, Nat.reduceLT, Nat.reduceMul, Nat.reduceSub, Int.reduceEq, Int.reduceLT, Int.reduceLE, Int.reduceNeg, put1, g1, g2, outc]
            · refine yld_in rfl rfl ?_
              have g1 : decide (offc o' o' = 0) = true := decide_eq_true (by rw [offc_eq]; omega)
              have g0 : offc o' o' = 0 := by rw [offc_eq]; omega
              simp only [go_sem, Int.cast_ofNat_Int, Int.reduceToNat, Nat.reduceAdd, Nat.reduceBEq, Nat.reduceLeDiff, Nat.reduceLT, Nat.reduceMul, Nat.reduceSub, Int.reduceEq, Int.reduceLT, Int.reduceLE, Int.reduceNeg, put1, g1, g0]
            · have hfin : chnA C s o' = rnd C (s % (C.length : Int)) o' := by
                unfold chnA rnd
                rw [Int.emod_add_emod]
              simp only [go_sem, Int.cast_ofNat_Int, Int.reduceToNat, Nat.reduceAdd, Nat.reduceBEq, Nat.reduceLeDiff, Nat.reduceLT, Nat.reduceMul, Nat.reduceSub, Int.reduceEq, Int.reduceLT, Int.reduceLE, Int.reduceNeg, hfin]
end Go.Sh
namespace Go.Sh
set_option linter.unusedSectionVars false
set_option linter.unnecessarySimpa false
set_option linter.unusedVariables false
set_option linter.unusedSimpArgs false
set_option maxRecDepth 100000
set_option maxHeartbeats 4000000
theorem s11 (H : Heap) : call1 T 40 (.fn 11) [] H = some (.bool true, H) := pure_any e11 (by rfl) (callB_up (T := T) 100 40 (.fn 11) [] heap0 (.bool true, heap0) (by kernel_rfl))
theorem s22 (n : Nat) (H : Heap) (v a b : Int) (C : List Int) (f : Bool) (s x y : Int) (hC : C.length ≤ 1000) : call1 T (n + 6) (.fn 22) [hl v a b 1 C f, .int .i64 s, .int .i64 x, .int .i64 y] H = some (.tup [.bool (meB v a b C s x y), .int .i64 (meE v a b C s x y)], H) := by
  refine call_pure e22 (by rfl) ?_
  have h1 := fun H => s12 n H v a b C f s x hC
  have h2 := fun H => s12 n H v a b C f s y hC
  simp only [c22, heap0, go_sem, Int.cast_ofNat_Int, Int.reduceToNat, Nat.reduceAdd, Nat.reduceBEq, Nat.reduceLeDiff, Nat.reduceLT, Nat.reduceMul, Nat.reduceSub, Int.reduceEq, Int.reduceLT, Int.reduceLE, Int.reduceNeg, h1, h2]
  cases hx : decide (chE v a b C s x = 0) with
  | false =>
    have hx' := of_decide_eq_false hx
    simp only [go_sem, Int.cast_ofNat_Int, Int.reduceToNat, Nat.reduceAdd, Nat.reduceBEq, Nat.reduceLeDiff, Nat.reduceLT, Nat.reduceMul, Nat.reduceSub, Int.reduceEq, Int.reduceLT, Int.reduceLE, Int.reduceNeg, meB, meE, hx, decide_eq_false hx']
  | true =>
    have hx' := of_decide_eq_true hx
    simp only [go_sem, Int.cast_ofNat_Int, Int.reduceToNat, Nat.reduceAdd, Nat.reduceBEq, Nat.reduceLeDiff, Nat.reduceLT, Nat.reduceMul, Nat.reduceSub, Int.reduceEq, Int.reduceLT, Int.reduceLE, Int.reduceNeg, h2, meB, meE, hx]
    cases hy : decide (chE v a b C s y = 0) with
    | false => simp only [go_sem, Int.cast_ofNat_Int, Int.reduceToNat, Nat.reduceAdd, Nat.reduceBEq, Nat.reduceLeDiff, Nat.reduceLT, Nat.reduceMul, Nat.reduceSub, Int.reduceEq, Int.reduceLT, Int.reduceLE, Int.reduceNeg, hy]
    | true => simp only [go_sem, Int.cast_ofNat_Int, Int.reduceToNat, Nat.reduceAdd, Nat.reduceBEq, Nat.reduceLeDiff, Nat.reduceLT, Nat.reduceMul, Nat.reduceSub, Int.reduceEq, Int.reduceLT, Int.reduceLE, Int.reduceNeg, hy]
abbrev hopD : Bool × List DT := (true, [.int .i64, .int .i64, .int .i64, .lst [.int .i64]])
theorem ints_of : ∀ {L : List (List SV)}, (∀ q ∈ L, FitsL [.int .i64] q) → ∃ N, L = iS N
  | [], _ => ⟨[], rfl⟩
  | r :: L, h => by
    obtain ⟨N, rfl⟩ := ints_of (L := L) (fun q hq => h q (by simp [hq]))
    have h0 := h r (by simp)
    obtain ⟨a, _, rfl, _, h0⟩ := fitsL_i h0
    cases fitsL_nil' h0
    exact ⟨a :: N, rfl⟩
theorem hop_of {x : SV} (h : FitsA hopD x) : ∃ v a b C f, x = hl v a b 1 C f ∧ C.length ≤ maxLen := by
  obtain ⟨cs, rfl, k⟩ := fitsA_agg h
  obtain ⟨v, _, rfl, _, k⟩ := fitsL_i k
  obtain ⟨a, _, rfl, _, k⟩ := fitsL_i k
  obtain ⟨b, _, rfl, _, k⟩ := fitsL_i k
  obtain ⟨L1, f1, _, rfl, m1, a1, k⟩ := fitsL_l k
  cases fitsL_nil' k
  obtain ⟨N, rfl⟩ := ints_of a1
  exact ⟨v, a, b, N, f1, rfl, by simpa [iS] using m1⟩
theorem s6 (v a b : Int) (C : List Int) (f : Bool) (x y z : Int) : call1 T 41 (.fn 6) [hl v a b 1 C f, .agg [.int .i64 x, .int .i64 y, .int .i64 z]] heap0 = some (.bool true, heap0) := by
  refine call_pure e6 (by rfl) ?_
  have h11 := s11
  simp only [c6, heap0, go_sem, Int.cast_ofNat_Int, Int.reduceToNat, Nat.reduceAdd, Nat.reduceBEq, Nat.reduceLeDiff, Nat.reduceLT, Nat.reduceMul, Nat.reduceSub, Int.reduceEq, Int.reduceLT, Int.reduceLE, Int.reduceNeg, h11]
  with_reducible refine fork_split (fun h => ?_) (fun h => ?_)
  · simp only [go_sem, Int.cast_ofNat_Int, Int.reduceToNat, Nat.reduceAdd, Nat.reduceBEq, Nat.reduceLeDiff, Nat.reduceLT, Nat.reduceMul, Nat.reduceSub, Int.reduceEq, Int.reduceLT, Int.reduceLE, Int.reduceNeg]
  · have hC : C.length ≤ 20 := by simp only [decide_eq_false_iff_not] at h; omega
    have h12 := fun H => s12 35 H v a b C f x y (by omega)
    have h21 := fun H => s21 36 H v a b C f x y (by omega)
    have h22 := fun H => s22 34 H v a b C f x y z (by omega)
    have h23 := fun H => s23 35 H v a b C f x y z (by omega)
    have h24 := fun H => s24 36 H v a b C f (Nat.le_trans hC (by decide))
    have h25 := fun H => s25 37 H v a b C f (Nat.le_trans hC (by decide))
    simp only [go_sem, Int.cast_ofNat_Int, Int.reduceToNat, Nat.reduceAdd, Nat.reduceBEq, Nat.reduceLeDiff, Nat.reduceLT, Nat.reduceMul, Nat.reduceSub, Int.reduceEq, Int.reduceLT, Int.reduceLE, Int.reduceNeg, h12, h21, h22, h23, h24, h25]
theorem law6 (xs : List SV) (h : FitsAll [hopD, (true, [.int .i64, .int .i64, .int .i64])] xs) : ∃ m, call1 T m (.fn 6) xs heap0 = some (.bool true, heap0) := by
  obtain ⟨x1, r1, rfl, h1, h⟩ := fitsAll_cons h
  obtain ⟨x2, r2, rfl, h2, h⟩ := fitsAll_cons h
  cases fitsAll_nil h
  obtain ⟨v, a, b, C, f, rfl, _⟩ := hop_of h1
  obtain ⟨cs, rfl, k⟩ := fitsA_agg h2
  obtain ⟨x, _, rfl, _, k⟩ := fitsL_i k
  obtain ⟨y, _, rfl, _, k⟩ := fitsL_i k
  obtain ⟨z, _, rfl, _, k⟩ := fitsL_i k
  cases fitsL_nil' k
  exact ⟨41, s6 v a b C f x y z⟩
end Go.Sh
namespace Go.Sh
set_option linter.unusedSectionVars false
set_option linter.unnecessarySimpa false
set_option linter.unusedVariables false
set_option linter.unusedSimpArgs false
set_option maxRecDepth 100000
set_option maxHeartbeats 4000000
theorem difB_at {C : List Int} (h : difB C = true) {i : Nat} (hi : i < C.length) : badAt C i = false := by
  simp only [difB, Bool.and_eq_true, Bool.not_eq_true', decide_eq_true_eq] at h
  have := List.any_eq_false.1 h.1 i (List.mem_range.2 hi)
  simpa using this
theorem difB_chan {C : List Int} (h : difB C = true) {i : Nat} {c : Int} (hi : C[i]? = some c) : chanB c = true := by
  have := difB_at h (List.getElem?_eq_some_iff.1 hi).1
  rw [badAt_some hi, Bool.or_eq_false_iff] at this
  simpa using this.1
theorem difB_ne {C : List Int} (h : difB C = true) {i j : Nat} {c d : Int} (hi : C[i]? = some c) (hj : C[j]? = some d) (hij : i < j) : c ≠ d := by
  intro e
  subst e
  have := difB_at h (List.getElem?_eq_some_iff.1 hj).1
  rw [badAt_some hj, Bool.or_eq_false_iff] at this
  have h2 := of_decide_eq_false this.2
  exact h2 (List.mem_of_getElem? (i := i) (by rw [List.getElem?_take, if_pos hij]; exact hi))
theorem difB_inj {C : List Int} (h : difB C = true) {i j : Nat} {c : Int} (hi : C[i]? = some c) (hj : C[j]? = some c) : i = j := by
  rcases Nat.lt_trichotomy i j with h1 | h1 | h1
  · exact absurd rfl (difB_ne h hi hj h1)
  · exact h1
  · exact absurd rfl (difB_ne h hj hi h1)
theorem chn_get {C : List Int} {s o : Int} (hp : 0 < C.length) (h : 0 ≤ s + o) : C[((s + o) % (C.length : Int)).toNat]? = some (chnA C s o) := by
  have h1 : (s + o) % (C.length : Int) < C.length := Int.emod_lt_of_pos _ (by omega)
  have h0 : 0 ≤ (s + o) % (C.length : Int) := Int.emod_nonneg _ (by omega)
  rw [chnA, List.getD_eq_getElem?_getD, List.getElem?_eq_getElem (by omega)]; rfl
theorem chn_inj {C : List Int} {s o s' o' : Int} (hd : difB C = true) (h : 0 ≤ s + o) (h' : 0 ≤ s' + o') (he : chnA C s o = chnA C s' o') : (s + o) % (C.length : Int) = (s' + o') % (C.length : Int) := by
  have hp := difB_pos hd
  have h1 := chn_get hp h
  have h2 := chn_get hp h'
  rw [← he] at h2
  have := difB_inj hd h1 h2
  have a1 : 0 ≤ (s + o) % (C.length : Int) := Int.emod_nonneg _ (by omega)
  have a2 : 0 ≤ (s' + o') % (C.length : Int) := Int.emod_nonneg _ (by omega)
  omega
theorem mod_near {n x y : Int} (hn : 0 < n) (h : x % n = y % n) (h1 : x - y < n) (h2 : y - x < n) : x = y := by
  have h3 := Int.emod_emod_of_dvd (x - y) (Int.dvd_refl n)
  have h4 : (x - y) % n = 0 := Int.emod_eq_emod_iff_emod_sub_eq_zero.1 h
  obtain ⟨k, hk⟩ := Int.dvd_of_emod_eq_zero h4
  have : k = 0 := by
    rcases Int.lt_trichotomy k 0 with h5 | h5 | h5
    · have := Int.mul_le_mul_of_nonneg_left (show k ≤ -1 by omega) (show 0 ≤ n by omega)
      omega
    · exact h5
    · have := Int.mul_le_mul_of_nonneg_left (show 1 ≤ k by omega) (show 0 ≤ n by omega)
      omega
  subst this
  omega
def sn1 (C : List Int) (s : Int) (k : Nat) : List Int := (List.range k).map fun (i : Nat) => chnA C s i
theorem sn1_len {C s k} : (sn1 C s k).length = k := by simp [sn1]
theorem sn1_succ (C s k) : sn1 C s (k + 1) = sn1 C s k ++ [chnA C s k] := by simp [sn1, List.range_succ]
theorem sn1_new {C : List Int} {s : Int} {k : Nat} (hd : difB C = true) (hs : 0 ≤ s) (hk : k < C.length) : ¬ chnA C s k ∈ sn1 C s k := by
  intro h
  simp only [sn1, List.mem_map, List.mem_range] at h
  obtain ⟨i, hi, he⟩ := h
  have := mod_near (by omega) (chn_inj hd (by omega) (by omega) he) (by omega) (by omega)
  omega
theorem room8 {n : Nat} (h : n ≤ 1000) : decide ((n + 1) * 8 ≤ mostLen) = true := by
  rw [decide_eq_true_eq]
  exact Nat.le_trans (show (n + 1) * 8 ≤ 10000 by omega) (by decide)
theorem s7 (v a b : Int) (C : List Int) (f : Bool) (s : Int) : call1 T 41 (.fn 7) [hl v a b 1 C f, .int .i64 s] heap0 = some (.bool true, heap0) := by
  refine call_pure e7 (by rfl) ?_
  have h11 := s11
  simp only [c7, heap0, go_sem, Int.cast_ofNat_Int, Int.reduceToNat, Nat.reduceAdd, Nat.reduceBEq, Nat.reduceLeDiff, Nat.reduceLT, Nat.reduceMul, Nat.reduceSub, Int.reduceEq, Int.reduceLT, Int.reduceLE, Int.reduceNeg, h11]
  with_reducible refine fork_split (fun h => ?_) (fun h => ?_)
  · simp only [go_sem, Int.cast_ofNat_Int, Int.reduceToNat, Nat.reduceAdd, Nat.reduceBEq, Nat.reduceLeDiff, Nat.reduceLT, Nat.reduceMul, Nat.reduceSub, Int.reduceEq, Int.reduceLT, Int.reduceLE, Int.reduceNeg]
  · have hC : C.length ≤ 20 := by simp only [decide_eq_false_iff_not] at h; omega
    have h12 := fun H o => s12 35 H v a b C f s o (by omega)
    have h22 := fun H x y => s22 34 H v a b C f s x y (by omega)
    simp only [go_sem, Int.cast_ofNat_Int, Int.reduceToNat, Nat.reduceAdd, Nat.reduceBEq, Nat.reduceLeDiff, Nat.reduceLT, Nat.reduceMul, Nat.reduceSub, Int.reduceEq, Int.reduceLT, Int.reduceLE, Int.reduceNeg, h12]
    cases he : decide (chE v a b C s 0 = 0) with
    | false =>
      have hne := of_decide_eq_false he
      have hor : chE v a b C s 0 = 1 ∨ chE v a b C s 0 = 12 := by
        unfold chE at hne ⊢
        cases hok : okH v a b C with
        | false => simp
        | true =>
          have hpos := difB_pos (okH_spec hok).2.2.2.2
          rw [hok] at hne
          simp only [cond_true] at hne ⊢
          cases hin : (decide (a ≤ s) && decide (s < b)) with
          | false => simp
          | true =>
            have : (decide ((0 : Int) ≤ 0) && decide ((0 : Int) < (C.length : Int))) = true := by simp; omega
            rw [hin, this] at hne
            exact absurd rfl hne
      rcases hor with h1 | h1 <;> simp only [go_sem, Int.cast_ofNat_Int, Int.reduceToNat, Nat.reduceAdd, Nat.reduceBEq, Nat.reduceLeDiff, Nat.reduceLT, Nat.reduceMul, Nat.reduceSub, Int.reduceEq, Int.reduceLT, Int.reduceLE, Int.reduceNeg, h1]
    | true =>
      have he0 := of_decide_eq_true he
      obtain ⟨hok, ⟨has, hsb⟩, _, hpos⟩ := chE_ok.1 he0
      obtain ⟨hv, ha, hab, hb, hd⟩ := okH_spec hok
      simp only [go_sem, Int.cast_ofNat_Int, Int.reduceToNat, Nat.reduceAdd, Nat.reduceBEq, Nat.reduceLeDiff, Nat.reduceLT, Nat.reduceMul, Nat.reduceSub, Int.reduceEq, Int.reduceLT, Int.reduceLE, Int.reduceNeg, he0]
      refine loop_rule (fun k => ([(1, .int .i64 s), (2, .ptr 0 0 0 0), (7, .slc 1 k 0 k), (37, .int .i64 C.length), (38, .int .i64 k)], ⟨[.box [.int .i64 v, .int .i64 a, .int .i64 b, .lst 1 (iS C) f], .arr k 1 (iS (sn1 C s k)) false], [], 0⟩)) (fun _ => True) C.length ?_ trivial ?_
      · simp only [go_sem, Int.cast_ofNat_Int, Int.reduceToNat, Nat.reduceAdd, Nat.reduceBEq, Nat.reduceLeDiff, Nat.reduceLT, Nat.reduceMul, Nat.reduceSub, Int.reduceEq, Int.reduceLT, Int.reduceLE, Int.reduceNeg] <;> rfl
      · intro k hk _
        rcases Nat.lt_or_ge k C.length with hlt | hge
        · have hw := w64_suc hlt (Nat.le_trans hC (by decide))
          have hek : chE v a b C s k = 0 := chE_ok.2 ⟨hok, ⟨has, hsb⟩, by omega, by omega⟩
          have hvk : chV v a b C s k = chnA C s k := by simp [chV, hek]
          have hv0 : chV v a b C s 0 = chnA C s 0 := by simp [chV, he0]
          have hfz := fun H v => (Still.ints (sn1 C s k)).fz 0 H 6 v k 1 false (by rw [iS_len, sn1_len])
          have hc1 := fun H => stdCon_ok (n := 38) (H := H) (v := .lst 1 (iS (sn1 C s k)) false) (M := sn1 C s k) (x := chnA C s k) x13 x36 lvI (by rw [sn1_len]; exact Nat.le_trans (show k ≤ 20 by omega) (by decide))
          have hc2 := fun H => stdCon_ok (n := 38) (H := H) (v := .lst 1 (iS C) f) (M := C) (x := chnA C s k) x13 x36 lvI (Nat.le_trans hC (by decide))
          have hnew : decide (chnA C s (k : Int) ∈ sn1 C s k) = false := decide_eq_false (sn1_new hd (by omega) hlt)
          have hold : decide (chnA C s k ∈ C) = true := decide_eq_true (List.mem_of_getElem? (chn_get (by omega) (by omega)))
          have hme : meE v a b C s 0 k = 0 := by simp [meE, he0, hek]
          have hmb : meB v a b C s 0 k = decide ((k : Int) = 0) := by
            simp only [meB, hme, hv0, hvk]
            rw [Bool.eq_iff_iff]
            simp only [decide_true, Bool.true_and, decide_eq_true_eq]
            constructor
            · intro h
              have := mod_near (by omega) (chn_inj hd (by omega) (by omega) h) (by omega) (by omega)
              omega
            · intro h; rw [h]
          have hxx : (decide ((k : Int) = 0) != decide ((k : Int) = 0)) = false := by simp
          have hg := apB_grow 1
          simp only [go_sem, Int.cast_ofNat_Int, Int.reduceToNat, Nat.reduceAdd, Nat.reduceBEq, Nat.reduceLeDiff, Nat.reduceLT, Nat.reduceMul, Nat.reduceSub, Int.reduceEq, Int.reduceLT, Int.reduceLE, Int.reduceNeg, hlt, h12, hek, hvk, hfz, hc1, hc2, hnew, hold, h22, hme, hmb, hxx, apB_grow _ _ _ _ _ _ _ (show (iS (sn1 C s k)).length = k by rw [iS_len, sn1_len]), room8 (show k ≤ 1000 by omega), iS_snoc, ← sn1_succ, hw]
          refine ⟨by first | trivial | omega, by first | trivial | rfl, ?_⟩
          trivial
        · obtain rfl : k = C.length := by omega
          have hlast : chE v a b C s C.length = 2 := by
            have h1 : (decide (a ≤ s) && decide (s < b)) = true := by simp [has, hsb]
            have h2 : (decide ((0 : Int) ≤ (C.length : Int)) && decide ((C.length : Int) < (C.length : Int))) = false := by simp
            simp [chE, hok, h1, h2]
          simp only [go_sem, Int.cast_ofNat_Int, Int.reduceToNat, Nat.reduceAdd, Nat.reduceBEq, Nat.reduceLeDiff, Nat.reduceLT, Nat.reduceMul, Nat.reduceSub, Int.reduceEq, Int.reduceLT, Int.reduceLE, Int.reduceNeg, Nat.lt_irrefl, h12, hlast]
end Go.Sh
namespace Go.Sh
set_option linter.unusedSectionVars false
set_option linter.unnecessarySimpa false
set_option linter.unusedVariables false
set_option linter.unusedSimpArgs false
set_option maxRecDepth 100000
set_option maxHeartbeats 4000000
theorem law7 (xs : List SV) (h : FitsAll [hopD, (false, [.int .i64])] xs) : ∃ m, call1 T m (.fn 7) xs heap0 = some (.bool true, heap0) := by
  obtain ⟨x1, r1, rfl, h1, h⟩ := fitsAll_cons h
  obtain ⟨x2, r2, rfl, h2, h⟩ := fitsAll_cons h
  cases fitsAll_nil h
  obtain ⟨v, a, b, C, f, rfl, _⟩ := hop_of h1
  obtain ⟨s, rfl, _⟩ := fits_int (fitsA_one h2)
  exact ⟨41, s7 v a b C f s⟩
def sn2 (C : List Int) (s o : Int) (k : Nat) : List Int := (List.range k).map fun (i : Nat) => chnA C (s + i) o
theorem sn2_len {C s o k} : (sn2 C s o k).length = k := by simp [sn2]
theorem sn2_succ (C s o k) : sn2 C s o (k + 1) = sn2 C s o k ++ [chnA C (s + k) o] := by simp [sn2, List.range_succ]
theorem sn2_new {C : List Int} {s o : Int} {k : Nat} (hd : difB C = true) (hs : 0 ≤ s) (ho : 0 ≤ o) (hk : k < C.length) : ¬ chnA C (s + k) o ∈ sn2 C s o k := by
  intro h
  simp only [sn2, List.mem_map, List.mem_range] at h
  obtain ⟨i, hi, he⟩ := h
  have := mod_near (by omega) (chn_inj hd (by omega) (by omega) he) (by omega) (by omega)
  omega
theorem s3 (v a b : Int) (C : List Int) (f : Bool) (s o : Int) : call1 T 41 (.fn 3) [hl v a b 1 C f, .int .i64 s, .int .i64 o] heap0 = some (.bool true, heap0) := by
  refine call_pure e3 (by rfl) ?_
  have h11 := s11
  simp only [c3, heap0, go_sem, Int.cast_ofNat_Int, Int.reduceToNat, Nat.reduceAdd, Nat.reduceBEq, Nat.reduceLeDiff, Nat.reduceLT, Nat.reduceMul, Nat.reduceSub, Int.reduceEq, Int.reduceLT, Int.reduceLE, Int.reduceNeg, h11]
  by_cases h : C.length ≤ 20 ∧ 0 ≤ s ∧ s ≤ 1099511627776
  rotate_left
  · repeat' (with_reducible refine fork_split (fun _ => ?_) (fun _ => ?_) <;> simp only [*, go_sem, Int.cast_ofNat_Int, Int.reduceToNat, Nat.reduceAdd, Nat.reduceBEq, Nat.reduceLeDiff, Nat.reduceLT, Nat.reduceMul, Nat.reduceSub, Int.reduceEq, Int.reduceLT, Int.reduceLE, Int.reduceNeg])
    all_goals (exfalso; apply h; simp only [decide_eq_false_iff_not] at *; omega)
  · obtain ⟨hC, hs0, hs1⟩ := h
    have q1 : decide (20 < (C.length : Int)) = false := decide_eq_false (by omega)
    have q2 : decide (s < 0) = false := decide_eq_false (by omega)
    have q3 : decide (1099511627776 < s) = false := decide_eq_false (by omega)
    have h12 := fun H s => s12 35 H v a b C f s o (by omega)
    simp only [q1, q2, q3, go_sem, Int.cast_ofNat_Int, Int.reduceToNat, Nat.reduceAdd, Nat.reduceBEq, Nat.reduceLeDiff, Nat.reduceLT, Nat.reduceMul, Nat.reduceSub, Int.reduceEq, Int.reduceLT, Int.reduceLE, Int.reduceNeg]
    refine loop_rule (fun k => ([(1, .int .i64 s), (2, .int .i64 o), (3, .ptr 0 0 0 0), (7, .slc 1 k 0 k), (29, .int .i64 C.length), (30, .int .i64 k)], ⟨[.box [.int .i64 v, .int .i64 a, .int .i64 b, .lst 1 (iS C) f], .arr k 1 (iS (sn2 C s o k)) false], [], 0⟩)) (fun k => ∀ i : Nat, i < k → chE v a b C (s + i) o = 0) C.length ?_ (fun i hi => by omega) ?_
    · simp only [go_sem, Int.cast_ofNat_Int, Int.reduceToNat, Nat.reduceAdd, Nat.reduceBEq, Nat.reduceLeDiff, Nat.reduceLT, Nat.reduceMul, Nat.reduceSub, Int.reduceEq, Int.reduceLT, Int.reduceLE, Int.reduceNeg] <;> rfl
    · intro k hk hP
      rcases Nat.lt_or_ge k C.length with hlt | hge
      · have hw := w64_suc hlt (Nat.le_trans hC (by decide))
        have hw2 : w64 (s + k) = s + k := w64_id (by omega) (by omega)
        cases he : decide (chE v a b C (s + k) o = 0) with
        | false => simp only [go_sem, Int.cast_ofNat_Int, Int.reduceToNat, Nat.reduceAdd, Nat.reduceBEq, Nat.reduceLeDiff, Nat.reduceLT, Nat.reduceMul, Nat.reduceSub, Int.reduceEq, Int.reduceLT, Int.reduceLE, Int.reduceNeg, hlt, hw2, h12, he]
        | true =>
          have he0 := of_decide_eq_true he
          obtain ⟨hok, ⟨has, hsb⟩, ho, hpos⟩ := chE_ok.1 he0
          obtain ⟨hv, ha, hab, hb, hd⟩ := okH_spec hok
          have hvk : chV v a b C (s + k) o = chnA C (s + k) o := by simp [chV, he0]
          have hfz := fun H v => (Still.ints (sn2 C s o k)).fz 0 H 6 v k 1 false (by rw [iS_len, sn2_len])
          have hc1 := fun H => stdCon_ok (n := 38) (H := H) (v := .lst 1 (iS (sn2 C s o k)) false) (M := sn2 C s o k) (x := chnA C (s + k) o) x13 x36 lvI (by rw [sn2_len]; exact Nat.le_trans (show k ≤ 20 by omega) (by decide))
          have hnew : decide (chnA C (s + (k : Int)) o ∈ sn2 C s o k) = false := decide_eq_false (sn2_new hd (by omega) ho hlt)
          simp only [go_sem, Int.cast_ofNat_Int, Int.reduceToNat, Nat.reduceAdd, Nat.reduceBEq, Nat.reduceLeDiff, Nat.reduceLT, Nat.reduceMul, Nat.reduceSub, Int.reduceEq, Int.reduceLT, Int.reduceLE, Int.reduceNeg, hlt, hw2, h12, he0, hvk, hfz, hc1, hnew, apB_grow _ _ _ _ _ _ _ (show (iS (sn2 C s o k)).length = k by rw [iS_len, sn2_len]), room8 (show k ≤ 1000 by omega), iS_snoc, ← sn2_succ, hw]
          refine ⟨by first | trivial | omega, by first | trivial | rfl, ?_⟩
          intro i hi
          rcases Nat.lt_or_ge i k with h3 | h3
          · exact hP i h3
          · obtain rfl : i = k := by omega
            exact he0
      · obtain rfl : k = C.length := by omega
        have hw2 : w64 (s + C.length) = s + C.length := w64_id (by omega) (by omega)
        simp only [go_sem, Int.cast_ofNat_Int, Int.reduceToNat, Nat.reduceAdd, Nat.reduceBEq, Nat.reduceLeDiff, Nat.reduceLT, Nat.reduceMul, Nat.reduceSub, Int.reduceEq, Int.reduceLT, Int.reduceLE, Int.reduceNeg, Nat.lt_irrefl, hw2, h12]
        by_cases h0 : C.length = 0
        · simp only [go_sem, Int.cast_ofNat_Int, Int.reduceToNat, Nat.reduceAdd, Nat.reduceBEq, Nat.reduceLeDiff, Nat.reduceLT, Nat.reduceMul, Nat.reduceSub, Int.reduceEq, Int.reduceLT, Int.reduceLE, Int.reduceNeg, h0]
        · have hz : decide ((C.length : Int) = 0) = false := decide_eq_false (by omega)
          simp only [go_sem, Int.cast_ofNat_Int, Int.reduceToNat, Nat.reduceAdd, Nat.reduceBEq, Nat.reduceLeDiff, Nat.reduceLT, Nat.reduceMul, Nat.reduceSub, Int.reduceEq, Int.reduceLT, Int.reduceLE, Int.reduceNeg, hz]
          cases he : decide (chE v a b C (s + C.length) o = 0) with
          | false => simp only [go_sem, Int.cast_ofNat_Int, Int.reduceToNat, Nat.reduceAdd, Nat.reduceBEq, Nat.reduceLeDiff, Nat.reduceLT, Nat.reduceMul, Nat.reduceSub, Int.reduceEq, Int.reduceLT, Int.reduceLE, Int.reduceNeg, he]
          | true =>
            have he0 := of_decide_eq_true he
            have hvk : chV v a b C (s + C.length) o = chnA C (s + C.length) o := by simp [chV, he0]
            have hget : (sn2 C s o C.length)[0]? = some (chnA C (s + C.length) o) := by
              have : chnA C (s + C.length) o = chnA C (s + (0 : Nat)) o := by
                unfold chnA
                have : s + (C.length : Int) + o = s + ((0 : Nat) : Int) + o + (C.length : Int) := by omega
                rw [this, Int.add_emod_right]
              rw [this, sn2, List.getElem?_map, List.getElem?_range (by omega)]
              rfl
            have hzz : decide ((0 : Int) < (C.length : Int)) = true := decide_eq_true (by omega)
            simp only [go_sem, Int.cast_ofNat_Int, Int.reduceToNat, Nat.reduceAdd, Nat.reduceBEq, Nat.reduceLeDiff, Nat.reduceLT, Nat.reduceMul, Nat.reduceSub, Int.reduceEq, Int.reduceLT, Int.reduceLE, Int.reduceNeg, he0, hvk, hget, hzz]
theorem law3 (xs : List SV) (h : FitsAll [hopD, (false, [.int .i64]), (false, [.int .i64])] xs) : ∃ m, call1 T m (.fn 3) xs heap0 = some (.bool true, heap0) := by
  obtain ⟨x1, r1, rfl, h1, h⟩ := fitsAll_cons h
  obtain ⟨x2, r2, rfl, h2, h⟩ := fitsAll_cons h
  obtain ⟨x3, r3, rfl, h3, h⟩ := fitsAll_cons h
  cases fitsAll_nil h
  obtain ⟨v, a, b, C, f, rfl, _⟩ := hop_of h1
  obtain ⟨s, rfl, _⟩ := fits_int (fitsA_one h2)
  obtain ⟨o, rfl, _⟩ := fits_int (fitsA_one h3)
  exact ⟨41, s3 v a b C f s o⟩
end Go.Sh
namespace Go.Sh
set_option linter.unusedSectionVars false
set_option linter.unnecessarySimpa false
set_option linter.unusedVariables false
set_option linter.unusedSimpArgs false
set_option maxRecDepth 100000
set_option maxHeartbeats 4000000
structure Hp where
  v : Int
  a : Int
  b : Int
  C : List Int
  f : Bool
abbrev hpC (h : Hp) : List SV := [.int .i64 h.v, .int .i64 h.a, .int .i64 h.b, .lst 1 (iS h.C) h.f]
def hpsS (L : List Hp) : List (List SV) := L.map hpC
@[go_sem] theorem hpsS_len {L : List Hp} : (hpsS L).length = L.length := by simp [hpsS]
@[go_sem] theorem hpsS_get (L : List Hp) (i : Nat) : (hpsS L)[i]? = (L[i]?).map hpC := by simp [hpsS]
abbrev okP (h : Hp) : Bool := okH h.v h.a h.b h.C
def errAt (L : List Hp) (i : Nat) : Int := match L[i]? with
  | some h => bif okP h then (match i with
    | 0 => 0
    | j + 1 => match L[j]? with
      | some g => bif decide (h.a = g.b) then (bif decide (h.v = (w64 (g.v + 1)).tmod 256) then 0 else 23) else 5
      | none => 0) else 1
  | none => 0
def fstE (e : Nat → Int) (k : Nat) : Int := match (List.range k).find? (fun i => decide (e i ≠ 0)) with
  | some i => e i
  | none => 0
theorem fstE_none {e : Nat → Int} {k : Nat} (h : ∀ j, j < k → e j = 0) : fstE e k = 0 := by
  have : (List.range k).find? (fun i => decide (e i ≠ 0)) = none := by
    rw [List.find?_eq_none]
    intro i hi
    simp [h i (List.mem_range.1 hi)]
  unfold fstE; rw [this]
theorem fstE_at {e : Nat → Int} {k i : Nat} {x : Int} (hi : i < k) (h : ∀ j, j < i → e j = 0) (hx : e i = x) (h0 : x ≠ 0) : fstE e k = x := by
  have : (List.range k).find? (fun i => decide (e i ≠ 0)) = some i := by
    rw [List.find?_range_eq_some]
    refine ⟨by simp [hx, h0], by simpa using hi, fun j hj => by simp [h j hj]⟩
  unfold fstE; rw [this]; exact hx
def caE (L : List Hp) : Int := bif decide (1 ≤ L.length) && decide (L.length ≤ 1024) then fstE (errAt L) L.length else 1
def hopOK (L : List Hp) : Prop := ∀ h ∈ L, h.C.length ≤ 1000
theorem s27 (n : Nat) (H : Heap) (L : List Hp) (fl : Bool) (hm : L.length ≤ maxLen) (hC : hopOK L) : call1 T (n + 5) (.fn 27) [.lst 4 (hpsS L) fl] H = some (.int .i64 (caE L), H) := by
  refine call_pure e27 (by rfl) ?_
  simp only [c27, heap0, go_sem, Int.cast_ofNat_Int, Int.reduceToNat, Nat.reduceAdd, Nat.reduceBEq, Nat.reduceLeDiff, Nat.reduceLT, Nat.reduceMul, Nat.reduceSub, Int.reduceEq, Int.reduceLT, Int.reduceLE, Int.reduceNeg]
  by_cases hlen : 1 ≤ L.length ∧ L.length ≤ 1024
  rotate_left
  · have hca : caE L = 1 := by
      have : (decide (1 ≤ L.length) && decide (L.length ≤ 1024)) = false := by
        rw [Bool.and_eq_false_iff]; simp only [decide_eq_false_iff_not]; omega
      simp [caE, this]
    repeat' (with_reducible refine fork_split (fun _ => ?_) (fun _ => ?_) <;> simp only [*, go_sem, Int.cast_ofNat_Int, Int.reduceToNat, Nat.reduceAdd, Nat.reduceBEq, Nat.reduceLeDiff, Nat.reduceLT, Nat.reduceMul, Nat.reduceSub, Int.reduceEq, Int.reduceLT, Int.reduceLE, Int.reduceNeg, hca])
    all_goals (exfalso; apply hlen; simp only [decide_eq_false_iff_not] at *; omega)
  · have q1 : decide ((L.length : Int) < 1) = false := decide_eq_false (by omega)
    have q2 : decide (1024 < (L.length : Int)) = false := decide_eq_false (by omega)
    have hca : caE L = fstE (errAt L) L.length := by simp [caE, hlen]
    rw [hca]
    simp only [go_sem, Int.cast_ofNat_Int, Int.reduceToNat, Nat.reduceAdd, Nat.reduceBEq, Nat.reduceLeDiff, Nat.reduceLT, Nat.reduceMul, Nat.reduceSub, Int.reduceEq, Int.reduceLT, Int.reduceLE, Int.reduceNeg, q1, q2]
    refine loop_rule (fun i => ([(0, .lst 4 (hpsS L) fl), (13, .lst 4 (hpsS L) fl), (14, .int .i64 L.length), (15, .int .i64 i)], ⟨[], [], 0⟩)) (fun i => ∀ j : Nat, j < i → errAt L j = 0) L.length ?_ (fun j h => by omega) ?_
    · simp only [go_sem, Int.cast_ofNat_Int, Int.reduceToNat, Nat.reduceAdd, Nat.reduceBEq, Nat.reduceLeDiff, Nat.reduceLT, Nat.reduceMul, Nat.reduceSub, Int.reduceEq, Int.reduceLT, Int.reduceLE, Int.reduceNeg] <;> rfl
    · intro i hi hP
      rcases Nat.lt_or_ge i L.length with hlt | hge
      · obtain ⟨h, hh⟩ := getS hlt
        have hw := w64_suc hlt hm
        have h24 := fun H => s24 n H h.v h.a h.b h.C h.f (Nat.le_trans (hC h (List.mem_of_getElem? hh)) (by decide))
        cases hok : okP h with
        | false =>
          have he : errAt L i = 1 := by simp [errAt, hh, hok]
          rw [fstE_at hlt hP he (by decide)]
          rw [ckH_no hok] at h24
          simp only [go_sem, Int.cast_ofNat_Int, Int.reduceToNat, Nat.reduceAdd, Nat.reduceBEq, Nat.reduceLeDiff, Nat.reduceLT, Nat.reduceMul, Nat.reduceSub, Int.reduceEq, Int.reduceLT, Int.reduceLE, Int.reduceNeg, hlt, hh, put1, h24]
        | true =>
          rw [ckH_yes hok] at h24
          have nxt : errAt L i = 0 → ∀ j : Nat, j < i + 1 → errAt L j = 0 := fun h0 j hj => by
            rcases Nat.lt_or_ge j i with h3 | h3
            · exact hP j h3
            · obtain rfl : j = i := by omega
              exact h0
          cases i with
          | zero =>
            have he : errAt L 0 = 0 := by simp [errAt, hh, hok]
            have hw0 : w64 (0 + 1) = 1 := by decide
            have e0 : decide ((0 : Int) < (L.length : Int)) = true := decide_eq_true (by omega)
            simp only [go_sem, Int.cast_ofNat_Int, Int.reduceToNat, Nat.reduceAdd, Nat.reduceBEq, Nat.reduceLeDiff, Nat.reduceLT, Nat.reduceMul, Nat.reduceSub, Int.reduceEq, Int.reduceLT, Int.reduceLE, Int.reduceNeg, e0, hlt, hh, put1, h24, hw0]
            refine ⟨by first | trivial | omega, by first | trivial | rfl, ?_⟩
            exact nxt he
          | succ j =>
            obtain ⟨g, hg⟩ := getS (l := L) (i := j) (by omega)
            have hj1 : w64 (((j + 1 : Nat) : Int) - 1) = (j : Int) := by rw [w64_id (by omega) (by omega)]; omega
            have hpos : decide ((0 : Int) < ((j + 1 : Nat) : Int)) = true := decide_eq_true (by omega)
            have hjl : j < L.length := by omega
            simp only [go_sem, Int.cast_ofNat_Int, Int.reduceToNat, Nat.reduceAdd, Nat.reduceBEq, Nat.reduceLeDiff, Nat.reduceLT, Nat.reduceMul, Nat.reduceSub, Int.reduceEq, Int.reduceLT, Int.reduceLE, Int.reduceNeg, hlt, hh, put1, h24, hpos, hj1, hjl, hg]
            cases ha : decide (h.a = g.b) with
            | false =>
              have he : errAt L (j + 1) = 5 := by simp only [errAt, hh, hok, hg, ha, cond_true, cond_false]
              rw [fstE_at hlt hP he (by decide)]
              simp only [go_sem, Int.cast_ofNat_Int, Int.reduceToNat, Nat.reduceAdd, Nat.reduceBEq, Nat.reduceLeDiff, Nat.reduceLT, Nat.reduceMul, Nat.reduceSub, Int.reduceEq, Int.reduceLT, Int.reduceLE, Int.reduceNeg, ha]
            | true =>
              simp only [go_sem, Int.cast_ofNat_Int, Int.reduceToNat, Nat.reduceAdd, Nat.reduceBEq, Nat.reduceLeDiff, Nat.reduceLT, Nat.reduceMul, Nat.reduceSub, Int.reduceEq, Int.reduceLT, Int.reduceLE, Int.reduceNeg, ha, hpos, hj1, hjl, hg]
              cases hb : decide (h.v = (w64 (g.v + 1)).tmod 256) with
              | false =>
                have he : errAt L (j + 1) = 23 := by simp only [errAt, hh, hok, hg, ha, hb, cond_true, cond_false]
                rw [fstE_at hlt hP he (by decide)]
                simp only [go_sem, Int.cast_ofNat_Int, Int.reduceToNat, Nat.reduceAdd, Nat.reduceBEq, Nat.reduceLeDiff, Nat.reduceLT, Nat.reduceMul, Nat.reduceSub, Int.reduceEq, Int.reduceLT, Int.reduceLE, Int.reduceNeg, hb]
              | true =>
                have he : errAt L (j + 1) = 0 := by simp only [errAt, hh, hok, hg, ha, hb, cond_true]
                simp only [go_sem, Int.cast_ofNat_Int, Int.reduceToNat, Nat.reduceAdd, Nat.reduceBEq, Nat.reduceLeDiff, Nat.reduceLT, Nat.reduceMul, Nat.reduceSub, Int.reduceEq, Int.reduceLT, Int.reduceLE, Int.reduceNeg, hb, hw]
                refine ⟨by first | trivial | omega, by first | trivial | rfl, ?_⟩
                exact nxt he
      · obtain rfl : i = L.length := by omega
        rw [fstE_none hP]
        simp only [go_sem, Int.cast_ofNat_Int, Int.reduceToNat, Nat.reduceAdd, Nat.reduceBEq, Nat.reduceLeDiff, Nat.reduceLT, Nat.reduceMul, Nat.reduceSub, Int.reduceEq, Int.reduceLT, Int.reduceLE, Int.reduceNeg, Nat.lt_irrefl]
theorem s32 (n : Nat) (H : Heap) (L : List Hp) (fl : Bool) (hm : L.length ≤ maxLen) (hC : hopOK L) : call1 T (n + 4) (.fn 32) [.lst 4 (hpsS L) fl] H = some (.int .i64 (caE L), H) := by
  refine call_pure e32 (by rfl) ?_
  simp only [c32, heap0, go_sem, Int.cast_ofNat_Int, Int.reduceToNat, Nat.reduceAdd, Nat.reduceBEq, Nat.reduceLeDiff, Nat.reduceLT, Nat.reduceMul, Nat.reduceSub, Int.reduceEq, Int.reduceLT, Int.reduceLE, Int.reduceNeg]
  by_cases hlen : 1 ≤ L.length ∧ L.length ≤ 1024
  rotate_left
  · have hca : caE L = 1 := by
      have : (decide (1 ≤ L.length) && decide (L.length ≤ 1024)) = false := by
        rw [Bool.and_eq_false_iff]; simp only [decide_eq_false_iff_not]; omega
      simp [caE, this]
    repeat' (with_reducible refine fork_split (fun _ => ?_) (fun _ => ?_) <;> simp only [*, go_sem, Int.cast_ofNat_Int, Int.reduceToNat, Nat.reduceAdd, Nat.reduceBEq, Nat.reduceLeDiff, Nat.reduceLT, Nat.reduceMul, Nat.reduceSub, Int.reduceEq, Int.reduceLT, Int.reduceLE, Int.reduceNeg, hca])
    all_goals (exfalso; apply hlen; simp only [decide_eq_false_iff_not] at *; omega)
  · have q1 : decide ((L.length : Int) < 1) = false := decide_eq_false (by omega)
    have q2 : decide (1024 < (L.length : Int)) = false := decide_eq_false (by omega)
    have hca : caE L = fstE (errAt L) L.length := by simp [caE, hlen]
    rw [hca]
    simp only [go_sem, Int.cast_ofNat_Int, Int.reduceToNat, Nat.reduceAdd, Nat.reduceBEq, Nat.reduceLeDiff, Nat.reduceLT, Nat.reduceMul, Nat.reduceSub, Int.reduceEq, Int.reduceLT, Int.reduceLE, Int.reduceNeg, q1, q2]
    refine loop_rule (fun i => ([(0, .lst 4 (hpsS L) fl), (3, .int .i64 i)], ⟨[], [], 0⟩)) (fun i => ∀ j : Nat, j < i → errAt L j = 0) L.length ?_ (fun j h => by omega) ?_
    · simp only [go_sem, Int.cast_ofNat_Int, Int.reduceToNat, Nat.reduceAdd, Nat.reduceBEq, Nat.reduceLeDiff, Nat.reduceLT, Nat.reduceMul, Nat.reduceSub, Int.reduceEq, Int.reduceLT, Int.reduceLE, Int.reduceNeg] <;> rfl
    · intro i hi hP
      rcases Nat.lt_or_ge i L.length with hlt | hge
      · obtain ⟨h, hh⟩ := getS hlt
        have hw := w64_suc hlt hm
        have h25 := fun H => s25 n H h.v h.a h.b h.C h.f (Nat.le_trans (hC h (List.mem_of_getElem? hh)) (by decide))
        cases hok : okP h with
        | false =>
          have he : errAt L i = 1 := by simp [errAt, hh, hok]
          rw [fstE_at hlt hP he (by decide)]
          rw [ckH_no hok] at h25
          simp only [go_sem, Int.cast_ofNat_Int, Int.reduceToNat, Nat.reduceAdd, Nat.reduceBEq, Nat.reduceLeDiff, Nat.reduceLT, Nat.reduceMul, Nat.reduceSub, Int.reduceEq, Int.reduceLT, Int.reduceLE, Int.reduceNeg, hlt, hh, put1, h25]
        | true =>
          rw [ckH_yes hok] at h25
          have nxt : errAt L i = 0 → ∀ j : Nat, j < i + 1 → errAt L j = 0 := fun h0 j hj => by
            rcases Nat.lt_or_ge j i with h3 | h3
            · exact hP j h3
            · obtain rfl : j = i := by omega
              exact h0
          cases i with
          | zero =>
            have he : errAt L 0 = 0 := by simp [errAt, hh, hok]
            have hw0 : w64 (0 + 1) = 1 := by decide
            have e0 : decide ((0 : Int) < (L.length : Int)) = true := decide_eq_true (by omega)
            simp only [go_sem, Int.cast_ofNat_Int, Int.reduceToNat, Nat.reduceAdd, Nat.reduceBEq, Nat.reduceLeDiff, Nat.reduceLT, Nat.reduceMul, Nat.reduceSub, Int.reduceEq, Int.reduceLT, Int.reduceLE, Int.reduceNeg, e0, hlt, hh, put1, h25, hw0]
            refine ⟨by first | trivial | omega, by first | trivial | rfl, ?_⟩
            exact nxt he
          | succ j =>
            obtain ⟨g, hg⟩ := getS (l := L) (i := j) (by omega)
            have hj1 : w64 (((j + 1 : Nat) : Int) - 1) = (j : Int) := by rw [w64_id (by omega) (by omega)]; omega
            have hpos : decide ((0 : Int) < ((j + 1 : Nat) : Int)) = true := decide_eq_true (by omega)
            have hjl : j < L.length := by omega
            simp only [go_sem, Int.cast_ofNat_Int, Int.reduceToNat, Nat.reduceAdd, Nat.reduceBEq, Nat.reduceLeDiff, Nat.reduceLT, Nat.reduceMul, Nat.reduceSub, Int.reduceEq, Int.reduceLT, Int.reduceLE, Int.reduceNeg, hlt, hh, put1, h25, hpos, hj1, hjl, hg]
            cases ha : decide (h.a = g.b) with
            | false =>
              have he : errAt L (j + 1) = 5 := by simp only [errAt, hh, hok, hg, ha, cond_true, cond_false]
              rw [fstE_at hlt hP he (by decide)]
              simp only [go_sem, Int.cast_ofNat_Int, Int.reduceToNat, Nat.reduceAdd, Nat.reduceBEq, Nat.reduceLeDiff, Nat.reduceLT, Nat.reduceMul, Nat.reduceSub, Int.reduceEq, Int.reduceLT, Int.reduceLE, Int.reduceNeg, ha]
            | true =>
              simp only [go_sem, Int.cast_ofNat_Int, Int.reduceToNat, Nat.reduceAdd, Nat.reduceBEq, Nat.reduceLeDiff, Nat.reduceLT, Nat.reduceMul, Nat.reduceSub, Int.reduceEq, Int.reduceLT, Int.reduceLE, Int.reduceNeg, ha, hlt, hh, hpos, hj1, hjl, hg]
              cases hb : decide (h.v = (w64 (g.v + 1)).tmod 256) with
              | false =>
                have he : errAt L (j + 1) = 23 := by simp only [errAt, hh, hok, hg, ha, hb, cond_true, cond_false]
                rw [fstE_at hlt hP he (by decide)]
                simp only [go_sem, Int.cast_ofNat_Int, Int.reduceToNat, Nat.reduceAdd, Nat.reduceBEq, Nat.reduceLeDiff, Nat.reduceLT, Nat.reduceMul, Nat.reduceSub, Int.reduceEq, Int.reduceLT, Int.reduceLE, Int.reduceNeg, hb]
              | true =>
                have he : errAt L (j + 1) = 0 := by simp only [errAt, hh, hok, hg, ha, hb, cond_true]
                simp only [go_sem, Int.cast_ofNat_Int, Int.reduceToNat, Nat.reduceAdd, Nat.reduceBEq, Nat.reduceLeDiff, Nat.reduceLT, Nat.reduceMul, Nat.reduceSub, Int.reduceEq, Int.reduceLT, Int.reduceLE, Int.reduceNeg, hb, hw]
                refine ⟨by first | trivial | omega, by first | trivial | rfl, ?_⟩
                exact nxt he
      · obtain rfl : i = L.length := by omega
        rw [fstE_none hP]
        simp only [go_sem, Int.cast_ofNat_Int, Int.reduceToNat, Nat.reduceAdd, Nat.reduceBEq, Nat.reduceLeDiff, Nat.reduceLT, Nat.reduceMul, Nat.reduceSub, Int.reduceEq, Int.reduceLT, Int.reduceLE, Int.reduceNeg, Nat.lt_irrefl]
end Go.Sh
namespace Go.Sh
set_option linter.unusedSectionVars false
set_option linter.unnecessarySimpa false
set_option linter.unusedVariables false
set_option linter.unusedSimpArgs false
set_option maxRecDepth 100000
set_option maxHeartbeats 4000000
theorem hps_row {L : List Hp} : ∀ r ∈ hpsS L, r.length = 4 := by
  intro r hr
  simp only [hpsS, List.mem_map] at hr
  obtain ⟨h, _, rfl⟩ := hr
  rfl
theorem hps_still (L : List Hp) : Still (hpsS L) := by
  intro cs hcs c hc
  simp only [hpsS, List.mem_map] at hcs
  obtain ⟨h, _, rfl⟩ := hcs
  simp only [List.mem_cons, List.not_mem_nil, or_false] at hc
  rcases hc with rfl | rfl | rfl | rfl <;> exact ⟨by simp [SV.refs], fun N H d => by simp only [frz]⟩
def toHp (r : List SV) : Hp := match r with
  | [.int _ v, .int _ a, .int _ b, .lst _ L f] => ⟨v, a, b, L.map (fun c => match c with | [.int _ x] => x | _ => 0), f⟩
  | _ => ⟨0, 0, 0, [], true⟩
theorem toHp_of (h : Hp) : toHp (hpC h) = h := by
  obtain ⟨v, a, b, C, f⟩ := h
  simp [toHp, iS, Function.comp_def]
theorem any_hp (p : Hp → Bool) (L : List Hp) : (hpsS L).any (fun r => p (toHp r)) = L.any p := by
  simp only [hpsS, List.any_map]
  congr 1
  funext h
  exact congrArg p (toHp_of h)
theorem idx_hp (p : Hp → Bool) (L : List Hp) : idx1 (fun r => p (toHp r)) (hpsS L) = idx1 p L := by
  unfold hpsS
  rw [idx1_map]
  congr 1
  funext h
  exact congrArg p (toHp_of h)
def longB (h : Hp) : Bool := decide (20 < h.C.length)
theorem s46 (n : Nat) (H : Heap) (h : Hp) : call1 T (n + 1) (.fn 46) [.agg (hpC h)] H = some (.bool (longB h), H) := by
  refine call_pure e46 (by rfl) ?_
  simp only [c46, heap0, go_sem, Int.cast_ofNat_Int, Int.reduceToNat, Nat.reduceAdd, Nat.reduceBEq, Nat.reduceLeDiff, Nat.reduceLT, Nat.reduceMul, Nat.reduceSub, Int.reduceEq, Int.reduceLT, Int.reduceLE, Int.reduceNeg, longB]
  congr 2
  rw [Bool.eq_iff_iff, decide_eq_true_eq, decide_eq_true_eq]; omega
def fewB (L : List Hp) : Bool := decide (L.length ≤ 10) && !L.any longB
theorem s28 (n : Nat) (H : Heap) (L : List Hp) (fl : Bool) (hm : L.length ≤ maxLen) : call1 T (n + 4) (.fn 28) [.lst 4 (hpsS L) fl] H = some (.bool (fewB L), H) := by
  refine call_pure e28 (by rfl) ?_
  have h33 := fun H => stdCF_ok (T := T) (f := 33) (n := n + 1) (H := H) (ag := true) (z := 4) (id := 46) (caps := []) (v := .lst 4 (hpsS L) fl) (L := hpsS L) (p := fun r => longB (toHp r)) x33 x47 (.lst 4 fl (.inl rfl)) hps_row (fun h => by cases h) (by simpa [hpsS] using hm)
    (fun r hr bl ro _ => by
      simp only [hpsS, List.mem_map] at hr
      obtain ⟨h, _, rfl⟩ := hr
      rw [toHp_of]
      exact s46 n ⟨bl, [], ro⟩ h) (by simp [SV.refs.refsL])
  simp only [any_hp] at h33
  simp only [c28, heap0, go_sem, Int.cast_ofNat_Int, Int.reduceToNat, Nat.reduceAdd, Nat.reduceBEq, Nat.reduceLeDiff, Nat.reduceLT, Nat.reduceMul, Nat.reduceSub, Int.reduceEq, Int.reduceLT, Int.reduceLE, Int.reduceNeg]
  have hd : decide ((L.length : Int) ≤ 10) = decide (L.length ≤ 10) := by
    rw [Bool.eq_iff_iff, decide_eq_true_eq, decide_eq_true_eq]; omega
  rw [hd]
  cases hx : decide (L.length ≤ 10) with
  | false => simp only [go_sem, Int.cast_ofNat_Int, Int.reduceToNat, Nat.reduceAdd, Nat.reduceBEq, Nat.reduceLeDiff, Nat.reduceLT, Nat.reduceMul, Nat.reduceSub, Int.reduceEq, Int.reduceLT, Int.reduceLE, Int.reduceNeg, fewB, hx]
  | true => simp only [go_sem, Int.cast_ofNat_Int, Int.reduceToNat, Nat.reduceAdd, Nat.reduceBEq, Nat.reduceLeDiff, Nat.reduceLT, Nat.reduceMul, Nat.reduceSub, Int.reduceEq, Int.reduceLT, Int.reduceLE, Int.reduceNeg, h33, fewB, hx]
def clr (h : Hp) : Hp := { h with f := false }
def cpk (L : List Hp) (k : Nat) : List Hp := (L.take k).map clr ++ L.drop k
theorem cpk_len (L : List Hp) (k : Nat) : (cpk L k).length = L.length := by simp [cpk]; omega
theorem cpk_get {L : List Hp} {k : Nat} {h : Hp} (hh : L[k]? = some h) : (cpk L k)[k]? = some h := by
  have := (List.getElem?_eq_some_iff.1 hh).1
  rw [cpk, List.getElem?_append_right (by simp; omega)]
  simp only [List.length_map, List.length_take]
  rw [List.getElem?_drop, show k + (k - min k L.length) = k by omega, hh]
theorem cpk_set {L : List Hp} {k : Nat} {h : Hp} (hh : L[k]? = some h) : (cpk L k).set k (clr h) = cpk L (k + 1) := by
  have hl := (List.getElem?_eq_some_iff.1 hh).1
  rw [cpk, cpk, take_snoc hh, List.set_append_right _ _ (by simp; omega)]
  simp only [List.length_map, List.length_take, List.map_append, List.map_cons, List.map_nil, List.append_assoc]
  rw [show k - min k L.length = 0 by omega]
  have : L.drop k = h :: L.drop (k + 1) := by
    rw [List.drop_eq_getElem_cons hl, (List.getElem?_eq_some_iff.1 hh).2]
  rw [this]
  rfl
theorem room48 {n : Nat} (h : n ≤ 1000) : n * 48 ≤ mostLen := Nat.le_trans (show n * 48 ≤ 100000 by omega) (by decide)
theorem room8' {n : Nat} (h : n ≤ 1000) : n * 8 ≤ mostLen := Nat.le_trans (show n * 8 ≤ 100000 by omega) (by decide)
theorem s15 (n : Nat) (H : Heap) (C : List Int) (f : Bool) (hC : C.length ≤ 1000) : call1 T (n + 1) (.fn 15) [.lst 1 (iS C) f] H = some (.lst 1 (iS C) false, H) :=
  stdClone_ok x15 (.inl rfl) (Still.ints C) (by rw [iS_len]; exact room8' hC)
theorem s30 (n : Nat) (H : Heap) (L : List Hp) (fl : Bool) (hm : L.length ≤ 1000) (hC : hopOK L) : call1 T (n + 2) (.fn 30) [.lst 4 (hpsS L) fl] H = some (.lst 4 (hpsS (L.map clr)) false, H) := by
  refine call_pure e30 (by rfl) ?_
  have h49 := stdCloneK_ok (T := T) (f := 49) (n := n) (z := 4) (z' := 4) (L := hpsS L) (fl := fl) x49 (.inl rfl) (by rw [hpsS_len]; exact room48 hm)
  simp only [hpsS_len] at h49
  simp only [c30, heap0, go_sem, Int.cast_ofNat_Int, Int.reduceToNat, Nat.reduceAdd, Nat.reduceBEq, Nat.reduceLeDiff, Nat.reduceLT, Nat.reduceMul, Nat.reduceSub, Int.reduceEq, Int.reduceLT, Int.reduceLE, Int.reduceNeg, h49]
  refine loop_rule (fun i => ([(3, .slc 0 0 0 L.length), (8, .int .i64 L.length), (9, .int .i64 i)], ⟨[.arr 0 4 (hpsS (cpk L i)) false], [], 0⟩)) (fun _ => True) L.length ?_ trivial ?_
  · simp only [go_sem, Int.cast_ofNat_Int, Int.reduceToNat, Nat.reduceAdd, Nat.reduceBEq, Nat.reduceLeDiff, Nat.reduceLT, Nat.reduceMul, Nat.reduceSub, Int.reduceEq, Int.reduceLT, Int.reduceLE, Int.reduceNeg] <;> rfl
  · intro i hi _
    rcases Nat.lt_or_ge i L.length with hlt | hge
    · obtain ⟨h, hh⟩ := getS hlt
      have hw := w64_suc hlt (Nat.le_trans hm (by decide))
      have h15 := fun H => s15 n H h.C h.f (hC h (List.mem_of_getElem? hh))
      have hset : (hpsS (cpk L i)).set i [SV.int .i64 h.v, .int .i64 h.a, .int .i64 h.b, .lst 1 (iS h.C) false] = hpsS (cpk L (i + 1)) := by
        rw [← cpk_set hh]
        simp [hpsS, List.map_set, clr]
      simp only [go_sem, Int.cast_ofNat_Int, Int.reduceToNat, Nat.reduceAdd, Nat.reduceBEq, Nat.reduceLeDiff, Nat.reduceLT, Nat.reduceMul, Nat.reduceSub, Int.reduceEq, Int.reduceLT, Int.reduceLE, Int.reduceNeg, hlt, cpk_get hh, h15, put1, hset, hw]
      refine ⟨by first | trivial | omega, by first | trivial | rfl, ?_⟩
      trivial
    · obtain rfl : i = L.length := by omega
      have e : cpk L L.length = L.map clr := by simp [cpk]
      have hfz := fun H v => (hps_still (L.map clr)).fz 0 H 6 v L.length 4 false (by simp [hpsS])
      simp only [go_sem, Int.cast_ofNat_Int, Int.reduceToNat, Nat.reduceAdd, Nat.reduceBEq, Nat.reduceLeDiff, Nat.reduceLT, Nat.reduceMul, Nat.reduceSub, Int.reduceEq, Int.reduceLT, Int.reduceLE, Int.reduceNeg, Nat.lt_irrefl, e, hfz]
theorem errAt_clr (L : List Hp) (i : Nat) : errAt (L.map clr) i = errAt L i := by
  simp only [errAt, List.getElem?_map]
  cases hi : L[i]? with
  | none => rfl
  | some h =>
    simp only [Option.map_some]
    cases i with
    | zero => rfl
    | succ j =>
      cases hj : L[j]? with
      | none => simp only [List.getElem?_map, hj, Option.map_none]; rfl
      | some g => simp only [List.getElem?_map, hj, Option.map_some]; rfl
theorem caE_clr (L : List Hp) : caE (L.map clr) = caE L := by
  have : errAt (L.map clr) = errAt L := by funext i; exact errAt_clr L i
  simp only [caE, List.length_map, this]
theorem hopOK_clr {L : List Hp} (h : hopOK L) : hopOK (L.map clr) := by
  intro x hx
  simp only [List.mem_map] at hx
  obtain ⟨y, hy, rfl⟩ := hx
  exact h y hy
end Go.Sh
namespace Go.Sh
set_option linter.unusedSectionVars false
set_option linter.unnecessarySimpa false
set_option linter.unusedVariables false
set_option linter.unusedSimpArgs false
set_option maxRecDepth 100000
set_option maxHeartbeats 4000000
def inP (s : Int) (h : Hp) : Bool := decide (h.a ≤ s) && decide (s < h.b)
theorem s48 (n : Nat) (bl : List SBlk) (ro : Nat) (h : Hp) (s : Int) (X1 : SBlk) (hb : bl = [.box [.int .i64 s], X1]) : call1 T (n + 1) (.fn 48) [.agg (hpC h), .ptr 0 0 0 0] ⟨bl, [], ro⟩ = some (.bool (inP s h), ⟨bl, [], ro⟩) := by
  subst hb
  refine call_in e48 (by rfl) ?_
  simp only [c48, go_sem, Int.cast_ofNat_Int, Int.reduceToNat, Nat.reduceAdd, Nat.reduceBEq, Nat.reduceLeDiff, Nat.reduceLT, Nat.reduceMul, Nat.reduceSub, Int.reduceEq, Int.reduceLT, Int.reduceLE, Int.reduceNeg]
  cases hx : decide (h.a ≤ s) with
  | false => simp only [go_sem, Int.cast_ofNat_Int, Int.reduceToNat, Nat.reduceAdd, Nat.reduceBEq, Nat.reduceLeDiff, Nat.reduceLT, Nat.reduceMul, Nat.reduceSub, Int.reduceEq, Int.reduceLT, Int.reduceLE, Int.reduceNeg, inP, hx]
  | true => simp only [go_sem, Int.cast_ofNat_Int, Int.reduceToNat, Nat.reduceAdd, Nat.reduceBEq, Nat.reduceLeDiff, Nat.reduceLT, Nat.reduceMul, Nat.reduceSub, Int.reduceEq, Int.reduceLT, Int.reduceLE, Int.reduceNeg, inP, hx]
def ifI (L : List Hp) (s : Int) : Int := idx1 (inP s) L
def ifE (L : List Hp) (s : Int) : Int := bif decide (caE L = 0) then (bif decide (0 ≤ ifI L s) then 0 else 7) else caE L
def ifH (L : List Hp) (s : Int) : Hp := (L[(ifI L s).toNat]?).getD ⟨0, 0, 0, [], true⟩
def ifV (cl : Bool) (L : List Hp) (s : Int) : SV := bif decide (ifE L s = 0) then hl (ifH L s).v (ifH L s).a (ifH L s).b 1 (ifH L s).C (bif cl then false else (ifH L s).f) else hl 0 0 0 0 [] true
theorem s29 (n : Nat) (H : Heap) (L : List Hp) (fl : Bool) (s : Int) (hm : L.length ≤ 1000) (hC : hopOK L) : call1 T (n + 6) (.fn 29) [.lst 4 (hpsS L) fl, .int .i64 s] H = some (.tup [ifV true L s, .int .i64 (ifE L s)], H) := by
  refine call_pure e29 (by rfl) ?_
  have hm' : L.length ≤ maxLen := Nat.le_trans hm (by decide)
  have h27 := fun H => s27 n H L fl hm' hC
  simp only [c29, heap0, go_sem, Int.cast_ofNat_Int, Int.reduceToNat, Nat.reduceAdd, Nat.reduceBEq, Nat.reduceLeDiff, Nat.reduceLT, Nat.reduceMul, Nat.reduceSub, Int.reduceEq, Int.reduceLT, Int.reduceLE, Int.reduceNeg, h27]
  cases hca : decide (caE L = 0) with
  | false =>
    have hne := of_decide_eq_false hca
    have h1 : ifE L s = caE L := by simp [ifE, hca]
    have h2 : decide (ifE L s = 0) = false := by rw [h1]; exact hca
    simp only [go_sem, Int.cast_ofNat_Int, Int.reduceToNat, Nat.reduceAdd, Nat.reduceBEq, Nat.reduceLeDiff, Nat.reduceLT, Nat.reduceMul, Nat.reduceSub, Int.reduceEq, Int.reduceLT, Int.reduceLE, Int.reduceNeg, put1, ifV, h1, hca, iS]
    rfl
  | true =>
    have h0 := of_decide_eq_true hca
    have h47 := fun X1 es ro => stdIdxF_ok (T := T) (f := 47) (n := n + 4) (H := ⟨[.box [.int .i64 s], X1], es, ro⟩) (ag := true) (z := 4) (id := 48) (caps := [.ptr 0 0 0 0]) (v := .lst 4 (hpsS L) fl) (L := hpsS L) (p := fun r => inP s (toHp r)) x47 (.lst 4 fl (.inl rfl)) hps_row (fun h => by cases h) (by simpa [hpsS] using hm')
      (fun r hr bl ro hbl => by
        simp only [hpsS, List.mem_map] at hr
        obtain ⟨h, _, rfl⟩ := hr
        rw [toHp_of]
        rcases hbl with ⟨_, _, h3⟩ | h3
        · simp [SV.refs.refsL, SV.refs] at h3
        · exact s48 (n + 3) bl ro h s X1 h3) (by simp [SV.refs.refsL, SV.refs])
    simp only [idx_hp] at h47
    have hge := idx1_ge (inP s) L
    simp only [go_sem, Int.cast_ofNat_Int, Int.reduceToNat, Nat.reduceAdd, Nat.reduceBEq, Nat.reduceLeDiff, Nat.reduceLT, Nat.reduceMul, Nat.reduceSub, Int.reduceEq, Int.reduceLT, Int.reduceLE, Int.reduceNeg, h0, h47]
    rcases Int.lt_or_le (idx1 (inP s) L) 0 with hneg | hpos
    · have q1 : decide (idx1 (inP s) L < 0) = true := decide_eq_true hneg
      have q2 : decide (0 ≤ ifI L s) = false := decide_eq_false (by unfold ifI; omega)
      have h1 : ifE L s = 7 := by simp [ifE, hca, q2]
      simp only [go_sem, Int.cast_ofNat_Int, Int.reduceToNat, Nat.reduceAdd, Nat.reduceBEq, Nat.reduceLeDiff, Nat.reduceLT, Nat.reduceMul, Nat.reduceSub, Int.reduceEq, Int.reduceLT, Int.reduceLE, Int.reduceNeg, q1, put1, ifV, h1, iS]
      rfl
    · have q1 : decide (idx1 (inP s) L < 0) = false := decide_eq_false (by omega)
      have q2 : decide (0 ≤ ifI L s) = true := decide_eq_true hpos
      have h1 : ifE L s = 0 := by simp [ifE, hca, q2]
      have q3 : decide (0 ≤ idx1 (inP s) L) = true := q2
      have q4 : decide (idx1 (inP s) L < (L.length : Int)) = true := decide_eq_true hge.2
      obtain ⟨h, hh⟩ := getS (l := L) (i := (idx1 (inP s) L).toNat) (by omega)
      have hif : ifH L s = h := by simp [ifH, ifI, hh]
      have h15 := fun H => s15 (n + 4) H h.C h.f (hC h (List.mem_of_getElem? hh))
      simp only [go_sem, Int.cast_ofNat_Int, Int.reduceToNat, Nat.reduceAdd, Nat.reduceBEq, Nat.reduceLeDiff, Nat.reduceLT, Nat.reduceMul, Nat.reduceSub, Int.reduceEq, Int.reduceLT, Int.reduceLE, Int.reduceNeg, q1, q3, q4, hh, put1, h15, ifV, h1, hif]
theorem s31 (n : Nat) (H : Heap) (L : List Hp) (fl : Bool) (s : Int) (hm : L.length ≤ 1000) (hC : hopOK L) : call1 T (n + 5) (.fn 31) [.lst 4 (hpsS L) fl, .int .i64 s] H = some (.tup [ifV false L s, .int .i64 (ifE L s)], H) := by
  refine call_pure e31 (by rfl) ?_
  have hm' : L.length ≤ maxLen := Nat.le_trans hm (by decide)
  have h32 := fun H => s32 n H L fl hm' hC
  simp only [c31, heap0, go_sem, Int.cast_ofNat_Int, Int.reduceToNat, Nat.reduceAdd, Nat.reduceBEq, Nat.reduceLeDiff, Nat.reduceLT, Nat.reduceMul, Nat.reduceSub, Int.reduceEq, Int.reduceLT, Int.reduceLE, Int.reduceNeg, h32]
  cases hca : decide (caE L = 0) with
  | false =>
    have hne := of_decide_eq_false hca
    have h1 : ifE L s = caE L := by simp [ifE, hca]
    have h2 : decide (ifE L s = 0) = false := by rw [h1]; exact hca
    simp only [go_sem, Int.cast_ofNat_Int, Int.reduceToNat, Nat.reduceAdd, Nat.reduceBEq, Nat.reduceLeDiff, Nat.reduceLT, Nat.reduceMul, Nat.reduceSub, Int.reduceEq, Int.reduceLT, Int.reduceLE, Int.reduceNeg, put1, ifV, h1, hca, iS]
    rfl
  | true =>
    have h0 := of_decide_eq_true hca
    simp only [go_sem, Int.cast_ofNat_Int, Int.reduceToNat, Nat.reduceAdd, Nat.reduceBEq, Nat.reduceLeDiff, Nat.reduceLT, Nat.reduceMul, Nat.reduceSub, Int.reduceEq, Int.reduceLT, Int.reduceLE, Int.reduceNeg, h0]
    refine loop_rule (fun i => ([(0, .lst 4 (hpsS L) fl), (1, .int .i64 s), (4, .ptr 0 0 0 0), (7, .int .i64 i)], ⟨[.box [.int .i64 0, .int .i64 0, .int .i64 0, .lst 0 [] true]], [], 0⟩)) (fun i => ∀ (j : Nat) h, j < i → L[j]? = some h → inP s h = false) L.length ?_ (fun j h hj => by omega) ?_
    · simp only [go_sem, Int.cast_ofNat_Int, Int.reduceToNat, Nat.reduceAdd, Nat.reduceBEq, Nat.reduceLeDiff, Nat.reduceLT, Nat.reduceMul, Nat.reduceSub, Int.reduceEq, Int.reduceLT, Int.reduceLE, Int.reduceNeg] <;> rfl
    · intro i hi hP
      rcases Nat.lt_or_ge i L.length with hlt | hge
      · obtain ⟨h, hh⟩ := getS hlt
        have hw := w64_suc hlt hm'
        simp only [go_sem, Int.cast_ofNat_Int, Int.reduceToNat, Nat.reduceAdd, Nat.reduceBEq, Nat.reduceLeDiff, Nat.reduceLT, Nat.reduceMul, Nat.reduceSub, Int.reduceEq, Int.reduceLT, Int.reduceLE, Int.reduceNeg, hlt, hh]
        cases hp : inP s h with
        | true =>
          have hix := idx1_at hh hp hP
          have q2 : decide (0 ≤ ifI L s) = true := decide_eq_true (by unfold ifI; rw [hix]; omega)
          have h1 : ifE L s = 0 := by simp [ifE, hca, q2]
          have hif : ifH L s = h := by simp [ifH, ifI, hix, hh]
          simp only [inP, Bool.and_eq_true] at hp
          simp only [go_sem, Int.cast_ofNat_Int, Int.reduceToNat, Nat.reduceAdd, Nat.reduceBEq, Nat.reduceLeDiff, Nat.reduceLT, Nat.reduceMul, Nat.reduceSub, Int.reduceEq, Int.reduceLT, Int.reduceLE, Int.reduceNeg, hlt, hh, hp.1, hp.2, put1, ifV, h1, hif]
        | false =>
          have nxt : ∀ (j : Nat) h, j < i + 1 → L[j]? = some h → inP s h = false := fun j h' hj hh' => by
            rcases Nat.lt_or_ge j i with h3 | h3
            · exact hP j h' h3 hh'
            · obtain rfl : j = i := by omega
              rw [hh] at hh'; cases hh'; exact hp
          cases h1 : decide (h.a ≤ s) with
          | false =>
            simp only [go_sem, Int.cast_ofNat_Int, Int.reduceToNat, Nat.reduceAdd, Nat.reduceBEq, Nat.reduceLeDiff, Nat.reduceLT, Nat.reduceMul, Nat.reduceSub, Int.reduceEq, Int.reduceLT, Int.reduceLE, Int.reduceNeg, hw]
            refine ⟨by first | trivial | omega, by first | trivial | rfl, ?_⟩
            exact nxt
          | true =>
            have h2 : decide (s < h.b) = false := by simpa [inP, h1] using hp
            simp only [go_sem, Int.cast_ofNat_Int, Int.reduceToNat, Nat.reduceAdd, Nat.reduceBEq, Nat.reduceLeDiff, Nat.reduceLT, Nat.reduceMul, Nat.reduceSub, Int.reduceEq, Int.reduceLT, Int.reduceLE, Int.reduceNeg, hlt, hh, h2, hw]
            refine ⟨by first | trivial | omega, by first | trivial | rfl, ?_⟩
            exact nxt
      · obtain rfl : i = L.length := by omega
        have hix : ifI L s = -1 := idx1_none (fun j a hj => hP j a (by have := (List.getElem?_eq_some_iff.1 hj).1; omega) hj)
        have q2 : decide (0 ≤ ifI L s) = false := by rw [hix]; rfl
        have h1 : ifE L s = 7 := by simp [ifE, hca, q2]
        simp only [go_sem, Int.cast_ofNat_Int, Int.reduceToNat, Nat.reduceAdd, Nat.reduceBEq, Nat.reduceLeDiff, Nat.reduceLT, Nat.reduceMul, Nat.reduceSub, Int.reduceEq, Int.reduceLT, Int.reduceLE, Int.reduceNeg, Nat.lt_irrefl, put1, ifV, h1, iS]
        rfl
theorem ifI_clr (L : List Hp) (s : Int) : ifI (L.map clr) s = ifI L s := by
  unfold ifI
  rw [idx1_map]
  rfl
theorem ifE_clr (L : List Hp) (s : Int) : ifE (L.map clr) s = ifE L s := by simp only [ifE, caE_clr, ifI_clr]
theorem ifV_clr (L : List Hp) (s : Int) : ifV true (L.map clr) s = ifV true L s := by
  simp only [ifV, ifE_clr]
  cases decide (ifE L s = 0) with
  | false => rfl
  | true =>
    simp only [cond_true, ifH, ifI_clr, List.getElem?_map]
    cases L[(ifI L s).toNat]? <;> rfl
abbrev hpsD : Bool × List DT := (false, [.lst [.int .i64, .int .i64, .int .i64, .lst [.int .i64]]])
theorem few_ok {L : List Hp} (h : fewB L = true) : L.length ≤ 10 ∧ hopOK L := by
  simp only [fewB, Bool.and_eq_true, decide_eq_true_eq, Bool.not_eq_true'] at h
  refine ⟨h.1, fun x hx => ?_⟩
  have := List.any_eq_false.1 h.2 x hx
  simp only [longB, decide_eq_true_eq] at this
  omega
theorem s9 (L : List Hp) (fl : Bool) (s : Int) (hm : L.length ≤ maxLen) : call1 T 41 (.fn 9) [.lst 4 (hpsS L) fl, .int .i64 s] heap0 = some (.bool true, heap0) := by
  refine call_pure e9 (by rfl) ?_
  have h11 := s11
  have h28 := fun H => s28 36 H L fl hm
  simp only [c9, heap0, go_sem, Int.cast_ofNat_Int, Int.reduceToNat, Nat.reduceAdd, Nat.reduceBEq, Nat.reduceLeDiff, Nat.reduceLT, Nat.reduceMul, Nat.reduceSub, Int.reduceEq, Int.reduceLT, Int.reduceLE, Int.reduceNeg, h11, h28]
  cases hf : fewB L with
  | false => simp only [go_sem, Int.cast_ofNat_Int, Int.reduceToNat, Nat.reduceAdd, Nat.reduceBEq, Nat.reduceLeDiff, Nat.reduceLT, Nat.reduceMul, Nat.reduceSub, Int.reduceEq, Int.reduceLT, Int.reduceLE, Int.reduceNeg]
  | true =>
    obtain ⟨h10, hC⟩ := few_ok hf
    have h30 := fun H => s30 38 H L fl (by omega) hC
    have h29 := fun H => s29 34 H (L.map clr) false s (by rw [List.length_map]; omega) (hopOK_clr hC)
    have h31 := fun H => s31 35 H L fl s (by omega) hC
    have h27 := fun H => s27 35 H (L.map clr) false (by rw [List.length_map]; exact hm) (hopOK_clr hC)
    have h32 := fun H => s32 36 H L fl hm hC
    rw [ifV_clr, ifE_clr] at h29
    rw [caE_clr] at h27
    have h20 := fun H v a b z C f z' f' hz hz' hC => s20 39 H v a b z C f v a b z' C f' hz hz' hC
    have hsm : ∀ v a b C, smB v a b C v a b C = true := fun v a b C => by simp [smB]
    simp only [hsm] at h20
    cases he : decide (ifE L s = 0) with
    | false =>
      have hv : ∀ cl, ifV cl L s = hl 0 0 0 0 [] true := fun cl => by simp [ifV, he]
      have h20' := fun H => h20 H 0 0 0 0 [] true 0 true (.inr rfl) (.inr rfl) (by decide)
      simp only [hl, iS, List.map_nil] at h20'
      simp only [hv, hl, iS, List.map_nil] at h29 h31
      simp only [go_sem, Int.cast_ofNat_Int, Int.reduceToNat, Nat.reduceAdd, Nat.reduceBEq, Nat.reduceLeDiff, Nat.reduceLT, Nat.reduceMul, Nat.reduceSub, Int.reduceEq, Int.reduceLT, Int.reduceLE, Int.reduceNeg, h30, h29, h31, h27, h32, put1, h20']
    | true =>
      have hv : ∀ cl, ifV cl L s = hl (ifH L s).v (ifH L s).a (ifH L s).b 1 (ifH L s).C (bif cl then false else (ifH L s).f) := fun cl => by simp [ifV, he]
      have hlen : (ifH L s).C.length ≤ maxLen := by
        unfold ifH
        cases hq : L[(ifI L s).toNat]? with
        | none => simp
        | some h => exact Nat.le_trans (hC h (List.mem_of_getElem? hq)) (by decide)
      have h20' := fun H => h20 H (ifH L s).v (ifH L s).a (ifH L s).b 1 (ifH L s).C false 1 (ifH L s).f (.inl rfl) (.inl rfl) hlen
      simp only [hv, cond_true, cond_false] at h29 h31
      simp only [go_sem, Int.cast_ofNat_Int, Int.reduceToNat, Nat.reduceAdd, Nat.reduceBEq, Nat.reduceLeDiff, Nat.reduceLT, Nat.reduceMul, Nat.reduceSub, Int.reduceEq, Int.reduceLT, Int.reduceLE, Int.reduceNeg, h30, h29, h31, h27, h32, put1, h20']
end Go.Sh
namespace Go.Sh
set_option linter.unusedSectionVars false
set_option linter.unnecessarySimpa false
set_option linter.unusedVariables false
set_option linter.unusedSimpArgs false
set_option maxRecDepth 100000
set_option maxHeartbeats 4000000
theorem fits_hps : ∀ {L : List (List SV)}, (∀ q ∈ L, FitsL [.int .i64, .int .i64, .int .i64, .lst [.int .i64]] q) → ∃ N, L = hpsS N
  | [], _ => ⟨[], rfl⟩
  | r :: L, h => by
    obtain ⟨N, rfl⟩ := fits_hps (L := L) (fun q hq => h q (by simp [hq]))
    have k := h r (by simp)
    obtain ⟨v, _, rfl, _, k⟩ := fitsL_i k
    obtain ⟨a, _, rfl, _, k⟩ := fitsL_i k
    obtain ⟨b, _, rfl, _, k⟩ := fitsL_i k
    obtain ⟨L1, f1, _, rfl, m1, a1, k⟩ := fitsL_l k
    cases fitsL_nil' k
    obtain ⟨M, rfl⟩ := ints_of a1
    exact ⟨⟨v, a, b, M, f1⟩ :: N, rfl⟩
theorem hps_of {x : SV} (h : FitsA hpsD x) : ∃ L fl, x = .lst 4 (hpsS L) fl ∧ L.length ≤ maxLen := by
  obtain ⟨L1, f1, rfl, m1, a1⟩ := fits_lst (fitsA_one h)
  obtain ⟨N, rfl⟩ := fits_hps a1
  exact ⟨N, f1, rfl, by simpa [hpsS] using m1⟩
theorem law9 (xs : List SV) (h : FitsAll [hpsD, (false, [.int .i64])] xs) : ∃ m, call1 T m (.fn 9) xs heap0 = some (.bool true, heap0) := by
  obtain ⟨x1, r1, rfl, h1, h⟩ := fitsAll_cons h
  obtain ⟨x2, r2, rfl, h2, h⟩ := fitsAll_cons h
  cases fitsAll_nil h
  obtain ⟨L, fl, rfl, hm⟩ := hps_of h1
  obtain ⟨s, rfl, _⟩ := fits_int (fitsA_one h2)
  exact ⟨41, s9 L fl s hm⟩
theorem fstE_zero {e : Nat → Int} {k : Nat} (h : fstE e k = 0) : ∀ j, j < k → e j = 0 := by
  intro j
  induction j using Nat.strongRecOn with
  | _ j ih =>
    intro hj
    rcases Decidable.em (e j = 0) with h0 | h0
    · exact h0
    · have := fstE_at hj (fun i hi => ih i hi (by omega)) rfl h0
      omega
theorem errAt_zero {L : List Hp} {i : Nat} {h : Hp} (hh : L[i]? = some h) (he : errAt L i = 0) : okP h = true ∧ ∀ j g, i = j + 1 → L[j]? = some g → h.a = g.b := by
  simp only [errAt, hh] at he
  cases hok : okP h with
  | false => rw [hok] at he; cases he
  | true =>
    refine ⟨rfl, fun j g hij hg => ?_⟩
    subst hij
    rw [hok] at he
    simp only [cond_true, hg] at he
    cases ha : decide (h.a = g.b) with
    | true => exact of_decide_eq_true ha
    | false => rw [ha] at he; cases he
theorem ca_zero {L : List Hp} (h : caE L = 0) : 0 < L.length ∧ ∀ j, j < L.length → errAt L j = 0 := by
  unfold caE at h
  cases hl : (decide (1 ≤ L.length) && decide (L.length ≤ 1024)) with
  | false => rw [hl] at h; cases h
  | true =>
    rw [hl] at h
    simp only [Bool.and_eq_true, decide_eq_true_eq] at hl
    exact ⟨by omega, fstE_zero h⟩
theorem ca_chain {L : List Hp} (hz : ∀ j, j < L.length → errAt L j = 0) : ∀ (k i : Nat) h g, i ≤ k → L[i]? = some h → L[k]? = some g → h.a ≤ g.a ∧ h.b ≤ g.b := by
  intro k
  induction k with
  | zero =>
    intro i h g hi hh hg
    obtain rfl : i = 0 := by omega
    rw [hh] at hg; cases hg; exact ⟨Int.le_refl _, Int.le_refl _⟩
  | succ k ih =>
    intro i h g hi hh hg
    have hlt := (List.getElem?_eq_some_iff.1 hg).1
    rcases Nat.lt_or_ge k i with h1 | h1
    · obtain rfl : i = k + 1 := by omega
      rw [hh] at hg; cases hg; exact ⟨Int.le_refl _, Int.le_refl _⟩
    · obtain ⟨m, hmm⟩ := getS (l := L) (i := k) (by omega)
      have := ih i h m h1 hh hmm
      have e1 := (errAt_zero hg (hz _ hlt)).2 k m rfl hmm
      have e2 := okH_spec (errAt_zero hg (hz _ hlt)).1
      have e3 := okH_spec (errAt_zero hmm (hz k (by omega))).1
      omega
theorem ca_in {L : List Hp} (hz : ∀ j, j < L.length → errAt L j = 0) (s : Int) {h0 : Hp} (hh0 : L[0]? = some h0) (hs : h0.a ≤ s) : ∀ (k : Nat) (g : Hp), L[k]? = some g → s < g.b → ∃ (i : Nat) (h : Hp), L[i]? = some h ∧ inP s h = true := by
  intro k
  induction k with
  | zero =>
    intro g hg hsb
    rw [hh0] at hg; cases hg
    exact ⟨0, h0, hh0, by simp [inP, hs, hsb]⟩
  | succ k ih =>
    intro g hg hsb
    have hlt := (List.getElem?_eq_some_iff.1 hg).1
    obtain ⟨m, hmm⟩ := getS (l := L) (i := k) (by omega)
    rcases Int.lt_or_le s m.b with h1 | h1
    · exact ih m hmm h1
    · have e1 := (errAt_zero hg (hz _ hlt)).2 k m rfl hmm
      exact ⟨k + 1, g, hg, by simp only [inP, Bool.and_eq_true, decide_eq_true_eq]; omega⟩
theorem s34 (n : Nat) (bl : List SBlk) (ro : Nat) (h x : Hp) (f : Bool) (hb : bl = [.box (hpC { x with f := f })]) (hC : x.C.length ≤ maxLen) : call1 T (n + 2) (.fn 34) [.agg (hpC h), .ptr 0 0 0 0] ⟨bl, [], ro⟩ = some (.bool (smB x.v x.a x.b x.C h.v h.a h.b h.C), ⟨bl, [], ro⟩) := by
  subst hb
  refine call_in e34 (by rfl) ?_
  have h20 := fun H => s20 n H x.v x.a x.b 1 x.C f h.v h.a h.b 1 h.C h.f (.inl rfl) (.inl rfl) hC
  simp only [c34, go_sem, Int.cast_ofNat_Int, Int.reduceToNat, Nat.reduceAdd, Nat.reduceBEq, Nat.reduceLeDiff, Nat.reduceLT, Nat.reduceMul, Nat.reduceSub, Int.reduceEq, Int.reduceLT, Int.reduceLE, Int.reduceNeg, h20]
theorem s10 (L : List Hp) (fl : Bool) (s : Int) (hm : L.length ≤ maxLen) : call1 T 41 (.fn 10) [.lst 4 (hpsS L) fl, .int .i64 s] heap0 = some (.bool true, heap0) := by
  refine call_pure e10 (by rfl) ?_
  have h11 := s11
  have h28 := fun H => s28 36 H L fl hm
  simp only [c10, heap0, go_sem, Int.cast_ofNat_Int, Int.reduceToNat, Nat.reduceAdd, Nat.reduceBEq, Nat.reduceLeDiff, Nat.reduceLT, Nat.reduceMul, Nat.reduceSub, Int.reduceEq, Int.reduceLT, Int.reduceLE, Int.reduceNeg, h11, h28]
  cases hf : fewB L with
  | false => simp only [go_sem, Int.cast_ofNat_Int, Int.reduceToNat, Nat.reduceAdd, Nat.reduceBEq, Nat.reduceLeDiff, Nat.reduceLT, Nat.reduceMul, Nat.reduceSub, Int.reduceEq, Int.reduceLT, Int.reduceLE, Int.reduceNeg]
  | true =>
    obtain ⟨h10, hC⟩ := few_ok hf
    have h30 := fun H => s30 38 H L fl (by omega) hC
    have h29 := fun H => s29 34 H (L.map clr) false s (by rw [List.length_map]; omega) (hopOK_clr hC)
    have h27 := fun H => s27 35 H (L.map clr) false (by rw [List.length_map]; exact hm) (hopOK_clr hC)
    rw [ifV_clr, ifE_clr] at h29
    rw [caE_clr] at h27
    have hv0 : decide (ifE L s = 0) = false → ifV true L s = .agg [.int .i64 0, .int .i64 0, .int .i64 0, .lst 0 [] true] := fun he => by simp [ifV, he]; rfl
    cases hca : decide (caE L = 0) with
    | false =>
      have hne := of_decide_eq_false hca
      have h1 : ifE L s = caE L := by simp [ifE, hca]
      have hv := hv0 (by rw [h1]; exact hca)
      rw [hv, h1] at h29
      simp only [go_sem, Int.cast_ofNat_Int, Int.reduceToNat, Nat.reduceAdd, Nat.reduceBEq, Nat.reduceLeDiff, Nat.reduceLT, Nat.reduceMul, Nat.reduceSub, Int.reduceEq, Int.reduceLT, Int.reduceLE, Int.reduceNeg, h30, h29, h27, put1, hca]
    | true =>
      have h0 := of_decide_eq_true hca
      obtain ⟨hpos, hz⟩ := ca_zero h0
      obtain ⟨x0, hx0⟩ := getS (l := L) (i := 0) hpos
      obtain ⟨xn, hxn⟩ := getS (l := L) (i := L.length - 1) (by omega)
      have q1 : decide ((L.length : Int) = 0) = false := decide_eq_false (by omega)
      have q2 : decide ((0 : Int) < (L.length : Int)) = true := decide_eq_true (by omega)
      have hn1 : w64 ((L.length : Int) - 1) = ((L.length - 1 : Nat) : Int) := by rw [w64_id (by omega) (by omega)]; omega
      have q3 : L.length - 1 < L.length := by omega
      have hE : ifE L s = bif decide (0 ≤ ifI L s) then 0 else 7 := by simp [ifE, hca]
      rw [h0] at h27
      cases hin : decide (x0.a ≤ s) && decide (s < xn.b) with
      | false =>
        have hno : ifI L s = -1 := by
          refine idx1_none (fun j h hj => ?_)
          have c1 := ca_chain hz j 0 x0 h (Nat.zero_le _) hx0 hj
          have c2 := ca_chain hz (L.length - 1) j h xn (by have := (List.getElem?_eq_some_iff.1 hj).1; omega) hj hxn
          rw [Bool.and_eq_false_iff] at hin
          simp only [decide_eq_false_iff_not] at hin
          rw [inP, Bool.and_eq_false_iff]
          simp only [decide_eq_false_iff_not]
          omega
        have h7 : ifE L s = 7 := by rw [hE, hno]; rfl
        have hv := hv0 (by rw [h7]; rfl)
        rw [hv, h7] at h29
        cases ha : decide (x0.a ≤ s) with
        | false => simp only [go_sem, Int.cast_ofNat_Int, Int.reduceToNat, Nat.reduceAdd, Nat.reduceBEq, Nat.reduceLeDiff, Nat.reduceLT, Nat.reduceMul, Nat.reduceSub, Int.reduceEq, Int.reduceLT, Int.reduceLE, Int.reduceNeg, h30, h29, h27, put1, q1, q2, hx0, ha]
        | true =>
          have hb : decide (s < xn.b) = false := by simpa [ha] using hin
          simp only [go_sem, Int.cast_ofNat_Int, Int.reduceToNat, Nat.reduceAdd, Nat.reduceBEq, Nat.reduceLeDiff, Nat.reduceLT, Nat.reduceMul, Nat.reduceSub, Int.reduceEq, Int.reduceLT, Int.reduceLE, Int.reduceNeg, h30, h29, h27, put1, q1, q2, hx0, ha, hn1, q3, hxn, hb]
      | true =>
        simp only [Bool.and_eq_true] at hin
        obtain ⟨ha, hb⟩ := hin
        obtain ⟨i, h, hh, hp⟩ := ca_in hz s hx0 (of_decide_eq_true ha) (L.length - 1) xn hxn (of_decide_eq_true hb)
        have hge := idx1_ge (inP s) L
        have hpos2 : 0 ≤ ifI L s := by
          rcases Int.lt_or_le (ifI L s) 0 with h1 | h1
          · have := idx1_neg (inP s) L (by unfold ifI at h1; omega)
            have := List.any_eq_false.1 this h (List.mem_of_getElem? hh)
            exact absurd hp this
          · exact h1
        have hq : decide (0 ≤ ifI L s) = true := decide_eq_true hpos2
        have h7 : ifE L s = 0 := by rw [hE, hq]; rfl
        obtain ⟨k, hk⟩ := Int.eq_ofNat_of_zero_le hpos2
        obtain ⟨⟨y, hy, hpy⟩, _⟩ := idx1_spec (inP s) L k hk
        have hif : ifH L s = y := by simp [ifH, hk, hy]
        have hv : ifV true L s = hl y.v y.a y.b 1 y.C false := by simp [ifV, h7, hif]
        rw [hv, h7] at h29
        simp only [inP, Bool.and_eq_true, decide_eq_true_eq] at hpy
        have r1 : decide (s < y.a) = false := decide_eq_false (by omega)
        have r2 : decide (y.b ≤ s) = false := decide_eq_false (by omega)
        have h33 := fun es ro => stdCF_ok (T := T) (f := 33) (n := 38) (H := ⟨[.box (hpC { y with f := false })], es, ro⟩) (ag := true) (z := 4) (id := 34) (caps := [.ptr 0 0 0 0]) (v := .lst 4 (hpsS L) fl) (L := hpsS L) (p := fun r => smB y.v y.a y.b y.C (toHp r).v (toHp r).a (toHp r).b (toHp r).C) x33 x47 (.lst 4 fl (.inl rfl)) hps_row (fun h => by cases h) (by simpa [hpsS] using hm)
          (fun r hr bl ro hbl => by
            simp only [hpsS, List.mem_map] at hr
            obtain ⟨h, _, rfl⟩ := hr
            rw [toHp_of]
            rcases hbl with ⟨_, _, h3⟩ | h3
            · simp [SV.refs.refsL, SV.refs] at h3
            · exact s34 36 bl ro h y false h3 (Nat.le_trans (hC y (List.mem_of_getElem? hy)) (by decide))) (by simp [SV.refs.refsL, SV.refs])
        have hany : (hpsS L).any (fun r => smB y.v y.a y.b y.C (toHp r).v (toHp r).a (toHp r).b (toHp r).C) = true := by
          rw [any_hp (fun h => smB y.v y.a y.b y.C h.v h.a h.b h.C)]
          exact List.any_eq_true.2 ⟨y, List.mem_of_getElem? hy, by simp [smB]⟩
        rw [hany] at h33
        simp only [go_sem, Int.cast_ofNat_Int, Int.reduceToNat, Nat.reduceAdd, Nat.reduceBEq, Nat.reduceLeDiff, Nat.reduceLT, Nat.reduceMul, Nat.reduceSub, Int.reduceEq, Int.reduceLT, Int.reduceLE, Int.reduceNeg, h30, h29, h27, put1, q1, q2, hx0, ha, hn1, q3, hxn, hb, r1, r2, h33]
theorem law10 (xs : List SV) (h : FitsAll [hpsD, (false, [.int .i64])] xs) : ∃ m, call1 T m (.fn 10) xs heap0 = some (.bool true, heap0) := by
  obtain ⟨x1, r1, rfl, h1, h⟩ := fitsAll_cons h
  obtain ⟨x2, r2, rfl, h2, h⟩ := fitsAll_cons h
  cases fitsAll_nil h
  obtain ⟨L, fl, rfl, hm⟩ := hps_of h1
  obtain ⟨s, rfl, _⟩ := fits_int (fitsA_one h2)
  exact ⟨41, s10 L fl s hm⟩
end Go.Sh
