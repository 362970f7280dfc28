/- Functions of the program as the logic reads them, each with the proof that it is so read. -/
import Derived.Test.YtfbakipopjoghaaDoorProg
import Derived.Test.YtfbakipopjoghaaDoorCore4
import Derived.KernelRfl
set_option maxRecDepth 100000
namespace Go.Proofs.YtfbakipopjoghaaDoor
open Go Go.Ab
/- gosem.cut.init -/
def F2o0 : List AOper := [
  ⟨(some 0), .call (.c (.clo 1 [] [])) [], none⟩]
def F2c : ACode :=
  .ops F2o0 []
def F2 : AFn := ⟨1, [], F2c⟩
theorem F2_ok : cFn Tryd.prog [] 2 = some F2 := by kernel_rfl

/- manifold/manifoldlaw23.ResolveAutomatic -/
def F4o0 : List AOper := [
  ⟨(some 4), .t (.mv (.c (.bool false))), none⟩]
def F4o1 : List AOper := [
  ⟨(some 5), .t (.mv (.t 1)), none⟩,
  ⟨(some 6), .t (.mv (.t 1)), none⟩,
  ⟨(some 7), .t (.len false (.t 6)), none⟩,
  ⟨(some 8), .t (.imin (.t 7) (.c (.int .i64 20))), none⟩,
  ⟨(some 9), .t (.sliceL 1 (.t 5) none (some (.t 8))), none⟩,
  ⟨(some 1), .t (.mv (.t 9)), none⟩]
def F4o2 : List AOper := [
  ⟨(some 10), .call (.c (.clo 14 [] [])) [], none⟩,
  ⟨(some 11), .t (.mv (.t 10)), none⟩,
  ⟨(some 12), .t (.mv (.t 0)), (some (11, true))⟩,
  ⟨(some 13), .t (.mv (.t 1)), (some (11, true))⟩,
  ⟨(some 14), .call (.c (.clo 17 [] [])) [(.t 12), (.t 13)], (some (11, true))⟩,
  ⟨(some 15), .t (.mv (.t 0)), (some (11, true))⟩,
  ⟨(some 16), .t (.mv (.t 1)), (some (11, true))⟩,
  ⟨(some 17), .call (.c (.clo 18 [] [])) [(.t 15), (.t 16)], (some (11, true))⟩,
  ⟨(some 18), .t (.bin .eql (.t 14) (.t 17)), (some (11, true))⟩,
  ⟨(some 19), .t (.pick (.t 11) (.t 18) (.c (.bool false))), none⟩,
  ⟨(some 20), .t (.mv (.t 19)), none⟩,
  ⟨(some 21), .t (.mv (.t 1)), (some (20, true))⟩,
  ⟨(some 22), .call (.c (.clo 19 [] [])) [(.t 21)], (some (20, true))⟩,
  ⟨(some 23), .t (.mv (.t 1)), (some (20, true))⟩,
  ⟨(some 24), .call (.c (.clo 20 [] [])) [(.t 23)], (some (20, true))⟩,
  ⟨(some 25), .t (.bin .eql (.t 22) (.t 24)), (some (20, true))⟩,
  ⟨(some 26), .t (.pick (.t 20) (.t 25) (.c (.bool false))), none⟩,
  ⟨(some 4), .t (.mv (.t 26)), none⟩]
def F4c : ACode :=
  (.seq (.ops F4o0 [0, 1])
  ((.seq (.ops F4o1 [0, 1])
   ((.seq (.ops F4o2 [4])
    (.ret))))))
def F4 : AFn := ⟨27, [.tmp 4], F4c⟩
theorem F4_ok : cFn Tryd.prog [] 4 = some F4 := by kernel_rfl

/- manifold/manifoldlaw23.ResolveWalks -/
def F9o0 : List AOper := [
  ⟨(some 3), .m (.box 44 (.t 0)), none⟩,
  ⟨(some 6), .t (.mv (.c (.bool false))), none⟩]
def F9o1 : List AOper := [
  ⟨(some 15), .m (.load true 5 (.t 3)), none⟩,
  ⟨(some 16), .call (.c (.clo 21 [] [])) [(.t 15)], none⟩,
  ⟨none, .m (.store 5 (.t 3) (.t 16)), none⟩]
def F9o2 : List AOper := [
  ⟨(some 17), .call (.c (.clo 14 [] [])) [], none⟩,
  ⟨(some 18), .t (.not (.t 17)), none⟩,
  ⟨(some 19), .t (.mv (.t 18)), none⟩,
  ⟨(some 20), .m (.load true 5 (.t 3)), (some (19, false))⟩,
  ⟨(some 21), .call (.c (.clo 36 [] [])) [(.t 20)], (some (19, false))⟩,
  ⟨(some 22), .t (.not (.t 21)), (some (19, false))⟩,
  ⟨(some 23), .t (.pick (.t 19) (.c (.bool true)) (.t 22)), none⟩]
def F9o3 : List AOper := [
  ⟨(some 24), .call (.c (.clo 14 [] [])) [], none⟩,
  ⟨(some 6), .t (.mv (.t 24)), none⟩]
def F9o4 : List AOper := [
  ⟨(some 25), .m (.load true 5 (.t 3)), none⟩,
  ⟨(some 26), .call (.c (.clo 37 [] [])) [(.t 25)], none⟩,
  ⟨(some 27), .m (.load true 5 (.t 3)), none⟩]
def F9p4 : List AOper := [
  ⟨(some 28), .call (.c (.clo 38 [] [])) [(.t 27)], none⟩,
  ⟨(some 7), .t (.mv (.t 26)), none⟩,
  ⟨(some 8), .t (.mv (.t 28)), none⟩]
def F9A4 : List (List Nat) := [[], [0], [], [2, 1, 0], [3, 2, 1, 0], [4, 3, 2, 1, 0]]
def F9o5 : List AOper := [
  ⟨(some 29), .t (.mv (.t 7)), none⟩,
  ⟨(some 30), .t (.len false (.t 29)), none⟩,
  ⟨(some 31), .t (.mv (.t 8)), none⟩,
  ⟨(some 32), .t (.len false (.t 31)), none⟩,
  ⟨(some 33), .t (.bin .neq (.t 30) (.t 32)), none⟩]
def F9o6 : List AOper := [
  ⟨(some 6), .t (.mv (.c (.bool false))), none⟩]
def F9o7 : List AOper := [
  ⟨(some 9), .t (.mv (.c (.bool false))), none⟩]
def F9o8 : List AOper := [
  ⟨(some 10), .t (.mv (.c (.int .i64 0))), none⟩]
def F9o9 : List AOper := [
  ⟨(some 34), .t (.mv (.t 10)), none⟩,
  ⟨(some 35), .t (.mv (.t 7)), none⟩,
  ⟨(some 36), .t (.len false (.t 35)), none⟩,
  ⟨(some 37), .t (.bin .lss (.t 34) (.t 36)), none⟩]
def F9o10 : List AOper := [
  ⟨(some 41), .m (.load true 5 (.t 3)), none⟩,
  ⟨(some 42), .t (.mv (.t 8)), none⟩,
  ⟨(some 43), .t (.mv (.t 10)), none⟩,
  ⟨(some 44), .t (.iaddr 13 (.t 42) (.t 43)), none⟩,
  ⟨(some 45), .t (.faddr 0 (.t 44)), none⟩,
  ⟨(some 46), .m (.load false 1 (.t 45)), none⟩,
  ⟨(some 47), .t (.mv (.t 8)), none⟩,
  ⟨(some 48), .t (.mv (.t 10)), none⟩,
  ⟨(some 49), .t (.iaddr 13 (.t 47) (.t 48)), none⟩,
  ⟨(some 50), .t (.faddr 1 (.t 49)), none⟩,
  ⟨(some 51), .m (.load false 1 (.t 50)), none⟩,
  ⟨(some 52), .call (.c (.clo 39 [] [])) [(.t 41), (.t 46), (.t 51)], none⟩,
  ⟨(some 40), .t (.mv (.t 52)), none⟩,
  ⟨(some 53), .t (.ext (.t 40) 0), none⟩,
  ⟨(some 54), .t (.ext (.t 40) 1), none⟩,
  ⟨(some 11), .m (.alloc 32 [(.str []), (.int .i64 0), (.int .i64 0), (.int .i64 0), (.int .i64 0), (.str []), (.str []), .nils, .nils, .nils, .nils]), none⟩,
  ⟨none, .m (.store 11 (.t 11) (.t 53)), none⟩]
def F9p10 : List AOper := [
  ⟨(some 12), .t (.mv (.t 54)), none⟩]
def F9A10 : List (List Nat) := [[], [], [], [1, 2], [3, 1, 2], [4, 3, 1, 2], [], [], [6, 7], [8, 6, 7], [9, 8, 6, 7], [0, 5, 10, 4, 3, 1, 2, 9, 8, 6, 7], [11, 0, 5, 10, 4, 3, 1, 2, 9, 8, 6, 7], [12, 11, 0, 5, 10, 4, 3, 1, 2, 9, 8, 6, 7], [12, 11, 0, 5, 10, 4, 3, 1, 2, 9, 8, 6, 7], [], [13, 15, 12, 11, 0, 5, 10, 4, 3, 1, 2, 9, 8, 6, 7], [14, 16, 13, 15, 12, 11, 0, 5, 10, 4, 3, 1, 2, 9, 8, 6, 7]]
def F9o11 : List AOper := [
  ⟨(some 55), .t (.mv (.t 7)), none⟩,
  ⟨(some 56), .t (.mv (.t 10)), none⟩,
  ⟨(some 57), .t (.iaddr 13 (.t 55) (.t 56)), none⟩,
  ⟨(some 58), .t (.faddr 0 (.t 57)), none⟩,
  ⟨(some 59), .m (.load false 1 (.t 58)), none⟩,
  ⟨(some 60), .t (.mv (.t 8)), none⟩,
  ⟨(some 61), .t (.mv (.t 10)), none⟩,
  ⟨(some 62), .t (.iaddr 13 (.t 60) (.t 61)), none⟩,
  ⟨(some 63), .t (.faddr 0 (.t 62)), none⟩,
  ⟨(some 64), .m (.load false 1 (.t 63)), none⟩,
  ⟨(some 65), .t (.bin .neq (.t 59) (.t 64)), none⟩,
  ⟨(some 66), .t (.mv (.t 65)), none⟩,
  ⟨(some 67), .t (.mv (.t 7)), (some (66, false))⟩,
  ⟨(some 68), .t (.mv (.t 10)), (some (66, false))⟩,
  ⟨(some 69), .t (.iaddr 13 (.t 67) (.t 68)), (some (66, false))⟩,
  ⟨(some 70), .t (.faddr 1 (.t 69)), (some (66, false))⟩,
  ⟨(some 71), .m (.load false 1 (.t 70)), (some (66, false))⟩,
  ⟨(some 72), .t (.mv (.t 8)), (some (66, false))⟩,
  ⟨(some 73), .t (.mv (.t 10)), (some (66, false))⟩,
  ⟨(some 74), .t (.iaddr 13 (.t 72) (.t 73)), (some (66, false))⟩,
  ⟨(some 75), .t (.faddr 1 (.t 74)), (some (66, false))⟩,
  ⟨(some 76), .m (.load false 1 (.t 75)), (some (66, false))⟩,
  ⟨(some 77), .call (.c (.clo 40 [] [])) [(.t 71), (.t 76)], (some (66, false))⟩,
  ⟨(some 78), .t (.not (.t 77)), (some (66, false))⟩,
  ⟨(some 79), .t (.pick (.t 66) (.c (.bool true)) (.t 78)), none⟩,
  ⟨(some 80), .t (.mv (.t 79)), none⟩,
  ⟨(some 81), .t (.mv (.t 12)), (some (80, false))⟩,
  ⟨(some 82), .t (.bin .neq (.t 81) (.c (.int .i64 0))), (some (80, false))⟩,
  ⟨(some 83), .t (.pick (.t 80) (.c (.bool true)) (.t 82)), none⟩,
  ⟨(some 84), .t (.mv (.t 83)), none⟩,
  ⟨(some 85), .t (.mv (.t 7)), (some (84, false))⟩,
  ⟨(some 86), .t (.mv (.t 10)), (some (84, false))⟩,
  ⟨(some 87), .t (.iaddr 13 (.t 85) (.t 86)), (some (84, false))⟩,
  ⟨(some 88), .t (.faddr 2 (.t 87)), (some (84, false))⟩,
  ⟨(some 89), .m (.load true 11 (.t 88)), (some (84, false))⟩,
  ⟨(some 90), .m (.load true 11 (.t 11)), (some (84, false))⟩,
  ⟨(some 91), .m (.bslice false 32 11 2 [(.t 89), (.t 90)]), (some (84, false))⟩,
  ⟨(some 92), .t (.mv (.t 8)), (some (84, false))⟩,
  ⟨(some 93), .t (.mv (.t 10)), (some (84, false))⟩,
  ⟨(some 94), .t (.iaddr 13 (.t 92) (.t 93)), (some (84, false))⟩,
  ⟨(some 95), .t (.faddr 2 (.t 94)), (some (84, false))⟩,
  ⟨(some 96), .m (.load true 11 (.t 95)), (some (84, false))⟩,
  ⟨(some 97), .t (.mv (.t 8)), (some (84, false))⟩,
  ⟨(some 98), .t (.mv (.t 10)), (some (84, false))⟩,
  ⟨(some 99), .t (.iaddr 13 (.t 97) (.t 98)), (some (84, false))⟩,
  ⟨(some 100), .t (.faddr 2 (.t 99)), (some (84, false))⟩,
  ⟨(some 101), .m (.load true 11 (.t 100)), (some (84, false))⟩,
  ⟨(some 102), .m (.bslice false 32 11 2 [(.t 96), (.t 101)]), (some (84, false))⟩]
def F9p11 : List AOper := [
  ⟨(some 103), .call (.c (.clo 41 [] [])) [(.t 91), (.t 102), (.c (.bool true))], (some (84, false))⟩,
  ⟨(some 104), .t (.not (.t 103)), (some (84, false))⟩,
  ⟨(some 105), .t (.pick (.t 84) (.c (.bool true)) (.t 104)), none⟩]
def F9A11 : List (List Nat) := [[], [], [0, 1], [2, 0, 1], [3, 2, 0, 1], [], [], [5, 6], [7, 5, 6], [8, 7, 5, 6], [4, 9, 3, 2, 0, 1, 8, 7, 5, 6], [10, 4, 9, 3, 2, 0, 1, 8, 7, 5, 6], [11, 10, 4, 9, 3, 2, 0, 1, 8, 7, 5, 6], [11, 10, 4, 9, 3, 2, 0, 1, 8, 7, 5, 6], [12, 13, 11, 10, 4, 9, 3, 2, 0, 1, 8, 7, 5, 6], [14, 12, 13, 11, 10, 4, 9, 3, 2, 0, 1, 8, 7, 5, 6], [15, 14, 12, 13, 11, 10, 4, 9, 3, 2, 0, 1, 8, 7, 5, 6], [11, 10, 4, 9, 3, 2, 0, 1, 8, 7, 5, 6], [11, 10, 4, 9, 3, 2, 0, 1, 8, 7, 5, 6], [17, 18, 11, 10, 4, 9, 3, 2, 0, 1, 8, 7, 5, 6], [19, 17, 18, 11, 10, 4, 9, 3, 2, 0, 1, 8, 7, 5, 6], [20, 19, 17, 18, 11, 10, 4, 9, 3, 2, 0, 1, 8, 7, 5, 6], [16, 21, 15, 14, 12, 13, 20, 19, 17, 18, 11, 10, 4, 9, 3, 2, 0, 1, 8, 7, 5, 6], [22, 16, 21, 15, 14, 12, 13, 20, 19, 17, 18, 11, 10, 4, 9, 3, 2, 0, 1, 8, 7, 5, 6], [23, 22, 16, 21, 15, 14, 12, 13, 20, 19, 17, 18, 11, 10, 4, 9, 3, 2, 0, 1, 8, 7, 5, 6], [24, 23, 22, 16, 21, 15, 14, 12, 13, 20, 19, 17, 18, 11, 10, 4, 9, 3, 2, 0, 1, 8, 7, 5, 6], [25, 24, 23, 22, 16, 21, 15, 14, 12, 13, 20, 19, 17, 18, 11, 10, 4, 9, 3, 2, 0, 1, 8, 7, 5, 6], [26, 25, 24, 23, 22, 16, 21, 15, 14, 12, 13, 20, 19, 17, 18, 11, 10, 4, 9, 3, 2, 0, 1, 8, 7, 5, 6], [27, 26, 25, 24, 23, 22, 16, 21, 15, 14, 12, 13, 20, 19, 17, 18, 11, 10, 4, 9, 3, 2, 0, 1, 8, 7, 5, 6], [28, 27, 26, 25, 24, 23, 22, 16, 21, 15, 14, 12, 13, 20, 19, 17, 18, 11, 10, 4, 9, 3, 2, 0, 1, 8, 7, 5, 6], [29, 28, 27, 26, 25, 24, 23, 22, 16, 21, 15, 14, 12, 13, 20, 19, 17, 18, 11, 10, 4, 9, 3, 2, 0, 1, 8, 7, 5, 6], [29, 28, 27, 26, 25, 24, 23, 22, 16, 21, 15, 14, 12, 13, 20, 19, 17, 18, 11, 10, 4, 9, 3, 2, 0, 1, 8, 7, 5, 6], [30, 31, 29, 28, 27, 26, 25, 24, 23, 22, 16, 21, 15, 14, 12, 13, 20, 19, 17, 18, 11, 10, 4, 9, 3, 2, 0, 1, 8, 7, 5, 6], [32, 30, 31, 29, 28, 27, 26, 25, 24, 23, 22, 16, 21, 15, 14, 12, 13, 20, 19, 17, 18, 11, 10, 4, 9, 3, 2, 0, 1, 8, 7, 5, 6], [33, 32, 30, 31, 29, 28, 27, 26, 25, 24, 23, 22, 16, 21, 15, 14, 12, 13, 20, 19, 17, 18, 11, 10, 4, 9, 3, 2, 0, 1, 8, 7, 5, 6], [29, 28, 27, 26, 25, 24, 23, 22, 16, 21, 15, 14, 12, 13, 20, 19, 17, 18, 11, 10, 4, 9, 3, 2, 0, 1, 8, 7, 5, 6], [34, 35, 33, 32, 30, 31, 29, 28, 27, 26, 25, 24, 23, 22, 16, 21, 15, 14, 12, 13, 20, 19, 17, 18, 11, 10, 4, 9, 3, 2, 0, 1, 8, 7, 5, 6], [29, 28, 27, 26, 25, 24, 23, 22, 16, 21, 15, 14, 12, 13, 20, 19, 17, 18, 11, 10, 4, 9, 3, 2, 0, 1, 8, 7, 5, 6], [29, 28, 27, 26, 25, 24, 23, 22, 16, 21, 15, 14, 12, 13, 20, 19, 17, 18, 11, 10, 4, 9, 3, 2, 0, 1, 8, 7, 5, 6], [37, 38, 29, 28, 27, 26, 25, 24, 23, 22, 16, 21, 15, 14, 12, 13, 20, 19, 17, 18, 11, 10, 4, 9, 3, 2, 0, 1, 8, 7, 5, 6], [39, 37, 38, 29, 28, 27, 26, 25, 24, 23, 22, 16, 21, 15, 14, 12, 13, 20, 19, 17, 18, 11, 10, 4, 9, 3, 2, 0, 1, 8, 7, 5, 6], [40, 39, 37, 38, 29, 28, 27, 26, 25, 24, 23, 22, 16, 21, 15, 14, 12, 13, 20, 19, 17, 18, 11, 10, 4, 9, 3, 2, 0, 1, 8, 7, 5, 6], [29, 28, 27, 26, 25, 24, 23, 22, 16, 21, 15, 14, 12, 13, 20, 19, 17, 18, 11, 10, 4, 9, 3, 2, 0, 1, 8, 7, 5, 6], [29, 28, 27, 26, 25, 24, 23, 22, 16, 21, 15, 14, 12, 13, 20, 19, 17, 18, 11, 10, 4, 9, 3, 2, 0, 1, 8, 7, 5, 6], [42, 43, 29, 28, 27, 26, 25, 24, 23, 22, 16, 21, 15, 14, 12, 13, 20, 19, 17, 18, 11, 10, 4, 9, 3, 2, 0, 1, 8, 7, 5, 6], [44, 42, 43, 29, 28, 27, 26, 25, 24, 23, 22, 16, 21, 15, 14, 12, 13, 20, 19, 17, 18, 11, 10, 4, 9, 3, 2, 0, 1, 8, 7, 5, 6], [45, 44, 42, 43, 29, 28, 27, 26, 25, 24, 23, 22, 16, 21, 15, 14, 12, 13, 20, 19, 17, 18, 11, 10, 4, 9, 3, 2, 0, 1, 8, 7, 5, 6], [41, 46, 40, 39, 37, 38, 45, 44, 42, 43, 29, 28, 27, 26, 25, 24, 23, 22, 16, 21, 15, 14, 12, 13, 20, 19, 17, 18, 11, 10, 4, 9, 3, 2, 0, 1, 8, 7, 5, 6], [36, 47, 34, 35, 33, 32, 30, 31, 41, 46, 40, 39, 37, 38, 45, 44, 42, 43, 29, 28, 27, 26, 25, 24, 23, 22, 16, 21, 15, 14, 12, 13, 20, 19, 17, 18, 11, 10, 4, 9, 3, 2, 0, 1, 8, 7, 5, 6], [48, 36, 47, 34, 35, 33, 32, 30, 31, 41, 46, 40, 39, 37, 38, 45, 44, 42, 43, 29, 28, 27, 26, 25, 24, 23, 22, 16, 21, 15, 14, 12, 13, 20, 19, 17, 18, 11, 10, 4, 9, 3, 2, 0, 1, 8, 7, 5, 6], [49, 48, 36, 47, 34, 35, 33, 32, 30, 31, 41, 46, 40, 39, 37, 38, 45, 44, 42, 43, 29, 28, 27, 26, 25, 24, 23, 22, 16, 21, 15, 14, 12, 13, 20, 19, 17, 18, 11, 10, 4, 9, 3, 2, 0, 1, 8, 7, 5, 6]]
def F9o12 : List AOper := [
  ⟨(some 6), .t (.mv (.c (.bool false))), none⟩]
def F9o13 : List AOper := [
  ⟨(some 106), .t (.mv (.t 9)), none⟩,
  ⟨(some 107), .t (.mv (.t 106)), none⟩,
  ⟨(some 108), .t (.mv (.t 8)), (some (107, false))⟩,
  ⟨(some 109), .t (.mv (.t 10)), (some (107, false))⟩,
  ⟨(some 110), .t (.iaddr 13 (.t 108) (.t 109)), (some (107, false))⟩,
  ⟨(some 111), .t (.faddr 0 (.t 110)), (some (107, false))⟩,
  ⟨(some 112), .m (.load false 1 (.t 111)), (some (107, false))⟩,
  ⟨(some 113), .t (.mv (.t 1)), (some (107, false))⟩,
  ⟨(some 114), .t (.bin .eql (.t 112) (.t 113)), (some (107, false))⟩,
  ⟨(some 115), .t (.mv (.t 114)), (some (107, false))⟩,
  ⟨(some 116), .t (.mv (.t 8)), (some (115, true))⟩,
  ⟨(some 117), .t (.mv (.t 10)), (some (115, true))⟩,
  ⟨(some 118), .t (.iaddr 13 (.t 116) (.t 117)), (some (115, true))⟩,
  ⟨(some 119), .t (.faddr 1 (.t 118)), (some (115, true))⟩,
  ⟨(some 120), .m (.load false 1 (.t 119)), (some (115, true))⟩,
  ⟨(some 121), .t (.mv (.t 2)), (some (115, true))⟩,
  ⟨(some 122), .call (.c (.clo 40 [] [])) [(.t 120), (.t 121)], (some (115, true))⟩,
  ⟨(some 123), .t (.pick (.t 115) (.t 122) (.c (.bool false))), (some (107, false))⟩,
  ⟨(some 124), .t (.pick (.t 107) (.c (.bool true)) (.t 123)), none⟩,
  ⟨(some 9), .t (.mv (.t 124)), none⟩]
def F9o14 : List AOper := [
  ⟨(some 38), .t (.mv (.t 10)), none⟩,
  ⟨(some 39), .t (.bin .add (.t 38) (.c (.int .i64 1))), none⟩,
  ⟨(some 10), .t (.mv (.t 39)), none⟩]
def F9b15 : ACode :=
  (.seq ((.seq (.ops F9o9 [1, 2, 3, 7, 8, 9, 10, 37])
  (.cond (.t 37)
    (.skip)
    (.exit 0))))
  ((.seq (.block 1 ((.seq (.draw F9A10 F9o10 F9p10 [1, 2, 3, 7, 8, 9, 10, 11, 12])
    ((.seq ((.seq (.draw F9A11 F9o11 F9p11 [1, 2, 3, 7, 8, 9, 10, 105])
     (.cond (.t 105)
       ((.seq (.ops F9o12 [6])
        (.ret)))
       (.skip))))
     (.ops F9o13 [1, 2, 3, 7, 8, 9, 10]))))))
   (.ops F9o14 [1, 2, 3, 7, 8, 9, 10]))))
def F9o16 : List AOper := [
  ⟨(some 126), .m (.load true 5 (.t 3)), none⟩,
  ⟨(some 127), .t (.mv (.t 1)), none⟩,
  ⟨(some 128), .t (.mv (.t 2)), none⟩,
  ⟨(some 129), .call (.c (.clo 39 [] [])) [(.t 126), (.t 127), (.t 128)], none⟩,
  ⟨(some 125), .t (.mv (.t 129)), none⟩,
  ⟨(some 130), .t (.ext (.t 125) 0), none⟩,
  ⟨(some 131), .t (.ext (.t 125) 1), none⟩,
  ⟨(some 13), .m (.alloc 32 [(.str []), (.int .i64 0), (.int .i64 0), (.int .i64 0), (.int .i64 0), (.str []), (.str []), .nils, .nils, .nils, .nils]), none⟩,
  ⟨none, .m (.store 11 (.t 13) (.t 130)), none⟩,
  ⟨(some 14), .t (.mv (.t 131)), none⟩]
def F9o17 : List AOper := [
  ⟨(some 132), .t (.mv (.t 9)), none⟩,
  ⟨(some 133), .t (.mv (.t 132)), none⟩,
  ⟨(some 134), .t (.mv (.t 14)), (some (133, true))⟩,
  ⟨(some 135), .t (.bin .eql (.t 134) (.c (.int .i64 0))), (some (133, true))⟩,
  ⟨(some 136), .t (.pick (.t 133) (.t 135) (.c (.bool false))), none⟩,
  ⟨(some 137), .t (.mv (.t 136)), none⟩,
  ⟨(some 138), .t (.mv (.t 9)), (some (137, false))⟩,
  ⟨(some 139), .t (.not (.t 138)), (some (137, false))⟩,
  ⟨(some 140), .t (.mv (.t 139)), (some (137, false))⟩,
  ⟨(some 141), .t (.mv (.t 14)), (some (140, true))⟩,
  ⟨(some 142), .t (.bin .eql (.t 141) (.c (.int .i64 8))), (some (140, true))⟩,
  ⟨(some 143), .t (.pick (.t 140) (.t 142) (.c (.bool false))), (some (137, false))⟩,
  ⟨(some 144), .t (.mv (.t 143)), (some (137, false))⟩,
  ⟨(some 145), .m (.load true 11 (.t 13)), (some (144, true))⟩,
  ⟨(some 146), .m (.bslice false 32 11 1 [(.t 145)]), (some (144, true))⟩,
  ⟨(some 147), .t (.build [(.str []), (.int .i64 0), (.int .i64 0), (.int .i64 0), (.int .i64 0), (.str []), (.str []), .nils, .nils, .nils, .nils] []), (some (144, true))⟩,
  ⟨(some 148), .m (.bslice false 32 11 1 [(.t 147)]), (some (144, true))⟩,
  ⟨(some 149), .call (.c (.clo 41 [] [])) [(.t 146), (.t 148), (.c (.bool true))], (some (144, true))⟩,
  ⟨(some 150), .t (.pick (.t 144) (.t 149) (.c (.bool false))), (some (137, false))⟩,
  ⟨(some 151), .t (.pick (.t 137) (.c (.bool true)) (.t 150)), none⟩,
  ⟨(some 6), .t (.mv (.t 151)), none⟩]
def F9c : ACode :=
  (.seq (.ops F9o0 [1, 2, 3])
  ((.seq (.ops F9o1 [1, 2, 3])
   ((.seq ((.seq (.ops F9o2 [1, 2, 3, 23])
    (.cond (.t 23)
      ((.seq (.ops F9o3 [6])
       (.ret)))
      (.skip))))
    ((.seq (.draw F9A4 F9o4 F9p4 [1, 2, 3, 7, 8])
     ((.seq ((.seq (.ops F9o5 [1, 2, 3, 7, 8, 33])
      (.cond (.t 33)
        ((.seq (.ops F9o6 [6])
         (.ret)))
        (.skip))))
      ((.seq (.ops F9o7 [1, 2, 3, 7, 8, 9])
       ((.seq ((.seq (.ops F9o8 [1, 2, 3, 7, 8, 9, 10])
        (.block 0 (.loop [1, 2, 3, 7, 8, 9, 10] F9b15))))
        ((.seq (.ops F9o16 [9, 13, 14])
         ((.seq (.ops F9o17 [6])
          (.ret))))))))))))))))))
def F9 : AFn := ⟨152, [.tmp 6], F9c⟩
theorem F9_ok : cFn Tryd.prog [] 9 = some F9 := by kernel_rfl

/- manifold/manifoldlaw23.shortSteps -/
def F11o0 : List AOper := [
  ⟨(some 4), .t (.mv (.c .nils)), none⟩]
def F11o1 : List AOper := [
  ⟨(some 5), .t (.mv (.c .nils)), none⟩]
def F11o2 : List AOper := [
  ⟨(some 6), .t (.mv (.c (.int .i64 0))), none⟩]
def F11o3 : List AOper := [
  ⟨(some 11), .t (.mv (.t 6)), none⟩,
  ⟨(some 12), .t (.mv (.t 0)), none⟩,
  ⟨(some 13), .t (.len false (.t 12)), none⟩,
  ⟨(some 14), .t (.bin .lss (.t 11) (.t 13)), none⟩,
  ⟨(some 15), .t (.mv (.t 14)), none⟩,
  ⟨(some 16), .t (.mv (.t 6)), (some (15, true))⟩,
  ⟨(some 17), .t (.bin .lss (.t 16) (.c (.int .i64 8))), (some (15, true))⟩,
  ⟨(some 18), .t (.pick (.t 15) (.t 17) (.c (.bool false))), none⟩]
def F11o4 : List AOper := [
  ⟨(some 21), .t (.mv (.t 0)), none⟩,
  ⟨(some 22), .t (.mv (.t 6)), none⟩,
  ⟨(some 23), .t (.iaddr 11 (.t 21) (.t 22)), none⟩,
  ⟨(some 24), .m (.load true 11 (.t 23)), none⟩,
  ⟨(some 7), .m (.alloc 32 [(.str []), (.int .i64 0), (.int .i64 0), (.int .i64 0), (.int .i64 0), (.str []), (.str []), .nils, .nils, .nils, .nils]), none⟩,
  ⟨none, .m (.store 11 (.t 7) (.t 24)), none⟩]
def F11o5 : List AOper := [
  ⟨(some 25), .t (.faddr 0 (.t 7)), none⟩,
  ⟨(some 26), .m (.load false 1 (.t 25)), none⟩,
  ⟨(some 27), .call (.c (.clo 22 [] [])) [(.t 26)], none⟩,
  ⟨(some 28), .t (.faddr 5 (.t 7)), none⟩,
  ⟨(some 29), .m (.load false 1 (.t 28)), none⟩,
  ⟨(some 30), .call (.c (.clo 22 [] [])) [(.t 29)], none⟩,
  ⟨(some 31), .t (.faddr 6 (.t 7)), none⟩,
  ⟨(some 32), .m (.load false 1 (.t 31)), none⟩,
  ⟨(some 33), .call (.c (.clo 22 [] [])) [(.t 32)], none⟩,
  ⟨(some 34), .t (.faddr 0 (.t 7)), none⟩]
def F11p5 : List AOper := [
  ⟨none, .m (.store 1 (.t 34) (.t 27)), none⟩,
  ⟨(some 35), .t (.faddr 5 (.t 7)), none⟩,
  ⟨none, .m (.store 1 (.t 35) (.t 30)), none⟩,
  ⟨(some 36), .t (.faddr 6 (.t 7)), none⟩,
  ⟨none, .m (.store 1 (.t 36) (.t 33)), none⟩]
def F11A5 : List (List Nat) := [[], [0], [1, 0], [], [3], [4, 2, 3, 1, 0], [], [6], [7, 5, 6, 4, 2, 3, 1, 0], [2, 4, 7, 1, 0, 3, 6], [9, 8, 7, 5, 4, 2, 1, 0, 3, 6], [10, 9, 8, 7, 5, 4, 2, 1, 0, 3, 6], [11, 10, 9, 8, 7, 5, 4, 2, 1, 0, 3, 6], [12, 11, 10, 9, 8, 7, 5, 4, 2, 1, 0, 3, 6], [13, 12, 11, 10, 9, 8, 7, 5, 4, 2, 1, 0, 3, 6]]
def F11o6 : List AOper := [
  ⟨(some 37), .t (.faddr 7 (.t 7)), none⟩,
  ⟨(some 38), .m (.load false 1 (.t 37)), none⟩,
  ⟨(some 39), .t (.faddr 7 (.t 7)), none⟩,
  ⟨(some 40), .m (.load false 1 (.t 39)), none⟩,
  ⟨(some 41), .t (.len false (.t 40)), none⟩,
  ⟨(some 42), .t (.imin (.t 41) (.c (.int .i64 3))), none⟩,
  ⟨(some 43), .t (.sliceL 5 (.t 38) none (some (.t 42))), none⟩,
  ⟨(some 44), .m (.bslice true 87 2 0 []), none⟩,
  ⟨(some 45), .t (.faddr 9 (.t 7)), none⟩,
  ⟨(some 46), .m (.load false 1 (.t 45)), none⟩,
  ⟨(some 47), .t (.faddr 9 (.t 7)), none⟩,
  ⟨(some 48), .m (.load false 1 (.t 47)), none⟩,
  ⟨(some 49), .t (.len false (.t 48)), none⟩,
  ⟨(some 50), .t (.imin (.t 49) (.c (.int .i64 18))), none⟩,
  ⟨(some 51), .t (.sliceL 2 (.t 46) none (some (.t 50))), none⟩,
  ⟨(some 52), .m (.append true 87 2 40 (.t 44) (.t 51)), none⟩,
  ⟨(some 53), .t (.faddr 8 (.t 7)), none⟩,
  ⟨(some 54), .t (.faddr 0 (.t 53)), none⟩,
  ⟨(some 55), .m (.load false 1 (.t 54)), none⟩,
  ⟨(some 56), .t (.faddr 8 (.t 7)), none⟩,
  ⟨(some 57), .t (.faddr 0 (.t 56)), none⟩,
  ⟨(some 58), .m (.load false 1 (.t 57)), none⟩,
  ⟨(some 59), .t (.len false (.t 58)), none⟩,
  ⟨(some 60), .t (.imin (.t 59) (.c (.int .i64 4))), none⟩,
  ⟨(some 61), .t (.sliceL 6 (.t 55) none (some (.t 60))), none⟩,
  ⟨(some 62), .t (.faddr 7 (.t 7)), none⟩,
  ⟨none, .m (.store 1 (.t 62) (.t 43)), none⟩,
  ⟨(some 63), .t (.faddr 9 (.t 7)), none⟩,
  ⟨none, .m (.store 1 (.t 63) (.t 52)), none⟩]
def F11p6 : List AOper := [
  ⟨(some 64), .t (.faddr 8 (.t 7)), none⟩,
  ⟨(some 65), .t (.faddr 0 (.t 64)), none⟩,
  ⟨none, .m (.store 1 (.t 65) (.t 61)), none⟩]
def F11A6 : List (List Nat) := [[], [0], [], [2], [3, 2], [4, 3, 2], [1, 5, 0, 4, 3, 2], [], [], [8], [], [10], [11, 10], [12, 11, 10], [9, 13, 8, 12, 11, 10], [7, 14, 9, 13, 8, 12, 11, 10], [], [16], [17, 16], [], [19], [20, 19], [21, 20, 19], [22, 21, 20, 19], [18, 23, 17, 16, 22, 21, 20, 19], [6, 9, 11, 18, 21, 1, 5, 0, 4, 3, 2, 8, 10, 17, 16, 20, 19], [25, 15, 6, 18, 21, 7, 14, 9, 13, 12, 11, 1, 5, 0, 4, 3, 2, 8, 10, 17, 16, 20, 19], [26, 25, 15, 6, 18, 21, 7, 14, 9, 13, 12, 11, 1, 5, 0, 4, 3, 2, 8, 10, 17, 16, 20, 19], [27, 26, 25, 15, 6, 18, 21, 7, 14, 9, 13, 12, 11, 1, 5, 0, 4, 3, 2, 8, 10, 17, 16, 20, 19], [24, 28, 23, 22, 27, 26, 25, 15, 6, 18, 21, 7, 14, 9, 13, 12, 11, 1, 5, 0, 4, 3, 2, 8, 10, 17, 16, 20, 19], [29, 24, 28, 23, 22, 27, 26, 25, 15, 6, 18, 21, 7, 14, 9, 13, 12, 11, 1, 5, 0, 4, 3, 2, 8, 10, 17, 16, 20, 19], [30, 29, 24, 28, 23, 22, 27, 26, 25, 15, 6, 18, 21, 7, 14, 9, 13, 12, 11, 1, 5, 0, 4, 3, 2, 8, 10, 17, 16, 20, 19]]
def F11o7 : List AOper := [
  ⟨(some 8), .t (.mv (.c (.int .i64 0))), none⟩]
def F11o8 : List AOper := [
  ⟨(some 66), .t (.mv (.t 8)), none⟩,
  ⟨(some 67), .t (.faddr 9 (.t 7)), none⟩,
  ⟨(some 68), .m (.load false 1 (.t 67)), none⟩,
  ⟨(some 69), .t (.len false (.t 68)), none⟩,
  ⟨(some 70), .t (.bin .lss (.t 66) (.t 69)), none⟩]
def F11o9 : List AOper := [
  ⟨(some 73), .t (.faddr 9 (.t 7)), none⟩,
  ⟨(some 74), .m (.load false 1 (.t 73)), none⟩,
  ⟨(some 75), .t (.mv (.t 8)), none⟩,
  ⟨(some 76), .t (.faddr 9 (.t 7)), none⟩,
  ⟨(some 77), .m (.load false 1 (.t 76)), none⟩,
  ⟨(some 78), .t (.mv (.t 8)), none⟩,
  ⟨(some 79), .t (.iaddr 2 (.t 77) (.t 78)), none⟩,
  ⟨(some 80), .t (.faddr 0 (.t 79)), none⟩,
  ⟨(some 81), .m (.load false 1 (.t 80)), none⟩,
  ⟨(some 82), .call (.c (.clo 22 [] [])) [(.t 81)], none⟩]
def F11p9 : List AOper := [
  ⟨(some 83), .t (.iaddr 2 (.t 74) (.t 75)), none⟩,
  ⟨(some 84), .t (.faddr 0 (.t 83)), none⟩,
  ⟨none, .m (.store 1 (.t 84) (.t 82)), none⟩]
def F11A9 : List (List Nat) := [[], [0], [], [], [3], [], [4, 5, 3], [6, 4, 5, 3], [7, 6, 4, 5, 3], [8, 7, 6, 4, 5, 3], [1, 2, 9, 0, 8, 7, 6, 4, 5, 3], [10, 1, 2, 9, 0, 8, 7, 6, 4, 5, 3], [11, 10, 1, 2, 9, 0, 8, 7, 6, 4, 5, 3]]
def F11o10 : List AOper := [
  ⟨(some 71), .t (.mv (.t 8)), none⟩,
  ⟨(some 72), .t (.bin .add (.t 71) (.c (.int .i64 1))), none⟩,
  ⟨(some 8), .t (.mv (.t 72)), none⟩]
def F11b11 : ACode :=
  (.seq ((.seq (.ops F11o8 [0, 1, 5, 6, 7, 8, 70])
  (.cond (.t 70)
    (.skip)
    (.exit 2))))
  ((.seq (.block 3 (.draw F11A9 F11o9 F11p9 [0, 1, 5, 6, 7, 8]))
   (.ops F11o10 [0, 1, 5, 6, 7, 8]))))
def F11o12 : List AOper := [
  ⟨(some 85), .t (.faddr 10 (.t 7)), none⟩,
  ⟨none, .m (.store 1 (.t 85) (.c .nils)), none⟩]
def F11o13 : List AOper := [
  ⟨(some 9), .t (.mv (.c (.int .i64 0))), none⟩]
def F11o14 : List AOper := [
  ⟨(some 86), .t (.mv (.t 9)), none⟩,
  ⟨(some 87), .t (.mv (.t 0)), none⟩,
  ⟨(some 88), .t (.mv (.t 6)), none⟩,
  ⟨(some 89), .t (.iaddr 11 (.t 87) (.t 88)), none⟩,
  ⟨(some 90), .t (.faddr 10 (.t 89)), none⟩,
  ⟨(some 91), .m (.load false 1 (.t 90)), none⟩,
  ⟨(some 92), .t (.len false (.t 91)), none⟩,
  ⟨(some 93), .t (.bin .lss (.t 86) (.t 92)), none⟩,
  ⟨(some 94), .t (.mv (.t 93)), none⟩,
  ⟨(some 95), .t (.mv (.t 9)), (some (94, true))⟩,
  ⟨(some 96), .t (.bin .lss (.t 95) (.c (.int .i64 4))), (some (94, true))⟩,
  ⟨(some 97), .t (.pick (.t 94) (.t 96) (.c (.bool false))), none⟩,
  ⟨(some 98), .t (.mv (.t 97)), none⟩,
  ⟨(some 99), .t (.mv (.t 1)), (some (98, true))⟩,
  ⟨(some 100), .t (.bin .gtr (.t 99) (.c (.int .i64 0))), (some (98, true))⟩,
  ⟨(some 101), .t (.pick (.t 98) (.t 100) (.c (.bool false))), none⟩]
def F11o15 : List AOper := [
  ⟨(some 104), .t (.mv (.t 0)), none⟩,
  ⟨(some 105), .t (.mv (.t 6)), none⟩,
  ⟨(some 106), .t (.iaddr 11 (.t 104) (.t 105)), none⟩,
  ⟨(some 107), .t (.faddr 10 (.t 106)), none⟩,
  ⟨(some 108), .m (.load false 1 (.t 107)), none⟩,
  ⟨(some 109), .t (.mv (.t 9)), none⟩,
  ⟨(some 110), .t (.iaddr 2 (.t 108) (.t 109)), none⟩,
  ⟨(some 111), .m (.load true 2 (.t 110)), none⟩,
  ⟨(some 10), .m (.alloc 89 [.nils, .nils]), none⟩,
  ⟨none, .m (.store 2 (.t 10) (.t 111)), none⟩]
def F11o16 : List AOper := [
  ⟨(some 112), .t (.faddr 10 (.t 7)), none⟩,
  ⟨(some 113), .m (.load false 1 (.t 112)), none⟩,
  ⟨(some 114), .t (.faddr 0 (.t 10)), none⟩,
  ⟨(some 115), .m (.load false 1 (.t 114)), none⟩,
  ⟨(some 116), .t (.faddr 0 (.t 10)), none⟩,
  ⟨(some 117), .m (.load false 1 (.t 116)), none⟩,
  ⟨(some 118), .t (.len false (.t 117)), none⟩,
  ⟨(some 119), .t (.imin (.t 118) (.c (.int .i64 2))), none⟩,
  ⟨(some 120), .t (.sliceL 5 (.t 115) none (some (.t 119))), none⟩,
  ⟨(some 121), .t (.faddr 1 (.t 10)), none⟩,
  ⟨(some 122), .m (.load false 1 (.t 121)), none⟩,
  ⟨(some 123), .t (.mv (.t 1)), none⟩,
  ⟨(some 124), .t (.bin .sub (.t 123) (.c (.int .i64 1))), none⟩,
  ⟨(some 125), .call (.c (.clo 11 [] [])) [(.t 122), (.t 124)], none⟩,
  ⟨(some 126), .t (.build [.nils, .nils] [(0, 1, (.t 120)), (1, 1, (.t 125))]), none⟩,
  ⟨(some 127), .m (.bslice false 89 2 1 [(.t 126)]), none⟩]
def F11p16 : List AOper := [
  ⟨(some 128), .m (.append false 89 2 48 (.t 113) (.t 127)), none⟩,
  ⟨(some 129), .t (.faddr 10 (.t 7)), none⟩,
  ⟨none, .m (.store 1 (.t 129) (.t 128)), none⟩]
def F11A16 : List (List Nat) := [[], [0], [], [2], [], [4], [5, 4], [6, 5, 4], [3, 7, 2, 6, 5, 4], [], [9], [], [11], [10, 12, 9, 11], [8, 13, 3, 7, 2, 6, 5, 4, 10, 12, 9, 11], [14, 8, 13, 3, 7, 2, 6, 5, 4, 10, 12, 9, 11], [1, 15, 0, 14, 8, 13, 3, 7, 2, 6, 5, 4, 10, 12, 9, 11], [16, 1, 15, 0, 14, 8, 13, 3, 7, 2, 6, 5, 4, 10, 12, 9, 11], [17, 16, 1, 15, 0, 14, 8, 13, 3, 7, 2, 6, 5, 4, 10, 12, 9, 11]]
def F11o17 : List AOper := [
  ⟨(some 102), .t (.mv (.t 9)), none⟩,
  ⟨(some 103), .t (.bin .add (.t 102) (.c (.int .i64 1))), none⟩,
  ⟨(some 9), .t (.mv (.t 103)), none⟩]
def F11b18 : ACode :=
  (.seq ((.seq (.ops F11o14 [0, 1, 5, 6, 7, 9, 101])
  (.cond (.t 101)
    (.skip)
    (.exit 4))))
  ((.seq (.block 5 ((.seq (.ops F11o15 [0, 1, 5, 6, 7, 9, 10])
    (.draw F11A16 F11o16 F11p16 [0, 1, 5, 6, 7, 9]))))
   (.ops F11o17 [0, 1, 5, 6, 7, 9]))))
def F11o19 : List AOper := [
  ⟨(some 130), .t (.mv (.t 5)), none⟩,
  ⟨(some 131), .fz (some (true, 11)) (.t 7), none⟩,
  ⟨(some 132), .m (.bslice false 32 11 1 [(.t 131)]), none⟩,
  ⟨(some 133), .m (.append false 32 11 176 (.t 130) (.t 132)), none⟩,
  ⟨(some 5), .t (.mv (.t 133)), none⟩]
def F11o20 : List AOper := [
  ⟨(some 19), .t (.mv (.t 6)), none⟩,
  ⟨(some 20), .t (.bin .add (.t 19) (.c (.int .i64 1))), none⟩,
  ⟨(some 6), .t (.mv (.t 20)), none⟩]
def F11b21 : ACode :=
  (.seq ((.seq (.ops F11o3 [0, 1, 5, 6, 18])
  (.cond (.t 18)
    (.skip)
    (.exit 0))))
  ((.seq (.block 1 ((.seq (.ops F11o4 [0, 1, 5, 6, 7])
    ((.seq (.draw F11A5 F11o5 F11p5 [0, 1, 5, 6, 7])
     ((.seq (.draw F11A6 F11o6 F11p6 [0, 1, 5, 6, 7])
      ((.seq ((.seq (.ops F11o7 [0, 1, 5, 6, 7, 8])
       (.block 2 (.loop [0, 1, 5, 6, 7, 8] F11b11))))
       ((.seq (.ops F11o12 [0, 1, 5, 6, 7])
        ((.seq ((.seq (.ops F11o13 [0, 1, 5, 6, 7, 9])
         (.block 4 (.loop [0, 1, 5, 6, 7, 9] F11b18))))
         (.ops F11o19 [0, 1, 5, 6]))))))))))))))
   (.ops F11o20 [0, 1, 5, 6]))))
def F11o22 : List AOper := [
  ⟨(some 134), .t (.mv (.t 5)), none⟩,
  ⟨(some 4), .t (.mv (.t 134)), none⟩]
def F11c : ACode :=
  (.seq (.ops F11o0 [0, 1])
  ((.seq (.ops F11o1 [0, 1, 5])
   ((.seq ((.seq (.ops F11o2 [0, 1, 5, 6])
    (.block 0 (.loop [0, 1, 5, 6] F11b21))))
    ((.seq (.ops F11o22 [4])
     (.ret))))))))
def F11 : AFn := ⟨135, [.tmp 4], F11c⟩
theorem F11_ok : cFn Tryd.prog [44, 52, 1000131] 11 = some F11 := by kernel_rfl

/- manifold/resolve.Ends -/
def F12o0 : List AOper := [
  ⟨(some 1), .m (.cbox 32 (.t 0)), none⟩,
  ⟨(some 2), .t (.mv (.c (.bool false))), none⟩]
def F12o1 : List AOper := [
  ⟨(some 3), .t (.faddr 1 (.t 1)), none⟩,
  ⟨(some 4), .m (.load false 1 (.t 3)), none⟩]
def F12o2 : List AOper := [
  ⟨(some 6), .t (.bin .eql (.t 4) (.c (.int .i64 13))), none⟩,
  ⟨(some 5), .t (.mv (.t 6)), none⟩]
def F12o3 : List AOper := [
  ⟨(some 7), .t (.bin .eql (.t 4) (.c (.int .i64 14))), none⟩,
  ⟨(some 5), .t (.mv (.t 7)), none⟩]
def F12o4 : List AOper := [
  ⟨(some 2), .t (.mv (.c (.bool true))), none⟩]
def F12o5 : List AOper := [
  ⟨(some 9), .t (.bin .eql (.t 4) (.c (.int .i64 11))), none⟩,
  ⟨(some 8), .t (.mv (.t 9)), none⟩]
def F12o6 : List AOper := [
  ⟨(some 10), .t (.bin .eql (.t 4) (.c (.int .i64 12))), none⟩,
  ⟨(some 8), .t (.mv (.t 10)), none⟩]
def F12o7 : List AOper := [
  ⟨(some 11), .t (.faddr 10 (.t 1)), none⟩,
  ⟨(some 12), .m (.load false 1 (.t 11)), none⟩,
  ⟨(some 13), .t (.len false (.t 12)), none⟩,
  ⟨(some 14), .t (.bin .gtr (.t 13) (.c (.int .i64 0))), none⟩,
  ⟨(some 15), .t (.mv (.t 14)), none⟩,
  ⟨(some 16), .t (.faddr 10 (.t 1)), (some (15, true))⟩,
  ⟨(some 17), .m (.load false 1 (.t 16)), (some (15, true))⟩,
  ⟨(some 18), .call (.c (.clo 45 [] [])) [(.t 17), (.c (.clo 46 [] []))], (some (15, true))⟩,
  ⟨(some 19), .t (.not (.t 18)), (some (15, true))⟩,
  ⟨(some 20), .t (.pick (.t 15) (.t 19) (.c (.bool false))), none⟩,
  ⟨(some 2), .t (.mv (.t 20)), none⟩]
def F12o8 : List AOper := [
  ⟨(some 2), .t (.mv (.c (.bool false))), none⟩]
def F12c : ACode :=
  (.seq (.ops F12o0 [1])
  ((.seq ((.seq (.ops F12o1 [1, 4])
   (.block 0 ((.seq ((.seq (.ops F12o2 [1, 4, 5])
     (.cond (.t 5)
       (.skip)
       (.ops F12o3 [1, 4, 5]))))
     (.cond (.t 5)
       ((.seq (.ops F12o4 [2])
        (.ret)))
       ((.seq ((.seq (.ops F12o5 [1, 4, 8])
        (.cond (.t 8)
          (.skip)
          (.ops F12o6 [1, 8]))))
        (.cond (.t 8)
          ((.seq (.ops F12o7 [2])
           (.ret)))
          (.skip))))))))))
   ((.seq (.ops F12o8 [2])
    (.ret))))))
def F12 : AFn := ⟨21, [.tmp 2], F12c⟩
theorem F12_ok : cFn Tryd.prog [1] 12 = some F12 := by kernel_rfl

/- manifold/manifoldlaw23.known -/
def F14o0 : List AOper := [
  ⟨(some 0), .t (.mv (.c (.bool false))), none⟩]
def F14o1 : List AOper := [
  ⟨(some 3), .call (.c (.clo 48 [] [])) [(.c (.str [97]))], none⟩,
  ⟨(some 4), .m (.bslice false 32 11 1 [(.t 3)]), none⟩,
  ⟨(some 5), .call (.c (.clo 48 [] [])) [(.c (.str [98]))], none⟩,
  ⟨(some 6), .m (.bslice false 32 11 1 [(.t 5)]), none⟩,
  ⟨(some 7), .m (.bslice false 22 1 2 [(.t 4), (.t 6)]), none⟩,
  ⟨(some 8), .call (.c (.clo 47 [] [])) [(.t 7)], none⟩,
  ⟨(some 9), .m (.bslice false 32 11 1 [(.t 8)]), none⟩,
  ⟨(some 10), .t (.build [(.str []), (.str []), .nils] [(0, 1, (.c (.str [114]))), (2, 1, (.t 9))]), none⟩,
  ⟨(some 11), .m (.bslice false 56 3 1 [(.t 10)]), none⟩,
  ⟨(some 12), .t (.build [(.int .i64 0), .nils, .nils, .nils, .nils] [(4, 1, (.t 11))]), none⟩,
  ⟨(some 1), .m (.alloc 44 [(.int .i64 0), .nils, .nils, .nils, .nils]), none⟩,
  ⟨none, .m (.store 5 (.t 1) (.t 12)), none⟩]
def F14o2 : List AOper := [
  ⟨(some 13), .m (.load true 5 (.t 1)), none⟩,
  ⟨(some 14), .call (.c (.clo 37 [] [])) [(.t 13)], none⟩,
  ⟨(some 2), .t (.mv (.t 14)), none⟩]
def F14o3 : List AOper := [
  ⟨(some 15), .t (.mv (.t 2)), none⟩,
  ⟨(some 16), .t (.len false (.t 15)), none⟩,
  ⟨(some 17), .t (.bin .eql (.t 16) (.c (.int .i64 3))), none⟩,
  ⟨(some 18), .t (.mv (.t 17)), none⟩,
  ⟨(some 19), .t (.mv (.t 2)), (some (18, true))⟩,
  ⟨(some 20), .t (.iaddr 13 (.t 19) (.c (.int .i64 2))), (some (18, true))⟩,
  ⟨(some 21), .t (.faddr 1 (.t 20)), (some (18, true))⟩,
  ⟨(some 22), .m (.load false 1 (.t 21)), (some (18, true))⟩,
  ⟨(some 23), .m (.bslice false 3 1 3 [(.c (.int .i64 0)), (.c (.int .i64 1)), (.c (.int .i64 0))]), (some (18, true))⟩,
  ⟨(some 24), .call (.c (.clo 40 [] [])) [(.t 22), (.t 23)], (some (18, true))⟩,
  ⟨(some 25), .t (.pick (.t 18) (.t 24) (.c (.bool false))), none⟩,
  ⟨(some 26), .t (.mv (.t 25)), none⟩,
  ⟨(some 27), .t (.mv (.t 2)), (some (26, true))⟩,
  ⟨(some 28), .t (.iaddr 13 (.t 27) (.c (.int .i64 2))), (some (26, true))⟩,
  ⟨(some 29), .t (.faddr 1 (.t 28)), (some (26, true))⟩,
  ⟨(some 30), .m (.load false 1 (.t 29)), (some (26, true))⟩,
  ⟨(some 31), .call (.c (.clo 17 [] [])) [(.c (.int .i64 0)), (.t 30)], (some (26, true))⟩,
  ⟨(some 32), .t (.bin .eql (.t 31) (.c (.str [115, 48, 95, 48, 95, 49, 95, 48]))), (some (26, true))⟩,
  ⟨(some 33), .t (.pick (.t 26) (.t 32) (.c (.bool false))), none⟩,
  ⟨(some 34), .t (.mv (.t 33)), none⟩,
  ⟨(some 35), .t (.faddr 4 (.t 1)), (some (34, true))⟩,
  ⟨(some 36), .m (.load false 1 (.t 35)), (some (34, true))⟩,
  ⟨(some 37), .t (.iaddr 3 (.t 36) (.c (.int .i64 0))), (some (34, true))⟩,
  ⟨(some 38), .t (.faddr 2 (.t 37)), (some (34, true))⟩,
  ⟨(some 39), .m (.load false 1 (.t 38)), (some (34, true))⟩,
  ⟨(some 40), .call (.c (.clo 15 [] [])) [(.t 39)], (some (34, true))⟩,
  ⟨(some 41), .t (.pick (.t 34) (.t 40) (.c (.bool false))), none⟩,
  ⟨(some 42), .t (.mv (.t 41)), none⟩,
  ⟨(some 43), .call (.c (.clo 48 [] [])) [(.c (.str [97]))], (some (42, true))⟩,
  ⟨(some 44), .m (.bslice false 32 11 1 [(.t 43)]), (some (42, true))⟩,
  ⟨(some 45), .m (.bslice false 22 1 2 [(.t 44), (.c .nils)]), (some (42, true))⟩,
  ⟨(some 46), .call (.c (.clo 47 [] [])) [(.t 45)], (some (42, true))⟩,
  ⟨(some 47), .call (.c (.clo 12 [] [])) [(.t 46)], (some (42, true))⟩,
  ⟨(some 48), .t (.not (.t 47)), (some (42, true))⟩,
  ⟨(some 49), .t (.pick (.t 42) (.t 48) (.c (.bool false))), none⟩,
  ⟨(some 0), .t (.mv (.t 49)), none⟩]
def F14c : ACode :=
  (.seq (.ops F14o0 [])
  ((.seq (.ops F14o1 [1])
   ((.seq (.ops F14o2 [1, 2])
    ((.seq (.ops F14o3 [0])
     (.ret))))))))
def F14 : AFn := ⟨50, [.tmp 0], F14c⟩
theorem F14_ok : cFn Tryd.prog [] 14 = some F14 := by kernel_rfl

/- manifold/resolve.Finished -/
def F15o0 : List AOper := [
  ⟨(some 2), .t (.mv (.c (.bool false))), none⟩]
def F15o1 : List AOper := [
  ⟨(some 3), .t (.mv (.t 0)), none⟩,
  ⟨(some 4), .t (.len false (.t 3)), none⟩,
  ⟨(some 5), .t (.bin .gtr (.t 4) (.c (.int .i64 0))), none⟩,
  ⟨(some 6), .t (.mv (.t 5)), none⟩,
  ⟨(some 7), .t (.mv (.t 0)), (some (6, true))⟩,
  ⟨(some 8), .t (.mv (.t 0)), (some (6, true))⟩,
  ⟨(some 9), .t (.len false (.t 8)), (some (6, true))⟩,
  ⟨(some 10), .t (.bin .sub (.t 9) (.c (.int .i64 1))), (some (6, true))⟩,
  ⟨(some 11), .t (.iaddr 11 (.t 7) (.t 10)), (some (6, true))⟩,
  ⟨(some 12), .m (.load true 11 (.t 11)), (some (6, true))⟩,
  ⟨(some 13), .call (.c (.clo 12 [] [])) [(.t 12)], (some (6, true))⟩,
  ⟨(some 14), .t (.pick (.t 6) (.t 13) (.c (.bool false))), none⟩,
  ⟨(some 2), .t (.mv (.t 14)), none⟩]
def F15c : ACode :=
  (.seq (.ops F15o0 [0])
  ((.seq (.ops F15o1 [2])
   (.ret))))
def F15 : AFn := ⟨15, [.tmp 2], F15c⟩
theorem F15_ok : cFn Tryd.prog [] 15 = some F15 := by kernel_rfl

/- manifold/resolve.AutoName -/
def F17o0 : List AOper := [
  ⟨(some 4), .t (.mv (.c (.str []))), none⟩]
def F17o1 : List AOper := [
  ⟨(some 5), .t (.mv (.t 0)), none⟩,
  ⟨(some 6), .m (.bslice false 3 1 1 [(.t 5)]), none⟩,
  ⟨(some 7), .t (.mv (.t 1)), none⟩,
  ⟨(some 8), .m (.append false 3 1 8 (.t 6) (.t 7)), none⟩,
  ⟨(some 9), .call (.c (.clo 49 [] [])) [(.t 8), (.c (.str [95]))], none⟩,
  ⟨(some 10), .t (.bin .add (.c (.str [115])) (.t 9)), none⟩,
  ⟨(some 4), .t (.mv (.t 10)), none⟩]
def F17c : ACode :=
  (.seq (.ops F17o0 [0, 1])
  ((.seq (.ops F17o1 [4])
   (.ret))))
def F17 : AFn := ⟨11, [.tmp 4], F17c⟩
theorem F17_ok : cFn Tryd.prog [] 17 = some F17 := by kernel_rfl

/- manifold/manifoldlaw23.auto -/
def F18o0 : List AOper := [
  ⟨(some 4), .t (.mv (.c (.str []))), none⟩]
def F18o1 : List AOper := [
  ⟨(some 7), .t (.mv (.t 0)), none⟩,
  ⟨(some 8), .call (.c (.clo 50 [] [])) [(.t 7)], none⟩,
  ⟨(some 9), .t (.bin .add (.c (.str [115])) (.t 8)), none⟩,
  ⟨(some 5), .t (.mv (.t 9)), none⟩]
def F18o2 : List AOper := [
  ⟨(some 6), .t (.mv (.c (.int .i64 0))), none⟩]
def F18o3 : List AOper := [
  ⟨(some 10), .t (.mv (.t 6)), none⟩,
  ⟨(some 11), .t (.mv (.t 1)), none⟩,
  ⟨(some 12), .t (.len false (.t 11)), none⟩,
  ⟨(some 13), .t (.bin .lss (.t 10) (.t 12)), none⟩]
def F18o4 : List AOper := [
  ⟨(some 16), .t (.mv (.t 5)), none⟩,
  ⟨(some 17), .t (.bin .add (.t 16) (.c (.str [95]))), none⟩,
  ⟨(some 18), .t (.mv (.t 1)), none⟩,
  ⟨(some 19), .t (.mv (.t 6)), none⟩,
  ⟨(some 20), .t (.iaddr 1 (.t 18) (.t 19)), none⟩,
  ⟨(some 21), .m (.load false 1 (.t 20)), none⟩,
  ⟨(some 22), .call (.c (.clo 50 [] [])) [(.t 21)], none⟩,
  ⟨(some 23), .t (.bin .add (.t 17) (.t 22)), none⟩,
  ⟨(some 5), .t (.mv (.t 23)), none⟩]
def F18o5 : List AOper := [
  ⟨(some 14), .t (.mv (.t 6)), none⟩,
  ⟨(some 15), .t (.bin .add (.t 14) (.c (.int .i64 1))), none⟩,
  ⟨(some 6), .t (.mv (.t 15)), none⟩]
def F18b6 : ACode :=
  (.seq ((.seq (.ops F18o3 [1, 5, 6, 13])
  (.cond (.t 13)
    (.skip)
    (.exit 0))))
  ((.seq (.block 1 (.ops F18o4 [1, 5, 6]))
   (.ops F18o5 [1, 5, 6]))))
def F18o7 : List AOper := [
  ⟨(some 24), .t (.mv (.t 5)), none⟩,
  ⟨(some 4), .t (.mv (.t 24)), none⟩]
def F18c : ACode :=
  (.seq (.ops F18o0 [0, 1])
  ((.seq (.ops F18o1 [1, 5])
   ((.seq ((.seq (.ops F18o2 [1, 5, 6])
    (.block 0 (.loop [1, 5, 6] F18b6))))
    ((.seq (.ops F18o7 [4])
     (.ret))))))))
def F18 : AFn := ⟨25, [.tmp 4], F18c⟩
theorem F18_ok : cFn Tryd.prog [] 18 = some F18 := by kernel_rfl

/- manifold/resolve.PlaceText -/
def F19o0 : List AOper := [
  ⟨(some 2), .t (.mv (.c (.str []))), none⟩]
def F19o1 : List AOper := [
  ⟨(some 3), .t (.mv (.t 0)), none⟩,
  ⟨(some 4), .call (.c (.clo 49 [] [])) [(.t 3), (.c (.str [46]))], none⟩,
  ⟨(some 2), .t (.mv (.t 4)), none⟩]
def F19c : ACode :=
  (.seq (.ops F19o0 [0])
  ((.seq (.ops F19o1 [2])
   (.ret))))
def F19 : AFn := ⟨5, [.tmp 2], F19c⟩
theorem F19_ok : cFn Tryd.prog [] 19 = some F19 := by kernel_rfl

/- manifold/manifoldlaw23.placeText -/
def F20o0 : List AOper := [
  ⟨(some 2), .t (.mv (.c (.str []))), none⟩]
def F20o1 : List AOper := [
  ⟨(some 3), .t (.mv (.c (.str []))), none⟩]
def F20o2 : List AOper := [
  ⟨(some 4), .t (.mv (.c (.int .i64 0))), none⟩]
def F20o3 : List AOper := [
  ⟨(some 5), .t (.mv (.t 4)), none⟩,
  ⟨(some 6), .t (.mv (.t 0)), none⟩,
  ⟨(some 7), .t (.len false (.t 6)), none⟩,
  ⟨(some 8), .t (.bin .lss (.t 5) (.t 7)), none⟩]
def F20o4 : List AOper := [
  ⟨(some 11), .t (.mv (.t 4)), none⟩,
  ⟨(some 12), .t (.bin .gtr (.t 11) (.c (.int .i64 0))), none⟩]
def F20o5 : List AOper := [
  ⟨(some 13), .t (.mv (.t 3)), none⟩,
  ⟨(some 14), .t (.bin .add (.t 13) (.c (.str [46]))), none⟩,
  ⟨(some 3), .t (.mv (.t 14)), none⟩]
def F20o6 : List AOper := [
  ⟨(some 15), .t (.mv (.t 3)), none⟩,
  ⟨(some 16), .t (.mv (.t 0)), none⟩,
  ⟨(some 17), .t (.mv (.t 4)), none⟩,
  ⟨(some 18), .t (.iaddr 1 (.t 16) (.t 17)), none⟩,
  ⟨(some 19), .m (.load false 1 (.t 18)), none⟩,
  ⟨(some 20), .call (.c (.clo 50 [] [])) [(.t 19)], none⟩,
  ⟨(some 21), .t (.bin .add (.t 15) (.t 20)), none⟩,
  ⟨(some 3), .t (.mv (.t 21)), none⟩]
def F20o7 : List AOper := [
  ⟨(some 9), .t (.mv (.t 4)), none⟩,
  ⟨(some 10), .t (.bin .add (.t 9) (.c (.int .i64 1))), none⟩,
  ⟨(some 4), .t (.mv (.t 10)), none⟩]
def F20b8 : ACode :=
  (.seq ((.seq (.ops F20o3 [0, 3, 4, 8])
  (.cond (.t 8)
    (.skip)
    (.exit 0))))
  ((.seq (.block 1 ((.seq ((.seq (.ops F20o4 [0, 3, 4, 12])
    (.cond (.t 12)
      (.ops F20o5 [0, 3, 4])
      (.skip))))
    (.ops F20o6 [0, 3, 4]))))
   (.ops F20o7 [0, 3, 4]))))
def F20o9 : List AOper := [
  ⟨(some 22), .t (.mv (.t 3)), none⟩,
  ⟨(some 2), .t (.mv (.t 22)), none⟩]
def F20c : ACode :=
  (.seq (.ops F20o0 [0])
  ((.seq (.ops F20o1 [0, 3])
   ((.seq ((.seq (.ops F20o2 [0, 3, 4])
    (.block 0 (.loop [0, 3, 4] F20b8))))
    ((.seq (.ops F20o9 [2])
     (.ret))))))))
def F20 : AFn := ⟨23, [.tmp 2], F20c⟩
theorem F20_ok : cFn Tryd.prog [] 20 = some F20 := by kernel_rfl

/- manifold/manifoldlaw23.Short -/
def F21o0 : List AOper := [
  ⟨(some 1), .m (.cbox 44 (.t 0)), none⟩,
  ⟨(some 2), .m (.alloc 44 [(.int .i64 0), .nils, .nils, .nils, .nils]), none⟩]
def F21o1 : List AOper := [
  ⟨(some 12), .t (.faddr 0 (.t 1)), none⟩,
  ⟨(some 13), .m (.load false 1 (.t 12)), none⟩,
  ⟨(some 14), .t (.build [(.int .i64 0), .nils, .nils, .nils, .nils] [(0, 1, (.t 13))]), none⟩,
  ⟨(some 3), .m (.alloc 44 [(.int .i64 0), .nils, .nils, .nils, .nils]), none⟩,
  ⟨none, .m (.store 5 (.t 3) (.t 14)), none⟩]
def F21o2 : List AOper := [
  ⟨(some 4), .t (.mv (.c (.int .i64 0))), none⟩]
def F21o3 : List AOper := [
  ⟨(some 15), .t (.mv (.t 4)), none⟩,
  ⟨(some 16), .t (.faddr 1 (.t 1)), none⟩,
  ⟨(some 17), .m (.load false 1 (.t 16)), none⟩,
  ⟨(some 18), .t (.len false (.t 17)), none⟩,
  ⟨(some 19), .t (.bin .lss (.t 15) (.t 18)), none⟩,
  ⟨(some 20), .t (.mv (.t 19)), none⟩,
  ⟨(some 21), .t (.mv (.t 4)), (some (20, true))⟩,
  ⟨(some 22), .t (.bin .lss (.t 21) (.c (.int .i64 6))), (some (20, true))⟩,
  ⟨(some 23), .t (.pick (.t 20) (.t 22) (.c (.bool false))), none⟩]
def F21o4 : List AOper := [
  ⟨(some 26), .t (.faddr 1 (.t 1)), none⟩,
  ⟨(some 27), .m (.load false 1 (.t 26)), none⟩,
  ⟨(some 28), .t (.mv (.t 4)), none⟩,
  ⟨(some 29), .t (.iaddr 9 (.t 27) (.t 28)), none⟩,
  ⟨(some 30), .m (.load true 9 (.t 29)), none⟩,
  ⟨(some 5), .m (.alloc 100 [(.str []), (.int .i64 0), (.int .i64 0), (.int .i64 0), (.int .i64 0), (.int .i64 0), .nils, .nils, .nils]), none⟩,
  ⟨none, .m (.store 9 (.t 5) (.t 30)), none⟩]
def F21o5 : List AOper := [
  ⟨(some 31), .t (.faddr 1 (.t 3)), none⟩,
  ⟨(some 32), .m (.load false 1 (.t 31)), none⟩,
  ⟨(some 33), .t (.faddr 0 (.t 5)), none⟩,
  ⟨(some 34), .m (.load false 1 (.t 33)), none⟩,
  ⟨(some 35), .call (.c (.clo 22 [] [])) [(.t 34)], none⟩,
  ⟨(some 36), .t (.faddr 1 (.t 5)), none⟩,
  ⟨(some 37), .m (.load false 1 (.t 36)), none⟩,
  ⟨(some 38), .t (.faddr 2 (.t 5)), none⟩,
  ⟨(some 39), .m (.load true 7 (.t 38)), none⟩,
  ⟨(some 40), .call (.c (.clo 51 [] [])) [(.t 39), (.c (.int .i64 4))], none⟩,
  ⟨(some 41), .t (.build [(.str []), (.int .i64 0), (.int .i64 0), (.int .i64 0), (.int .i64 0), (.int .i64 0), .nils, .nils, .nils] [(0, 1, (.t 35)), (1, 1, (.t 37)), (2, 7, (.t 40))]), none⟩,
  ⟨(some 42), .m (.bslice false 100 9 1 [(.t 41)]), none⟩]
def F21p5 : List AOper := [
  ⟨(some 43), .m (.append false 100 9 128 (.t 32) (.t 42)), none⟩,
  ⟨(some 44), .t (.faddr 1 (.t 3)), none⟩,
  ⟨none, .m (.store 1 (.t 44) (.t 43)), none⟩]
def F21A5 : List (List Nat) := [[], [0], [], [2], [3, 2], [], [5], [], [7], [8, 4, 7, 3, 2], [6, 9, 5, 8, 4, 7, 3, 2], [10, 6, 9, 5, 8, 4, 7, 3, 2], [1, 11, 0, 10, 6, 9, 5, 8, 4, 7, 3, 2], [12, 1, 11, 0, 10, 6, 9, 5, 8, 4, 7, 3, 2], [13, 12, 1, 11, 0, 10, 6, 9, 5, 8, 4, 7, 3, 2]]
def F21o6 : List AOper := [
  ⟨(some 24), .t (.mv (.t 4)), none⟩,
  ⟨(some 25), .t (.bin .add (.t 24) (.c (.int .i64 1))), none⟩,
  ⟨(some 4), .t (.mv (.t 25)), none⟩]
def F21b7 : ACode :=
  (.seq ((.seq (.ops F21o3 [1, 2, 3, 4, 23])
  (.cond (.t 23)
    (.skip)
    (.exit 0))))
  ((.seq (.block 1 ((.seq (.ops F21o4 [1, 2, 3, 4, 5])
    (.draw F21A5 F21o5 F21p5 [1, 2, 3, 4]))))
   (.ops F21o6 [1, 2, 3, 4]))))
def F21o8 : List AOper := [
  ⟨(some 6), .t (.mv (.c (.int .i64 0))), none⟩]
def F21o9 : List AOper := [
  ⟨(some 45), .t (.mv (.t 6)), none⟩,
  ⟨(some 46), .t (.faddr 2 (.t 1)), none⟩,
  ⟨(some 47), .m (.load false 1 (.t 46)), none⟩,
  ⟨(some 48), .t (.len false (.t 47)), none⟩,
  ⟨(some 49), .t (.bin .lss (.t 45) (.t 48)), none⟩,
  ⟨(some 50), .t (.mv (.t 49)), none⟩,
  ⟨(some 51), .t (.mv (.t 6)), (some (50, true))⟩,
  ⟨(some 52), .t (.bin .lss (.t 51) (.c (.int .i64 6))), (some (50, true))⟩,
  ⟨(some 53), .t (.pick (.t 50) (.t 52) (.c (.bool false))), none⟩]
def F21o10 : List AOper := [
  ⟨(some 56), .t (.faddr 2 (.t 1)), none⟩,
  ⟨(some 57), .m (.load false 1 (.t 56)), none⟩,
  ⟨(some 58), .t (.mv (.t 6)), none⟩,
  ⟨(some 59), .t (.iaddr 7 (.t 57) (.t 58)), none⟩,
  ⟨(some 60), .m (.load true 7 (.t 59)), none⟩,
  ⟨(some 7), .m (.alloc 52 [(.str []), (.int .i64 0), (.str []), (.int .i64 0), (.int .i64 0), (.int .i64 0), .nils]), none⟩,
  ⟨none, .m (.store 7 (.t 7) (.t 60)), none⟩]
def F21o11 : List AOper := [
  ⟨(some 61), .t (.faddr 0 (.t 7)), none⟩,
  ⟨(some 62), .m (.load false 1 (.t 61)), none⟩,
  ⟨(some 63), .call (.c (.clo 22 [] [])) [(.t 62)], none⟩,
  ⟨(some 64), .t (.faddr 2 (.t 7)), none⟩,
  ⟨(some 65), .m (.load false 1 (.t 64)), none⟩,
  ⟨(some 66), .call (.c (.clo 22 [] [])) [(.t 65)], none⟩,
  ⟨(some 67), .t (.faddr 4 (.t 7)), none⟩,
  ⟨(some 68), .t (.faddr 2 (.t 67)), none⟩,
  ⟨(some 69), .m (.load false 1 (.t 68)), none⟩,
  ⟨(some 70), .t (.faddr 4 (.t 7)), none⟩,
  ⟨(some 71), .t (.faddr 2 (.t 70)), none⟩,
  ⟨(some 72), .m (.load false 1 (.t 71)), none⟩,
  ⟨(some 73), .t (.len false (.t 72)), none⟩,
  ⟨(some 74), .t (.imin (.t 73) (.c (.int .i64 8))), none⟩,
  ⟨(some 75), .t (.sliceL 1 (.t 69) none (some (.t 74))), none⟩,
  ⟨(some 76), .t (.faddr 0 (.t 7)), none⟩,
  ⟨none, .m (.store 1 (.t 76) (.t 63)), none⟩,
  ⟨(some 77), .t (.faddr 2 (.t 7)), none⟩,
  ⟨none, .m (.store 1 (.t 77) (.t 66)), none⟩]
def F21p11 : List AOper := [
  ⟨(some 78), .t (.faddr 4 (.t 7)), none⟩,
  ⟨(some 79), .t (.faddr 2 (.t 78)), none⟩,
  ⟨none, .m (.store 1 (.t 79) (.t 75)), none⟩]
def F21A11 : List (List Nat) := [[], [0], [1, 0], [], [3], [4, 2, 3, 1, 0], [], [6], [7, 6], [], [9], [10, 9], [11, 10, 9], [12, 11, 10, 9], [8, 13, 7, 6, 12, 11, 10, 9], [2, 4, 8, 11, 1, 0, 3, 7, 6, 10, 9], [15, 5, 8, 11, 4, 2, 1, 0, 3, 7, 6, 10, 9], [16, 15, 5, 8, 11, 4, 2, 1, 0, 3, 7, 6, 10, 9], [17, 16, 15, 5, 8, 11, 4, 2, 1, 0, 3, 7, 6, 10, 9], [14, 18, 13, 12, 17, 16, 15, 5, 8, 11, 4, 2, 1, 0, 3, 7, 6, 10, 9], [19, 14, 18, 13, 12, 17, 16, 15, 5, 8, 11, 4, 2, 1, 0, 3, 7, 6, 10, 9], [20, 19, 14, 18, 13, 12, 17, 16, 15, 5, 8, 11, 4, 2, 1, 0, 3, 7, 6, 10, 9]]
def F21o12 : List AOper := [
  ⟨(some 80), .t (.faddr 2 (.t 3)), none⟩,
  ⟨(some 81), .m (.load false 1 (.t 80)), none⟩,
  ⟨(some 82), .m (.load true 7 (.t 7)), none⟩,
  ⟨(some 83), .m (.bslice false 52 7 1 [(.t 82)]), none⟩,
  ⟨(some 84), .m (.append false 52 7 88 (.t 81) (.t 83)), none⟩,
  ⟨(some 85), .t (.faddr 2 (.t 3)), none⟩,
  ⟨none, .m (.store 1 (.t 85) (.t 84)), none⟩]
def F21o13 : List AOper := [
  ⟨(some 54), .t (.mv (.t 6)), none⟩,
  ⟨(some 55), .t (.bin .add (.t 54) (.c (.int .i64 1))), none⟩,
  ⟨(some 6), .t (.mv (.t 55)), none⟩]
def F21b14 : ACode :=
  (.seq ((.seq (.ops F21o9 [1, 2, 3, 6, 53])
  (.cond (.t 53)
    (.skip)
    (.exit 2))))
  ((.seq (.block 3 ((.seq (.ops F21o10 [1, 2, 3, 6, 7])
    ((.seq (.draw F21A11 F21o11 F21p11 [1, 2, 3, 6, 7])
     (.ops F21o12 [1, 2, 3, 6]))))))
   (.ops F21o13 [1, 2, 3, 6]))))
def F21o15 : List AOper := [
  ⟨(some 8), .t (.mv (.c (.int .i64 0))), none⟩]
def F21o16 : List AOper := [
  ⟨(some 86), .t (.mv (.t 8)), none⟩,
  ⟨(some 87), .t (.faddr 3 (.t 1)), none⟩,
  ⟨(some 88), .m (.load false 1 (.t 87)), none⟩,
  ⟨(some 89), .t (.len false (.t 88)), none⟩,
  ⟨(some 90), .t (.bin .lss (.t 86) (.t 89)), none⟩,
  ⟨(some 91), .t (.mv (.t 90)), none⟩,
  ⟨(some 92), .t (.mv (.t 8)), (some (91, true))⟩,
  ⟨(some 93), .t (.bin .lss (.t 92) (.c (.int .i64 6))), (some (91, true))⟩,
  ⟨(some 94), .t (.pick (.t 91) (.t 93) (.c (.bool false))), none⟩]
def F21o17 : List AOper := [
  ⟨(some 97), .t (.faddr 3 (.t 1)), none⟩,
  ⟨(some 98), .m (.load false 1 (.t 97)), none⟩,
  ⟨(some 99), .t (.mv (.t 8)), none⟩,
  ⟨(some 100), .t (.iaddr 4 (.t 98) (.t 99)), none⟩,
  ⟨(some 101), .m (.load true 4 (.t 100)), none⟩,
  ⟨(some 9), .m (.alloc 54 [(.str []), (.str []), (.str []), (.bool false)]), none⟩,
  ⟨none, .m (.store 4 (.t 9) (.t 101)), none⟩]
def F21o18 : List AOper := [
  ⟨(some 102), .t (.faddr 0 (.t 9)), none⟩,
  ⟨(some 103), .m (.load false 1 (.t 102)), none⟩,
  ⟨(some 104), .call (.c (.clo 22 [] [])) [(.t 103)], none⟩,
  ⟨(some 105), .t (.faddr 1 (.t 9)), none⟩,
  ⟨(some 106), .m (.load false 1 (.t 105)), none⟩,
  ⟨(some 107), .call (.c (.clo 22 [] [])) [(.t 106)], none⟩,
  ⟨(some 108), .t (.faddr 2 (.t 9)), none⟩,
  ⟨(some 109), .m (.load false 1 (.t 108)), none⟩,
  ⟨(some 110), .call (.c (.clo 22 [] [])) [(.t 109)], none⟩,
  ⟨(some 111), .t (.faddr 0 (.t 9)), none⟩]
def F21p18 : List AOper := [
  ⟨none, .m (.store 1 (.t 111) (.t 104)), none⟩,
  ⟨(some 112), .t (.faddr 1 (.t 9)), none⟩,
  ⟨none, .m (.store 1 (.t 112) (.t 107)), none⟩,
  ⟨(some 113), .t (.faddr 2 (.t 9)), none⟩,
  ⟨none, .m (.store 1 (.t 113) (.t 110)), none⟩]
def F21A18 : List (List Nat) := [[], [0], [1, 0], [], [3], [4, 2, 3, 1, 0], [], [6], [7, 5, 6, 4, 2, 3, 1, 0], [2, 4, 7, 1, 0, 3, 6], [9, 8, 7, 5, 4, 2, 1, 0, 3, 6], [10, 9, 8, 7, 5, 4, 2, 1, 0, 3, 6], [11, 10, 9, 8, 7, 5, 4, 2, 1, 0, 3, 6], [12, 11, 10, 9, 8, 7, 5, 4, 2, 1, 0, 3, 6], [13, 12, 11, 10, 9, 8, 7, 5, 4, 2, 1, 0, 3, 6]]
def F21o19 : List AOper := [
  ⟨(some 114), .t (.faddr 3 (.t 3)), none⟩,
  ⟨(some 115), .m (.load false 1 (.t 114)), none⟩,
  ⟨(some 116), .m (.load true 4 (.t 9)), none⟩,
  ⟨(some 117), .m (.bslice false 54 4 1 [(.t 116)]), none⟩,
  ⟨(some 118), .m (.append false 54 4 56 (.t 115) (.t 117)), none⟩,
  ⟨(some 119), .t (.faddr 3 (.t 3)), none⟩,
  ⟨none, .m (.store 1 (.t 119) (.t 118)), none⟩]
def F21o20 : List AOper := [
  ⟨(some 95), .t (.mv (.t 8)), none⟩,
  ⟨(some 96), .t (.bin .add (.t 95) (.c (.int .i64 1))), none⟩,
  ⟨(some 8), .t (.mv (.t 96)), none⟩]
def F21b21 : ACode :=
  (.seq ((.seq (.ops F21o16 [1, 2, 3, 8, 94])
  (.cond (.t 94)
    (.skip)
    (.exit 4))))
  ((.seq (.block 5 ((.seq (.ops F21o17 [1, 2, 3, 8, 9])
    ((.seq (.draw F21A18 F21o18 F21p18 [1, 2, 3, 8, 9])
     (.ops F21o19 [1, 2, 3, 8]))))))
   (.ops F21o20 [1, 2, 3, 8]))))
def F21o22 : List AOper := [
  ⟨(some 10), .t (.mv (.c (.int .i64 0))), none⟩]
def F21o23 : List AOper := [
  ⟨(some 120), .t (.mv (.t 10)), none⟩,
  ⟨(some 121), .t (.faddr 4 (.t 1)), none⟩,
  ⟨(some 122), .m (.load false 1 (.t 121)), none⟩,
  ⟨(some 123), .t (.len false (.t 122)), none⟩,
  ⟨(some 124), .t (.bin .lss (.t 120) (.t 123)), none⟩,
  ⟨(some 125), .t (.mv (.t 124)), none⟩,
  ⟨(some 126), .t (.mv (.t 10)), (some (125, true))⟩,
  ⟨(some 127), .t (.bin .lss (.t 126) (.c (.int .i64 6))), (some (125, true))⟩,
  ⟨(some 128), .t (.pick (.t 125) (.t 127) (.c (.bool false))), none⟩]
def F21o24 : List AOper := [
  ⟨(some 131), .t (.faddr 4 (.t 1)), none⟩,
  ⟨(some 132), .m (.load false 1 (.t 131)), none⟩,
  ⟨(some 133), .t (.mv (.t 10)), none⟩,
  ⟨(some 134), .t (.iaddr 3 (.t 132) (.t 133)), none⟩,
  ⟨(some 135), .m (.load true 3 (.t 134)), none⟩,
  ⟨(some 11), .m (.alloc 56 [(.str []), (.str []), .nils]), none⟩,
  ⟨none, .m (.store 3 (.t 11) (.t 135)), none⟩]
def F21o25 : List AOper := [
  ⟨(some 136), .t (.faddr 4 (.t 3)), none⟩,
  ⟨(some 137), .m (.load false 1 (.t 136)), none⟩,
  ⟨(some 138), .t (.faddr 0 (.t 11)), none⟩,
  ⟨(some 139), .m (.load false 1 (.t 138)), none⟩,
  ⟨(some 140), .call (.c (.clo 22 [] [])) [(.t 139)], none⟩,
  ⟨(some 141), .t (.faddr 1 (.t 11)), none⟩,
  ⟨(some 142), .m (.load false 1 (.t 141)), none⟩,
  ⟨(some 143), .call (.c (.clo 22 [] [])) [(.t 142)], none⟩,
  ⟨(some 144), .t (.faddr 2 (.t 11)), none⟩,
  ⟨(some 145), .m (.load false 1 (.t 144)), none⟩,
  ⟨(some 146), .call (.c (.clo 11 [] [])) [(.t 145), (.c (.int .i64 4))], none⟩,
  ⟨(some 147), .t (.build [(.str []), (.str []), .nils] [(0, 1, (.t 140)), (1, 1, (.t 143)), (2, 1, (.t 146))]), none⟩,
  ⟨(some 148), .m (.bslice false 56 3 1 [(.t 147)]), none⟩]
def F21p25 : List AOper := [
  ⟨(some 149), .m (.append false 56 3 56 (.t 137) (.t 148)), none⟩,
  ⟨(some 150), .t (.faddr 4 (.t 3)), none⟩,
  ⟨none, .m (.store 1 (.t 150) (.t 149)), none⟩]
def F21A25 : List (List Nat) := [[], [0], [], [2], [3, 2], [], [5], [6, 4, 5, 3, 2], [], [8], [9, 7, 8, 6, 4, 5, 3, 2], [10, 9, 7, 8, 6, 4, 5, 3, 2], [11, 10, 9, 7, 8, 6, 4, 5, 3, 2], [1, 12, 0, 11, 10, 9, 7, 8, 6, 4, 5, 3, 2], [13, 1, 12, 0, 11, 10, 9, 7, 8, 6, 4, 5, 3, 2], [14, 13, 1, 12, 0, 11, 10, 9, 7, 8, 6, 4, 5, 3, 2]]
def F21o26 : List AOper := [
  ⟨(some 129), .t (.mv (.t 10)), none⟩,
  ⟨(some 130), .t (.bin .add (.t 129) (.c (.int .i64 1))), none⟩,
  ⟨(some 10), .t (.mv (.t 130)), none⟩]
def F21b27 : ACode :=
  (.seq ((.seq (.ops F21o23 [1, 2, 3, 10, 128])
  (.cond (.t 128)
    (.skip)
    (.exit 6))))
  ((.seq (.block 7 ((.seq (.ops F21o24 [1, 2, 3, 10, 11])
    (.draw F21A25 F21o25 F21p25 [1, 2, 3, 10]))))
   (.ops F21o26 [1, 2, 3, 10]))))
def F21o28 : List AOper := [
  ⟨(some 151), .m (.load true 5 (.t 3)), none⟩,
  ⟨none, .m (.store 5 (.t 2) (.t 151)), none⟩]
def F21c : ACode :=
  (.seq (.ops F21o0 [1, 2])
  ((.seq (.ops F21o1 [1, 2, 3])
   ((.seq ((.seq (.ops F21o2 [1, 2, 3, 4])
    (.block 0 (.loop [1, 2, 3, 4] F21b7))))
    ((.seq ((.seq (.ops F21o8 [1, 2, 3, 6])
     (.block 2 (.loop [1, 2, 3, 6] F21b14))))
     ((.seq ((.seq (.ops F21o15 [1, 2, 3, 8])
      (.block 4 (.loop [1, 2, 3, 8] F21b21))))
      ((.seq ((.seq (.ops F21o22 [1, 2, 3, 10])
       (.block 6 (.loop [1, 2, 3, 10] F21b27))))
       ((.seq (.ops F21o28 [2])
        (.ret))))))))))))))
def F21 : AFn := ⟨152, [.cell 2 true 5], F21c⟩
theorem F21_ok : cFn Tryd.prog [1] 21 = some F21 := by kernel_rfl

/- manifold/manifoldlaw23.cut -/
def F22o0 : List AOper := [
  ⟨(some 2), .t (.mv (.c (.str []))), none⟩]
def F22o1 : List AOper := [
  ⟨(some 3), .t (.mv (.t 0)), none⟩,
  ⟨(some 4), .t (.mv (.t 0)), none⟩,
  ⟨(some 5), .t (.len true (.t 4)), none⟩,
  ⟨(some 6), .t (.imin (.t 5) (.c (.int .i64 70))), none⟩,
  ⟨(some 7), .t (.sliceS (.t 3) none (some (.t 6))), none⟩,
  ⟨(some 2), .t (.mv (.t 7)), none⟩]
def F22c : ACode :=
  (.seq (.ops F22o0 [0])
  ((.seq (.ops F22o1 [2])
   (.ret))))
def F22 : AFn := ⟨8, [.tmp 2], F22c⟩
theorem F22_ok : cFn Tryd.prog [] 22 = some F22 := by kernel_rfl

/- manifold/resolve.Compare -/
def F34o0 : List AOper := [
  ⟨(some 2), .m (.cbox 63 (.t 0)), none⟩,
  ⟨(some 3), .m (.cbox 63 (.t 1)), none⟩,
  ⟨(some 4), .t (.mv (.c (.int .i64 0))), none⟩]
def F34o1 : List AOper := [
  ⟨(some 5), .t (.faddr 1 (.t 2)), none⟩,
  ⟨(some 6), .m (.load false 1 (.t 5)), none⟩,
  ⟨(some 7), .t (.faddr 1 (.t 3)), none⟩,
  ⟨(some 8), .m (.load false 1 (.t 7)), none⟩,
  ⟨(some 9), .call (.c (.clo 64 [] [])) [(.t 6), (.t 8)], none⟩,
  ⟨(some 10), .t (.faddr 2 (.t 2)), none⟩,
  ⟨(some 11), .m (.load false 1 (.t 10)), none⟩,
  ⟨(some 12), .t (.faddr 2 (.t 3)), none⟩,
  ⟨(some 13), .m (.load false 1 (.t 12)), none⟩,
  ⟨(some 14), .call (.c (.clo 65 [] [])) [(.t 11), (.t 13)], none⟩,
  ⟨(some 15), .t (.faddr 0 (.t 2)), none⟩,
  ⟨(some 16), .m (.load false 1 (.t 15)), none⟩,
  ⟨(some 17), .t (.faddr 0 (.t 3)), none⟩,
  ⟨(some 18), .m (.load false 1 (.t 17)), none⟩,
  ⟨(some 19), .call (.c (.clo 66 [] [])) [(.t 16), (.t 18)], none⟩,
  ⟨(some 20), .t (.faddr 3 (.t 2)), none⟩,
  ⟨(some 21), .m (.load false 1 (.t 20)), none⟩,
  ⟨(some 22), .t (.faddr 3 (.t 3)), none⟩,
  ⟨(some 23), .m (.load false 1 (.t 22)), none⟩]
def F34p1 : List AOper := [
  ⟨(some 24), .call (.c (.clo 64 [] [])) [(.t 21), (.t 23)], none⟩,
  ⟨(some 25), .m (.bslice false 3 1 4 [(.t 9), (.t 14), (.t 19), (.t 24)]), none⟩,
  ⟨(some 26), .call (.c (.clo 63 [] [])) [(.t 25)], none⟩,
  ⟨(some 4), .t (.mv (.t 26)), none⟩]
def F34A1 : List (List Nat) := [[], [0], [], [2], [1, 3, 0, 2], [], [5], [], [7], [6, 8, 4, 5, 7, 1, 3, 0, 2], [], [10], [], [12], [11, 13, 9, 10, 12, 6, 8, 4, 5, 7, 1, 3, 0, 2], [], [15], [], [17], [16, 18, 14, 15, 17, 11, 13, 9, 10, 12, 6, 8, 4, 5, 7, 1, 3, 0, 2], [19, 16, 18, 14, 15, 17, 11, 13, 9, 10, 12, 6, 8, 4, 5, 7, 1, 3, 0, 2], [20, 19, 16, 18, 14, 15, 17, 11, 13, 9, 10, 12, 6, 8, 4, 5, 7, 1, 3, 0, 2], [21, 20, 19, 16, 18, 14, 15, 17, 11, 13, 9, 10, 12, 6, 8, 4, 5, 7, 1, 3, 0, 2]]
def F34c : ACode :=
  (.seq (.ops F34o0 [2, 3])
  ((.seq (.draw F34A1 F34o1 F34p1 [4])
   (.ret))))
def F34 : AFn := ⟨27, [.tmp 4], F34c⟩
theorem F34_ok : cFn Tryd.prog [2, 3] 34 = some F34 := by kernel_rfl

/- manifold/manifoldlaw23.small -/
def F36o0 : List AOper := [
  ⟨(some 1), .m (.cbox 44 (.t 0)), none⟩,
  ⟨(some 2), .t (.mv (.c (.bool false))), none⟩]
def F36o1 : List AOper := [
  ⟨(some 3), .m (.load true 5 (.t 1)), none⟩,
  ⟨(some 4), .call (.c (.clo 38 [] [])) [(.t 3)], none⟩,
  ⟨(some 5), .t (.len false (.t 4)), none⟩,
  ⟨(some 6), .t (.bin .leq (.t 5) (.c (.int .i64 300))), none⟩,
  ⟨(some 2), .t (.mv (.t 6)), none⟩]
def F36c : ACode :=
  (.seq (.ops F36o0 [1])
  ((.seq (.ops F36o1 [2])
   (.ret))))
def F36 : AFn := ⟨7, [.tmp 2], F36c⟩
theorem F36_ok : cFn Tryd.prog [1] 36 = some F36 := by kernel_rfl

/- manifold/resolve.Walk -/
def F37o0 : List AOper := [
  ⟨(some 1), .m (.cbox 44 (.t 0)), none⟩,
  ⟨(some 2), .t (.mv (.c .nils)), none⟩]
def F37o1 : List AOper := [
  ⟨(some 3), .t (.mv (.c .nils)), none⟩]
def F37o2 : List AOper := [
  ⟨(some 5), .t (.faddr 4 (.t 1)), none⟩,
  ⟨(some 6), .m (.load false 1 (.t 5)), none⟩,
  ⟨(some 7), .t (.len false (.t 6)), none⟩,
  ⟨(some 8), .t (.mv (.c (.int .i64 0))), none⟩]
def F37o3 : List AOper := [
  ⟨(some 9), .t (.bin .lss (.t 8) (.t 7)), none⟩]
def F37o4 : List AOper := [
  ⟨(some 10), .t (.mv (.t 8)), none⟩,
  ⟨(some 4), .t (.mv (.t 10)), none⟩]
def F37o5 : List AOper := [
  ⟨(some 11), .t (.mv (.t 3)), none⟩,
  ⟨(some 12), .m (.load true 5 (.t 1)), none⟩,
  ⟨(some 13), .t (.mv (.t 4)), none⟩,
  ⟨(some 14), .call (.c (.clo 68 [] [])) [(.t 12), (.t 13)], none⟩,
  ⟨(some 15), .m (.append false 79 13 208 (.t 11) (.t 14)), none⟩,
  ⟨(some 3), .t (.mv (.t 15)), none⟩]
def F37o6 : List AOper := [
  ⟨(some 16), .t (.bin .add (.t 8) (.c (.int .i64 1))), none⟩,
  ⟨(some 8), .t (.mv (.t 16)), none⟩]
def F37b7 : ACode :=
  (.seq (.ops F37o3 [1, 3, 7, 8, 9])
  ((.seq (.cond (.t 9)
    (.skip)
    (.exit 0))
   ((.seq (.block 1 ((.seq (.ops F37o4 [1, 3, 4, 7, 8])
     (.ops F37o5 [1, 3, 7, 8]))))
    (.ops F37o6 [1, 3, 7, 8]))))))
def F37o8 : List AOper := [
  ⟨(some 17), .t (.mv (.t 3)), none⟩,
  ⟨(some 2), .t (.mv (.t 17)), none⟩]
def F37c : ACode :=
  (.seq (.ops F37o0 [1])
  ((.seq (.ops F37o1 [1, 3])
   ((.seq ((.seq (.ops F37o2 [1, 3, 7, 8])
    (.block 0 (.loop [1, 3, 7, 8] F37b7))))
    ((.seq (.ops F37o8 [2])
     (.ret))))))))
def F37 : AFn := ⟨18, [.tmp 2], F37c⟩
theorem F37_ok : cFn Tryd.prog [1] 37 = some F37 := by kernel_rfl

/- manifold/manifoldlaw23.walk -/
def F38o0 : List AOper := [
  ⟨(some 1), .m (.cbox 44 (.t 0)), none⟩,
  ⟨(some 2), .t (.mv (.c .nils)), none⟩]
def F38o1 : List AOper := [
  ⟨(some 3), .t (.mv (.c .nils)), none⟩]
def F38o2 : List AOper := [
  ⟨(some 4), .t (.mv (.c (.int .i64 0))), none⟩]
def F38o3 : List AOper := [
  ⟨(some 5), .t (.mv (.t 4)), none⟩,
  ⟨(some 6), .t (.faddr 4 (.t 1)), none⟩,
  ⟨(some 7), .m (.load false 1 (.t 6)), none⟩,
  ⟨(some 8), .t (.len false (.t 7)), none⟩,
  ⟨(some 9), .t (.bin .lss (.t 5) (.t 8)), none⟩]
def F38o4 : List AOper := [
  ⟨(some 12), .t (.mv (.t 3)), none⟩,
  ⟨(some 13), .t (.mv (.t 4)), none⟩,
  ⟨(some 14), .t (.faddr 4 (.t 1)), none⟩,
  ⟨(some 15), .m (.load false 1 (.t 14)), none⟩,
  ⟨(some 16), .t (.mv (.t 4)), none⟩,
  ⟨(some 17), .t (.iaddr 3 (.t 15) (.t 16)), none⟩,
  ⟨(some 18), .t (.faddr 2 (.t 17)), none⟩,
  ⟨(some 19), .m (.load false 1 (.t 18)), none⟩,
  ⟨(some 20), .call (.c (.clo 69 [] [])) [(.t 13), (.c .nils), (.t 19)], none⟩,
  ⟨(some 21), .m (.append false 79 13 208 (.t 12) (.t 20)), none⟩,
  ⟨(some 3), .t (.mv (.t 21)), none⟩]
def F38o5 : List AOper := [
  ⟨(some 10), .t (.mv (.t 4)), none⟩,
  ⟨(some 11), .t (.bin .add (.t 10) (.c (.int .i64 1))), none⟩,
  ⟨(some 4), .t (.mv (.t 11)), none⟩]
def F38b6 : ACode :=
  (.seq ((.seq (.ops F38o3 [1, 3, 4, 9])
  (.cond (.t 9)
    (.skip)
    (.exit 0))))
  ((.seq (.block 1 (.ops F38o4 [1, 3, 4]))
   (.ops F38o5 [1, 3, 4]))))
def F38o7 : List AOper := [
  ⟨(some 22), .t (.mv (.t 3)), none⟩,
  ⟨(some 2), .t (.mv (.t 22)), none⟩]
def F38c : ACode :=
  (.seq (.ops F38o0 [1])
  ((.seq (.ops F38o1 [1, 3])
   ((.seq ((.seq (.ops F38o2 [1, 3, 4])
    (.block 0 (.loop [1, 3, 4] F38b6))))
    ((.seq (.ops F38o7 [2])
     (.ret))))))))
def F38 : AFn := ⟨23, [.tmp 2], F38c⟩
theorem F38_ok : cFn Tryd.prog [1] 38 = some F38 := by kernel_rfl

/- manifold/resolve.At -/
def F39o0 : List AOper := [
  ⟨(some 3), .m (.cbox 44 (.t 0)), none⟩,
  ⟨(some 6), .m (.alloc 32 [(.str []), (.int .i64 0), (.int .i64 0), (.int .i64 0), (.int .i64 0), (.str []), (.str []), .nils, .nils, .nils, .nils]), none⟩,
  ⟨(some 7), .t (.mv (.c (.int .i64 0))), none⟩]
def F39o1 : List AOper := [
  ⟨(some 12), .t (.mv (.t 1)), none⟩,
  ⟨(some 13), .t (.bin .lss (.t 12) (.c (.int .i64 0))), none⟩,
  ⟨(some 14), .t (.mv (.t 13)), none⟩,
  ⟨(some 15), .t (.mv (.t 1)), (some (14, false))⟩,
  ⟨(some 16), .t (.faddr 4 (.t 3)), (some (14, false))⟩,
  ⟨(some 17), .m (.load false 1 (.t 16)), (some (14, false))⟩,
  ⟨(some 18), .t (.len false (.t 17)), (some (14, false))⟩,
  ⟨(some 19), .t (.bin .geq (.t 15) (.t 18)), (some (14, false))⟩,
  ⟨(some 20), .t (.pick (.t 14) (.c (.bool true)) (.t 19)), none⟩,
  ⟨(some 21), .t (.mv (.t 20)), none⟩,
  ⟨(some 22), .t (.mv (.t 2)), (some (21, false))⟩,
  ⟨(some 23), .t (.len false (.t 22)), (some (21, false))⟩,
  ⟨(some 24), .t (.bin .rem (.t 23) (.c (.int .i64 2))), (some (21, false))⟩,
  ⟨(some 25), .t (.bin .eql (.t 24) (.c (.int .i64 0))), (some (21, false))⟩,
  ⟨(some 26), .t (.pick (.t 21) (.c (.bool true)) (.t 25)), none⟩]
def F39o2 : List AOper := [
  ⟨(some 27), .t (.build [(.str []), (.int .i64 0), (.int .i64 0), (.int .i64 0), (.int .i64 0), (.str []), (.str []), .nils, .nils, .nils, .nils] []), none⟩,
  ⟨none, .m (.store 11 (.t 6) (.t 27)), none⟩,
  ⟨(some 7), .t (.mv (.c (.int .i64 8))), none⟩]
def F39o3 : List AOper := [
  ⟨(some 28), .t (.faddr 4 (.t 3)), none⟩,
  ⟨(some 29), .m (.load false 1 (.t 28)), none⟩,
  ⟨(some 30), .t (.mv (.t 1)), none⟩,
  ⟨(some 31), .t (.iaddr 3 (.t 29) (.t 30)), none⟩,
  ⟨(some 32), .t (.faddr 2 (.t 31)), none⟩,
  ⟨(some 33), .m (.load false 1 (.t 32)), none⟩,
  ⟨(some 8), .t (.mv (.t 33)), none⟩]
def F39o4 : List AOper := [
  ⟨(some 9), .t (.mv (.c (.int .i64 0))), none⟩]
def F39o5 : List AOper := [
  ⟨(some 36), .t (.mv (.t 2)), none⟩,
  ⟨(some 37), .t (.mv (.t 9)), none⟩,
  ⟨(some 38), .t (.iaddr 1 (.t 36) (.t 37)), none⟩,
  ⟨(some 39), .m (.load false 1 (.t 38)), none⟩,
  ⟨(some 40), .t (.bin .lss (.t 39) (.c (.int .i64 0))), none⟩,
  ⟨(some 41), .t (.mv (.t 40)), none⟩,
  ⟨(some 42), .t (.mv (.t 2)), (some (41, false))⟩,
  ⟨(some 43), .t (.mv (.t 9)), (some (41, false))⟩,
  ⟨(some 44), .t (.iaddr 1 (.t 42) (.t 43)), (some (41, false))⟩,
  ⟨(some 45), .m (.load false 1 (.t 44)), (some (41, false))⟩,
  ⟨(some 46), .t (.mv (.t 8)), (some (41, false))⟩,
  ⟨(some 47), .t (.len false (.t 46)), (some (41, false))⟩,
  ⟨(some 48), .t (.bin .geq (.t 45) (.t 47)), (some (41, false))⟩,
  ⟨(some 49), .t (.pick (.t 41) (.c (.bool true)) (.t 48)), none⟩]
def F39o6 : List AOper := [
  ⟨(some 50), .t (.build [(.str []), (.int .i64 0), (.int .i64 0), (.int .i64 0), (.int .i64 0), (.str []), (.str []), .nils, .nils, .nils, .nils] []), none⟩,
  ⟨none, .m (.store 11 (.t 6) (.t 50)), none⟩,
  ⟨(some 7), .t (.mv (.c (.int .i64 8))), none⟩]
def F39o7 : List AOper := [
  ⟨(some 51), .t (.mv (.t 8)), none⟩,
  ⟨(some 52), .t (.mv (.t 2)), none⟩,
  ⟨(some 53), .t (.mv (.t 9)), none⟩,
  ⟨(some 54), .t (.iaddr 1 (.t 52) (.t 53)), none⟩,
  ⟨(some 55), .m (.load false 1 (.t 54)), none⟩,
  ⟨(some 56), .t (.iaddr 11 (.t 51) (.t 55)), none⟩,
  ⟨(some 57), .m (.load true 11 (.t 56)), none⟩,
  ⟨(some 10), .m (.alloc 32 [(.str []), (.int .i64 0), (.int .i64 0), (.int .i64 0), (.int .i64 0), (.str []), (.str []), .nils, .nils, .nils, .nils]), none⟩,
  ⟨none, .m (.store 11 (.t 10) (.t 57)), none⟩]
def F39o8 : List AOper := [
  ⟨(some 58), .t (.mv (.t 9)), none⟩,
  ⟨(some 59), .t (.bin .add (.t 58) (.c (.int .i64 1))), none⟩,
  ⟨(some 60), .t (.mv (.t 2)), none⟩,
  ⟨(some 61), .t (.len false (.t 60)), none⟩,
  ⟨(some 62), .t (.bin .eql (.t 59) (.t 61)), none⟩]
def F39o9 : List AOper := [
  ⟨(some 63), .m (.load true 11 (.t 10)), none⟩,
  ⟨(some 64), .call (.c (.clo 70 [] [])) [(.t 63)], none⟩,
  ⟨none, .m (.store 11 (.t 6) (.t 64)), none⟩,
  ⟨(some 7), .t (.mv (.c (.int .i64 0))), none⟩]
def F39o10 : List AOper := [
  ⟨(some 65), .t (.mv (.t 2)), none⟩,
  ⟨(some 66), .t (.mv (.t 9)), none⟩,
  ⟨(some 67), .t (.bin .add (.t 66) (.c (.int .i64 1))), none⟩,
  ⟨(some 68), .t (.iaddr 1 (.t 65) (.t 67)), none⟩,
  ⟨(some 69), .m (.load false 1 (.t 68)), none⟩,
  ⟨(some 11), .t (.mv (.t 69)), none⟩]
def F39o11 : List AOper := [
  ⟨(some 70), .t (.mv (.t 11)), none⟩,
  ⟨(some 71), .t (.bin .lss (.t 70) (.c (.int .i64 0))), none⟩,
  ⟨(some 72), .t (.mv (.t 71)), none⟩,
  ⟨(some 73), .t (.mv (.t 11)), (some (72, false))⟩,
  ⟨(some 74), .t (.faddr 10 (.t 10)), (some (72, false))⟩,
  ⟨(some 75), .m (.load false 1 (.t 74)), (some (72, false))⟩,
  ⟨(some 76), .t (.len false (.t 75)), (some (72, false))⟩,
  ⟨(some 77), .t (.bin .geq (.t 73) (.t 76)), (some (72, false))⟩,
  ⟨(some 78), .t (.pick (.t 72) (.c (.bool true)) (.t 77)), none⟩]
def F39o12 : List AOper := [
  ⟨(some 79), .t (.build [(.str []), (.int .i64 0), (.int .i64 0), (.int .i64 0), (.int .i64 0), (.str []), (.str []), .nils, .nils, .nils, .nils] []), none⟩,
  ⟨none, .m (.store 11 (.t 6) (.t 79)), none⟩,
  ⟨(some 7), .t (.mv (.c (.int .i64 8))), none⟩]
def F39o13 : List AOper := [
  ⟨(some 80), .t (.faddr 10 (.t 10)), none⟩,
  ⟨(some 81), .m (.load false 1 (.t 80)), none⟩,
  ⟨(some 82), .t (.mv (.t 2)), none⟩,
  ⟨(some 83), .t (.mv (.t 9)), none⟩,
  ⟨(some 84), .t (.bin .add (.t 83) (.c (.int .i64 1))), none⟩,
  ⟨(some 85), .t (.iaddr 1 (.t 82) (.t 84)), none⟩,
  ⟨(some 86), .m (.load false 1 (.t 85)), none⟩]
def F39p13 : List AOper := [
  ⟨(some 87), .t (.iaddr 2 (.t 81) (.t 86)), none⟩,
  ⟨(some 88), .t (.faddr 1 (.t 87)), none⟩,
  ⟨(some 89), .m (.load false 1 (.t 88)), none⟩,
  ⟨(some 8), .t (.mv (.t 89)), none⟩]
def F39A13 : List (List Nat) := [[], [0], [], [], [3], [2, 4, 3], [5, 2, 4, 3], [1, 6, 0, 5, 2, 4, 3], [7, 1, 6, 0, 5, 2, 4, 3], [8, 7, 1, 6, 0, 5, 2, 4, 3], [9, 8, 7, 1, 6, 0, 5, 2, 4, 3]]
def F39o14 : List AOper := [
  ⟨(some 34), .t (.mv (.t 9)), none⟩,
  ⟨(some 35), .t (.bin .add (.t 34) (.c (.int .i64 2))), none⟩,
  ⟨(some 9), .t (.mv (.t 35)), none⟩]
def F39b15 : ACode :=
  (.seq (.block 1 ((.seq ((.seq (.ops F39o5 [2, 6, 8, 9, 49])
   (.cond (.t 49)
     ((.seq (.ops F39o6 [6, 7])
      (.ret)))
     (.skip))))
   ((.seq (.ops F39o7 [2, 6, 9, 10])
    ((.seq ((.seq (.ops F39o8 [2, 6, 9, 10, 62])
     (.cond (.t 62)
       ((.seq (.ops F39o9 [6, 7])
        (.ret)))
       (.skip))))
     ((.seq ((.seq (.ops F39o10 [2, 6, 9, 10, 11])
      ((.seq (.ops F39o11 [2, 6, 9, 10, 78])
       (.cond (.t 78)
         ((.seq (.ops F39o12 [6, 7])
          (.ret)))
         (.skip))))))
      (.draw F39A13 F39o13 F39p13 [2, 6, 8, 9]))))))))))
  (.ops F39o14 [2, 6, 8, 9]))
def F39c : ACode :=
  (.seq (.ops F39o0 [1, 2, 3, 6])
  ((.seq ((.seq (.ops F39o1 [1, 2, 3, 6, 26])
   (.cond (.t 26)
     ((.seq (.ops F39o2 [6, 7])
      (.ret)))
     (.skip))))
   ((.seq (.ops F39o3 [2, 6, 8])
    ((.seq (.ops F39o4 [2, 6, 8, 9])
     (.block 0 (.loop [2, 6, 8, 9] F39b15)))))))))
def F39 : AFn := ⟨90, [.cell 6 true 11, .tmp 7], F39c⟩
theorem F39_ok : cFn Tryd.prog [3] 39 = some F39 := by kernel_rfl

/- manifold/manifoldlaw23.samePlace -/
def F40o0 : List AOper := [
  ⟨(some 4), .t (.mv (.c (.bool false))), none⟩]
def F40o1 : List AOper := [
  ⟨(some 6), .t (.mv (.t 0)), none⟩,
  ⟨(some 7), .t (.len false (.t 6)), none⟩,
  ⟨(some 8), .t (.mv (.t 1)), none⟩,
  ⟨(some 9), .t (.len false (.t 8)), none⟩,
  ⟨(some 10), .t (.bin .neq (.t 7) (.t 9)), none⟩]
def F40o2 : List AOper := [
  ⟨(some 4), .t (.mv (.c (.bool false))), none⟩]
def F40o3 : List AOper := [
  ⟨(some 5), .t (.mv (.c (.int .i64 0))), none⟩]
def F40o4 : List AOper := [
  ⟨(some 11), .t (.mv (.t 5)), none⟩,
  ⟨(some 12), .t (.mv (.t 0)), none⟩,
  ⟨(some 13), .t (.len false (.t 12)), none⟩,
  ⟨(some 14), .t (.bin .lss (.t 11) (.t 13)), none⟩]
def F40o5 : List AOper := [
  ⟨(some 17), .t (.mv (.t 0)), none⟩,
  ⟨(some 18), .t (.mv (.t 5)), none⟩,
  ⟨(some 19), .t (.iaddr 1 (.t 17) (.t 18)), none⟩,
  ⟨(some 20), .m (.load false 1 (.t 19)), none⟩,
  ⟨(some 21), .t (.mv (.t 1)), none⟩,
  ⟨(some 22), .t (.mv (.t 5)), none⟩,
  ⟨(some 23), .t (.iaddr 1 (.t 21) (.t 22)), none⟩,
  ⟨(some 24), .m (.load false 1 (.t 23)), none⟩]
def F40p5 : List AOper := [
  ⟨(some 25), .t (.bin .neq (.t 20) (.t 24)), none⟩]
def F40A5 : List (List Nat) := [[], [], [0, 1], [2, 0, 1], [], [], [4, 5], [6, 4, 5], [3, 7, 2, 0, 1, 6, 4, 5]]
def F40o6 : List AOper := [
  ⟨(some 4), .t (.mv (.c (.bool false))), none⟩]
def F40o7 : List AOper := [
  ⟨(some 15), .t (.mv (.t 5)), none⟩,
  ⟨(some 16), .t (.bin .add (.t 15) (.c (.int .i64 1))), none⟩,
  ⟨(some 5), .t (.mv (.t 16)), none⟩]
def F40b8 : ACode :=
  (.seq ((.seq (.ops F40o4 [0, 1, 5, 14])
  (.cond (.t 14)
    (.skip)
    (.exit 0))))
  ((.seq (.block 1 ((.seq (.draw F40A5 F40o5 F40p5 [0, 1, 5, 25])
    (.cond (.t 25)
      ((.seq (.ops F40o6 [4])
       (.ret)))
      (.skip)))))
   (.ops F40o7 [0, 1, 5]))))
def F40o9 : List AOper := [
  ⟨(some 4), .t (.mv (.c (.bool true))), none⟩]
def F40c : ACode :=
  (.seq (.ops F40o0 [0, 1])
  ((.seq ((.seq (.ops F40o1 [0, 1, 10])
   (.cond (.t 10)
     ((.seq (.ops F40o2 [4])
      (.ret)))
     (.skip))))
   ((.seq ((.seq (.ops F40o3 [0, 1, 5])
    (.block 0 (.loop [0, 1, 5] F40b8))))
    ((.seq (.ops F40o9 [4])
     (.ret))))))))
def F40 : AFn := ⟨26, [.tmp 4], F40c⟩
theorem F40_ok : cFn Tryd.prog [] 40 = some F40 := by kernel_rfl

/- manifold/manifoldlaw23.SameSteps -/
def F41o0 : List AOper := [
  ⟨(some 6), .t (.mv (.c (.bool false))), none⟩]
def F41o1 : List AOper := [
  ⟨(some 12), .t (.mv (.t 0)), none⟩,
  ⟨(some 13), .t (.len false (.t 12)), none⟩,
  ⟨(some 14), .t (.mv (.t 1)), none⟩,
  ⟨(some 15), .t (.len false (.t 14)), none⟩,
  ⟨(some 16), .t (.bin .neq (.t 13) (.t 15)), none⟩]
def F41o2 : List AOper := [
  ⟨(some 6), .t (.mv (.c (.bool false))), none⟩]
def F41o3 : List AOper := [
  ⟨(some 7), .t (.mv (.c (.int .i64 0))), none⟩]
def F41o4 : List AOper := [
  ⟨(some 17), .t (.mv (.t 7)), none⟩,
  ⟨(some 18), .t (.mv (.t 0)), none⟩,
  ⟨(some 19), .t (.len false (.t 18)), none⟩,
  ⟨(some 20), .t (.bin .lss (.t 17) (.t 19)), none⟩]
def F41o5 : List AOper := [
  ⟨(some 23), .t (.mv (.t 0)), none⟩,
  ⟨(some 24), .t (.mv (.t 7)), none⟩,
  ⟨(some 25), .t (.iaddr 11 (.t 23) (.t 24)), none⟩,
  ⟨(some 26), .m (.load true 11 (.t 25)), none⟩,
  ⟨(some 27), .t (.mv (.t 1)), none⟩,
  ⟨(some 28), .t (.mv (.t 7)), none⟩,
  ⟨(some 29), .t (.iaddr 11 (.t 27) (.t 28)), none⟩,
  ⟨(some 30), .m (.load true 11 (.t 29)), none⟩,
  ⟨(some 8), .m (.alloc 32 [(.str []), (.int .i64 0), (.int .i64 0), (.int .i64 0), (.int .i64 0), (.str []), (.str []), .nils, .nils, .nils, .nils]), none⟩,
  ⟨(some 9), .m (.alloc 32 [(.str []), (.int .i64 0), (.int .i64 0), (.int .i64 0), (.int .i64 0), (.str []), (.str []), .nils, .nils, .nils, .nils]), none⟩,
  ⟨none, .m (.store 11 (.t 8) (.t 26)), none⟩]
def F41p5 : List AOper := [
  ⟨none, .m (.store 11 (.t 9) (.t 30)), none⟩]
def F41A5 : List (List Nat) := [[], [], [0, 1], [2, 0, 1], [], [], [4, 5], [6, 4, 5], [], [], [3, 8, 9, 2, 0, 1], [7, 10, 6, 4, 5, 3, 8, 9, 2, 0, 1]]
def F41o6 : List AOper := [
  ⟨(some 31), .t (.mv (.t 2)), none⟩,
  ⟨(some 32), .t (.mv (.t 31)), none⟩,
  ⟨(some 33), .t (.faddr 0 (.t 8)), (some (32, true))⟩,
  ⟨(some 34), .m (.load false 1 (.t 33)), (some (32, true))⟩,
  ⟨(some 35), .t (.faddr 0 (.t 9)), (some (32, true))⟩,
  ⟨(some 36), .m (.load false 1 (.t 35)), (some (32, true))⟩,
  ⟨(some 37), .t (.bin .neq (.t 34) (.t 36)), (some (32, true))⟩,
  ⟨(some 38), .t (.pick (.t 32) (.t 37) (.c (.bool false))), none⟩,
  ⟨(some 39), .t (.mv (.t 38)), none⟩,
  ⟨(some 40), .t (.faddr 1 (.t 8)), (some (39, false))⟩,
  ⟨(some 41), .m (.load false 1 (.t 40)), (some (39, false))⟩,
  ⟨(some 42), .t (.faddr 1 (.t 9)), (some (39, false))⟩,
  ⟨(some 43), .m (.load false 1 (.t 42)), (some (39, false))⟩,
  ⟨(some 44), .t (.bin .neq (.t 41) (.t 43)), (some (39, false))⟩,
  ⟨(some 45), .t (.pick (.t 39) (.c (.bool true)) (.t 44)), none⟩,
  ⟨(some 46), .t (.mv (.t 45)), none⟩,
  ⟨(some 47), .t (.faddr 2 (.t 8)), (some (46, false))⟩,
  ⟨(some 48), .m (.load false 1 (.t 47)), (some (46, false))⟩,
  ⟨(some 49), .t (.faddr 2 (.t 9)), (some (46, false))⟩,
  ⟨(some 50), .m (.load false 1 (.t 49)), (some (46, false))⟩,
  ⟨(some 51), .t (.bin .neq (.t 48) (.t 50)), (some (46, false))⟩,
  ⟨(some 52), .t (.pick (.t 46) (.c (.bool true)) (.t 51)), none⟩,
  ⟨(some 53), .t (.mv (.t 52)), none⟩,
  ⟨(some 54), .t (.faddr 3 (.t 8)), (some (53, false))⟩,
  ⟨(some 55), .m (.load false 1 (.t 54)), (some (53, false))⟩,
  ⟨(some 56), .t (.faddr 3 (.t 9)), (some (53, false))⟩,
  ⟨(some 57), .m (.load false 1 (.t 56)), (some (53, false))⟩,
  ⟨(some 58), .t (.bin .neq (.t 55) (.t 57)), (some (53, false))⟩,
  ⟨(some 59), .t (.pick (.t 53) (.c (.bool true)) (.t 58)), none⟩,
  ⟨(some 60), .t (.mv (.t 59)), none⟩,
  ⟨(some 61), .t (.faddr 4 (.t 8)), (some (60, false))⟩,
  ⟨(some 62), .m (.load false 1 (.t 61)), (some (60, false))⟩,
  ⟨(some 63), .t (.faddr 4 (.t 9)), (some (60, false))⟩,
  ⟨(some 64), .m (.load false 1 (.t 63)), (some (60, false))⟩,
  ⟨(some 65), .t (.bin .neq (.t 62) (.t 64)), (some (60, false))⟩,
  ⟨(some 66), .t (.pick (.t 60) (.c (.bool true)) (.t 65)), none⟩,
  ⟨(some 67), .t (.mv (.t 66)), none⟩,
  ⟨(some 68), .t (.faddr 5 (.t 8)), (some (67, false))⟩,
  ⟨(some 69), .m (.load false 1 (.t 68)), (some (67, false))⟩,
  ⟨(some 70), .t (.faddr 5 (.t 9)), (some (67, false))⟩,
  ⟨(some 71), .m (.load false 1 (.t 70)), (some (67, false))⟩,
  ⟨(some 72), .t (.bin .neq (.t 69) (.t 71)), (some (67, false))⟩,
  ⟨(some 73), .t (.pick (.t 67) (.c (.bool true)) (.t 72)), none⟩,
  ⟨(some 74), .t (.mv (.t 73)), none⟩,
  ⟨(some 75), .t (.faddr 6 (.t 8)), (some (74, false))⟩,
  ⟨(some 76), .m (.load false 1 (.t 75)), (some (74, false))⟩,
  ⟨(some 77), .t (.faddr 6 (.t 9)), (some (74, false))⟩,
  ⟨(some 78), .m (.load false 1 (.t 77)), (some (74, false))⟩,
  ⟨(some 79), .t (.bin .neq (.t 76) (.t 78)), (some (74, false))⟩,
  ⟨(some 80), .t (.pick (.t 74) (.c (.bool true)) (.t 79)), none⟩,
  ⟨(some 81), .t (.mv (.t 80)), none⟩,
  ⟨(some 82), .t (.faddr 7 (.t 8)), (some (81, false))⟩,
  ⟨(some 83), .m (.load false 1 (.t 82)), (some (81, false))⟩,
  ⟨(some 84), .t (.faddr 7 (.t 9)), (some (81, false))⟩,
  ⟨(some 85), .m (.load false 1 (.t 84)), (some (81, false))⟩,
  ⟨(some 86), .call (.c (.clo 71 [] [])) [(.t 83), (.t 85)], (some (81, false))⟩,
  ⟨(some 87), .t (.not (.t 86)), (some (81, false))⟩,
  ⟨(some 88), .t (.pick (.t 81) (.c (.bool true)) (.t 87)), none⟩,
  ⟨(some 89), .t (.mv (.t 88)), none⟩,
  ⟨(some 90), .t (.faddr 8 (.t 8)), (some (89, false))⟩,
  ⟨(some 91), .m (.load true 1 (.t 90)), (some (89, false))⟩,
  ⟨(some 92), .t (.faddr 8 (.t 9)), (some (89, false))⟩,
  ⟨(some 93), .m (.load true 1 (.t 92)), (some (89, false))⟩,
  ⟨(some 94), .call (.c (.clo 72 [] [])) [(.t 91), (.t 93)], (some (89, false))⟩,
  ⟨(some 95), .t (.not (.t 94)), (some (89, false))⟩,
  ⟨(some 96), .t (.pick (.t 89) (.c (.bool true)) (.t 95)), none⟩,
  ⟨(some 97), .t (.mv (.t 96)), none⟩,
  ⟨(some 98), .t (.faddr 9 (.t 8)), (some (97, false))⟩,
  ⟨(some 99), .m (.load false 1 (.t 98)), (some (97, false))⟩,
  ⟨(some 100), .t (.len false (.t 99)), (some (97, false))⟩,
  ⟨(some 101), .t (.faddr 9 (.t 9)), (some (97, false))⟩,
  ⟨(some 102), .m (.load false 1 (.t 101)), (some (97, false))⟩,
  ⟨(some 103), .t (.len false (.t 102)), (some (97, false))⟩,
  ⟨(some 104), .t (.bin .neq (.t 100) (.t 103)), (some (97, false))⟩,
  ⟨(some 105), .t (.pick (.t 97) (.c (.bool true)) (.t 104)), none⟩,
  ⟨(some 106), .t (.mv (.t 105)), none⟩,
  ⟨(some 107), .t (.faddr 10 (.t 8)), (some (106, false))⟩,
  ⟨(some 108), .m (.load false 1 (.t 107)), (some (106, false))⟩,
  ⟨(some 109), .t (.len false (.t 108)), (some (106, false))⟩,
  ⟨(some 110), .t (.faddr 10 (.t 9)), (some (106, false))⟩,
  ⟨(some 111), .m (.load false 1 (.t 110)), (some (106, false))⟩,
  ⟨(some 112), .t (.len false (.t 111)), (some (106, false))⟩,
  ⟨(some 113), .t (.bin .neq (.t 109) (.t 112)), (some (106, false))⟩,
  ⟨(some 114), .t (.pick (.t 106) (.c (.bool true)) (.t 113)), none⟩]
def F41o7 : List AOper := [
  ⟨(some 6), .t (.mv (.c (.bool false))), none⟩]
def F41o8 : List AOper := [
  ⟨(some 10), .t (.mv (.c (.int .i64 0))), none⟩]
def F41o9 : List AOper := [
  ⟨(some 115), .t (.mv (.t 10)), none⟩,
  ⟨(some 116), .t (.faddr 9 (.t 8)), none⟩,
  ⟨(some 117), .m (.load false 1 (.t 116)), none⟩,
  ⟨(some 118), .t (.len false (.t 117)), none⟩,
  ⟨(some 119), .t (.bin .lss (.t 115) (.t 118)), none⟩]
def F41o10 : List AOper := [
  ⟨(some 122), .t (.faddr 9 (.t 8)), none⟩,
  ⟨(some 123), .m (.load false 1 (.t 122)), none⟩,
  ⟨(some 124), .t (.mv (.t 10)), none⟩,
  ⟨(some 125), .t (.iaddr 2 (.t 123) (.t 124)), none⟩,
  ⟨(some 126), .t (.faddr 0 (.t 125)), none⟩,
  ⟨(some 127), .m (.load false 1 (.t 126)), none⟩,
  ⟨(some 128), .t (.faddr 9 (.t 9)), none⟩,
  ⟨(some 129), .m (.load false 1 (.t 128)), none⟩,
  ⟨(some 130), .t (.mv (.t 10)), none⟩,
  ⟨(some 131), .t (.iaddr 2 (.t 129) (.t 130)), none⟩,
  ⟨(some 132), .t (.faddr 0 (.t 131)), none⟩,
  ⟨(some 133), .m (.load false 1 (.t 132)), none⟩,
  ⟨(some 134), .t (.bin .neq (.t 127) (.t 133)), none⟩,
  ⟨(some 135), .t (.mv (.t 134)), none⟩,
  ⟨(some 136), .t (.faddr 9 (.t 8)), (some (135, false))⟩,
  ⟨(some 137), .m (.load false 1 (.t 136)), (some (135, false))⟩,
  ⟨(some 138), .t (.mv (.t 10)), (some (135, false))⟩,
  ⟨(some 139), .t (.iaddr 2 (.t 137) (.t 138)), (some (135, false))⟩,
  ⟨(some 140), .t (.faddr 1 (.t 139)), (some (135, false))⟩,
  ⟨(some 141), .m (.load true 1 (.t 140)), (some (135, false))⟩,
  ⟨(some 142), .t (.faddr 9 (.t 9)), (some (135, false))⟩,
  ⟨(some 143), .m (.load false 1 (.t 142)), (some (135, false))⟩,
  ⟨(some 144), .t (.mv (.t 10)), (some (135, false))⟩,
  ⟨(some 145), .t (.iaddr 2 (.t 143) (.t 144)), (some (135, false))⟩,
  ⟨(some 146), .t (.faddr 1 (.t 145)), (some (135, false))⟩,
  ⟨(some 147), .m (.load true 1 (.t 146)), (some (135, false))⟩]
def F41p10 : List AOper := [
  ⟨(some 148), .call (.c (.clo 72 [] [])) [(.t 141), (.t 147)], (some (135, false))⟩,
  ⟨(some 149), .t (.not (.t 148)), (some (135, false))⟩,
  ⟨(some 150), .t (.pick (.t 135) (.c (.bool true)) (.t 149)), none⟩]
def F41A10 : List (List Nat) := [[], [0], [], [1, 2, 0], [3, 1, 2, 0], [4, 3, 1, 2, 0], [], [6], [], [7, 8, 6], [9, 7, 8, 6], [10, 9, 7, 8, 6], [5, 11, 4, 3, 1, 2, 0, 10, 9, 7, 8, 6], [12, 5, 11, 4, 3, 1, 2, 0, 10, 9, 7, 8, 6], [13, 12, 5, 11, 4, 3, 1, 2, 0, 10, 9, 7, 8, 6], [14, 13, 12, 5, 11, 4, 3, 1, 2, 0, 10, 9, 7, 8, 6], [13, 12, 5, 11, 4, 3, 1, 2, 0, 10, 9, 7, 8, 6], [15, 16, 14, 13, 12, 5, 11, 4, 3, 1, 2, 0, 10, 9, 7, 8, 6], [17, 15, 16, 14, 13, 12, 5, 11, 4, 3, 1, 2, 0, 10, 9, 7, 8, 6], [18, 17, 15, 16, 14, 13, 12, 5, 11, 4, 3, 1, 2, 0, 10, 9, 7, 8, 6], [13, 12, 5, 11, 4, 3, 1, 2, 0, 10, 9, 7, 8, 6], [20, 13, 12, 5, 11, 4, 3, 1, 2, 0, 10, 9, 7, 8, 6], [13, 12, 5, 11, 4, 3, 1, 2, 0, 10, 9, 7, 8, 6], [21, 22, 20, 13, 12, 5, 11, 4, 3, 1, 2, 0, 10, 9, 7, 8, 6], [23, 21, 22, 20, 13, 12, 5, 11, 4, 3, 1, 2, 0, 10, 9, 7, 8, 6], [24, 23, 21, 22, 20, 13, 12, 5, 11, 4, 3, 1, 2, 0, 10, 9, 7, 8, 6], [19, 25, 18, 17, 15, 16, 14, 24, 23, 21, 22, 20, 13, 12, 5, 11, 4, 3, 1, 2, 0, 10, 9, 7, 8, 6], [26, 19, 25, 18, 17, 15, 16, 14, 24, 23, 21, 22, 20, 13, 12, 5, 11, 4, 3, 1, 2, 0, 10, 9, 7, 8, 6], [27, 26, 19, 25, 18, 17, 15, 16, 14, 24, 23, 21, 22, 20, 13, 12, 5, 11, 4, 3, 1, 2, 0, 10, 9, 7, 8, 6]]
def F41o11 : List AOper := [
  ⟨(some 6), .t (.mv (.c (.bool false))), none⟩]
def F41o12 : List AOper := [
  ⟨(some 120), .t (.mv (.t 10)), none⟩,
  ⟨(some 121), .t (.bin .add (.t 120) (.c (.int .i64 1))), none⟩,
  ⟨(some 10), .t (.mv (.t 121)), none⟩]
def F41b13 : ACode :=
  (.seq ((.seq (.ops F41o9 [0, 1, 2, 7, 8, 9, 10, 119])
  (.cond (.t 119)
    (.skip)
    (.exit 2))))
  ((.seq (.block 3 ((.seq (.draw F41A10 F41o10 F41p10 [0, 1, 2, 7, 8, 9, 10, 150])
    (.cond (.t 150)
      ((.seq (.ops F41o11 [6])
       (.ret)))
      (.skip)))))
   (.ops F41o12 [0, 1, 2, 7, 8, 9, 10]))))
def F41o14 : List AOper := [
  ⟨(some 11), .t (.mv (.c (.int .i64 0))), none⟩]
def F41o15 : List AOper := [
  ⟨(some 151), .t (.mv (.t 11)), none⟩,
  ⟨(some 152), .t (.faddr 10 (.t 8)), none⟩,
  ⟨(some 153), .m (.load false 1 (.t 152)), none⟩,
  ⟨(some 154), .t (.len false (.t 153)), none⟩,
  ⟨(some 155), .t (.bin .lss (.t 151) (.t 154)), none⟩]
def F41o16 : List AOper := [
  ⟨(some 158), .t (.faddr 10 (.t 8)), none⟩,
  ⟨(some 159), .m (.load false 1 (.t 158)), none⟩,
  ⟨(some 160), .t (.mv (.t 11)), none⟩,
  ⟨(some 161), .t (.iaddr 2 (.t 159) (.t 160)), none⟩,
  ⟨(some 162), .t (.faddr 0 (.t 161)), none⟩,
  ⟨(some 163), .m (.load false 1 (.t 162)), none⟩,
  ⟨(some 164), .t (.faddr 10 (.t 9)), none⟩,
  ⟨(some 165), .m (.load false 1 (.t 164)), none⟩,
  ⟨(some 166), .t (.mv (.t 11)), none⟩,
  ⟨(some 167), .t (.iaddr 2 (.t 165) (.t 166)), none⟩,
  ⟨(some 168), .t (.faddr 0 (.t 167)), none⟩,
  ⟨(some 169), .m (.load false 1 (.t 168)), none⟩,
  ⟨(some 170), .call (.c (.clo 71 [] [])) [(.t 163), (.t 169)], none⟩,
  ⟨(some 171), .t (.not (.t 170)), none⟩,
  ⟨(some 172), .t (.mv (.t 171)), none⟩,
  ⟨(some 173), .t (.faddr 10 (.t 8)), (some (172, false))⟩,
  ⟨(some 174), .m (.load false 1 (.t 173)), (some (172, false))⟩,
  ⟨(some 175), .t (.mv (.t 11)), (some (172, false))⟩,
  ⟨(some 176), .t (.iaddr 2 (.t 174) (.t 175)), (some (172, false))⟩,
  ⟨(some 177), .t (.faddr 1 (.t 176)), (some (172, false))⟩,
  ⟨(some 178), .m (.load false 1 (.t 177)), (some (172, false))⟩,
  ⟨(some 179), .t (.faddr 10 (.t 9)), (some (172, false))⟩,
  ⟨(some 180), .m (.load false 1 (.t 179)), (some (172, false))⟩,
  ⟨(some 181), .t (.mv (.t 11)), (some (172, false))⟩,
  ⟨(some 182), .t (.iaddr 2 (.t 180) (.t 181)), (some (172, false))⟩,
  ⟨(some 183), .t (.faddr 1 (.t 182)), (some (172, false))⟩,
  ⟨(some 184), .m (.load false 1 (.t 183)), (some (172, false))⟩,
  ⟨(some 185), .t (.mv (.t 2)), (some (172, false))⟩]
def F41p16 : List AOper := [
  ⟨(some 186), .call (.c (.clo 41 [] [])) [(.t 178), (.t 184), (.t 185)], (some (172, false))⟩,
  ⟨(some 187), .t (.not (.t 186)), (some (172, false))⟩,
  ⟨(some 188), .t (.pick (.t 172) (.c (.bool true)) (.t 187)), none⟩]
def F41A16 : List (List Nat) := [[], [0], [], [1, 2, 0], [3, 1, 2, 0], [4, 3, 1, 2, 0], [], [6], [], [7, 8, 6], [9, 7, 8, 6], [10, 9, 7, 8, 6], [5, 11, 4, 3, 1, 2, 0, 10, 9, 7, 8, 6], [12, 5, 11, 4, 3, 1, 2, 0, 10, 9, 7, 8, 6], [13, 12, 5, 11, 4, 3, 1, 2, 0, 10, 9, 7, 8, 6], [14, 13, 12, 5, 11, 4, 3, 1, 2, 0, 10, 9, 7, 8, 6], [15, 14, 13, 12, 5, 11, 4, 3, 1, 2, 0, 10, 9, 7, 8, 6], [14, 13, 12, 5, 11, 4, 3, 1, 2, 0, 10, 9, 7, 8, 6], [16, 17, 15, 14, 13, 12, 5, 11, 4, 3, 1, 2, 0, 10, 9, 7, 8, 6], [18, 16, 17, 15, 14, 13, 12, 5, 11, 4, 3, 1, 2, 0, 10, 9, 7, 8, 6], [19, 18, 16, 17, 15, 14, 13, 12, 5, 11, 4, 3, 1, 2, 0, 10, 9, 7, 8, 6], [14, 13, 12, 5, 11, 4, 3, 1, 2, 0, 10, 9, 7, 8, 6], [21, 14, 13, 12, 5, 11, 4, 3, 1, 2, 0, 10, 9, 7, 8, 6], [14, 13, 12, 5, 11, 4, 3, 1, 2, 0, 10, 9, 7, 8, 6], [22, 23, 21, 14, 13, 12, 5, 11, 4, 3, 1, 2, 0, 10, 9, 7, 8, 6], [24, 22, 23, 21, 14, 13, 12, 5, 11, 4, 3, 1, 2, 0, 10, 9, 7, 8, 6], [25, 24, 22, 23, 21, 14, 13, 12, 5, 11, 4, 3, 1, 2, 0, 10, 9, 7, 8, 6], [14, 13, 12, 5, 11, 4, 3, 1, 2, 0, 10, 9, 7, 8, 6], [20, 26, 27, 19, 18, 16, 17, 15, 25, 24, 22, 23, 21, 14, 13, 12, 5, 11, 4, 3, 1, 2, 0, 10, 9, 7, 8, 6], [28, 20, 26, 27, 19, 18, 16, 17, 15, 25, 24, 22, 23, 21, 14, 13, 12, 5, 11, 4, 3, 1, 2, 0, 10, 9, 7, 8, 6], [29, 28, 20, 26, 27, 19, 18, 16, 17, 15, 25, 24, 22, 23, 21, 14, 13, 12, 5, 11, 4, 3, 1, 2, 0, 10, 9, 7, 8, 6]]
def F41o17 : List AOper := [
  ⟨(some 6), .t (.mv (.c (.bool false))), none⟩]
def F41o18 : List AOper := [
  ⟨(some 156), .t (.mv (.t 11)), none⟩,
  ⟨(some 157), .t (.bin .add (.t 156) (.c (.int .i64 1))), none⟩,
  ⟨(some 11), .t (.mv (.t 157)), none⟩]
def F41b19 : ACode :=
  (.seq ((.seq (.ops F41o15 [0, 1, 2, 7, 8, 9, 11, 155])
  (.cond (.t 155)
    (.skip)
    (.exit 4))))
  ((.seq (.block 5 ((.seq (.draw F41A16 F41o16 F41p16 [0, 1, 2, 7, 8, 9, 11, 188])
    (.cond (.t 188)
      ((.seq (.ops F41o17 [6])
       (.ret)))
      (.skip)))))
   (.ops F41o18 [0, 1, 2, 7, 8, 9, 11]))))
def F41o20 : List AOper := [
  ⟨(some 21), .t (.mv (.t 7)), none⟩,
  ⟨(some 22), .t (.bin .add (.t 21) (.c (.int .i64 1))), none⟩,
  ⟨(some 7), .t (.mv (.t 22)), none⟩]
def F41b21 : ACode :=
  (.seq ((.seq (.ops F41o4 [0, 1, 2, 7, 20])
  (.cond (.t 20)
    (.skip)
    (.exit 0))))
  ((.seq (.block 1 ((.seq (.draw F41A5 F41o5 F41p5 [0, 1, 2, 7, 8, 9])
    ((.seq ((.seq (.ops F41o6 [0, 1, 2, 7, 8, 9, 114])
     (.cond (.t 114)
       ((.seq (.ops F41o7 [6])
        (.ret)))
       (.skip))))
     ((.seq ((.seq (.ops F41o8 [0, 1, 2, 7, 8, 9, 10])
      (.block 2 (.loop [0, 1, 2, 7, 8, 9, 10] F41b13))))
      ((.seq (.ops F41o14 [0, 1, 2, 7, 8, 9, 11])
       (.block 4 (.loop [0, 1, 2, 7, 8, 9, 11] F41b19)))))))))))
   (.ops F41o20 [0, 1, 2, 7]))))
def F41o22 : List AOper := [
  ⟨(some 6), .t (.mv (.c (.bool true))), none⟩]
def F41c : ACode :=
  (.seq (.ops F41o0 [0, 1, 2])
  ((.seq ((.seq (.ops F41o1 [0, 1, 2, 16])
   (.cond (.t 16)
     ((.seq (.ops F41o2 [6])
      (.ret)))
     (.skip))))
   ((.seq ((.seq (.ops F41o3 [0, 1, 2, 7])
    (.block 0 (.loop [0, 1, 2, 7] F41b21))))
    ((.seq (.ops F41o22 [6])
     (.ret))))))))
def F41 : AFn := ⟨189, [.tmp 6], F41c⟩
theorem F41_ok : cFn Tryd.prog [] 41 = some F41 := by kernel_rfl

/- slices.ContainsFunc[[]manifold/api.Branch,manifold/api.Branch] -/
def F45o0 : List AOper := [
  ⟨(some 4), .t (.mv (.c (.bool false))), none⟩]
def F45o1 : List AOper := [
  ⟨(some 5), .t (.mv (.t 0)), none⟩,
  ⟨(some 6), .t (.mv (.t 1)), none⟩,
  ⟨(some 7), .call (.c (.clo 79 [] [])) [(.t 5), (.t 6)], none⟩,
  ⟨(some 8), .t (.bin .geq (.t 7) (.c (.int .i64 0))), none⟩,
  ⟨(some 4), .t (.mv (.t 8)), none⟩]
def F45c : ACode :=
  (.seq (.ops F45o0 [0, 1])
  ((.seq (.ops F45o1 [4])
   (.ret))))
def F45 : AFn := ⟨9, [.tmp 4], F45c⟩
theorem F45_ok : cFn Tryd.prog [] 45 = some F45 := by kernel_rfl

/- manifold/resolve.Ends$1 -/
def F46o0 : List AOper := [
  ⟨(some 1), .m (.cbox 89 (.t 0)), none⟩,
  ⟨(some 2), .t (.mv (.c (.bool false))), none⟩]
def F46o1 : List AOper := [
  ⟨(some 3), .t (.faddr 1 (.t 1)), none⟩,
  ⟨(some 4), .m (.load false 1 (.t 3)), none⟩,
  ⟨(some 5), .call (.c (.clo 15 [] [])) [(.t 4)], none⟩,
  ⟨(some 6), .t (.not (.t 5)), none⟩,
  ⟨(some 2), .t (.mv (.t 6)), none⟩]
def F46c : ACode :=
  (.seq (.ops F46o0 [1])
  ((.seq (.ops F46o1 [2])
   (.ret))))
def F46 : AFn := ⟨7, [.tmp 2], F46c⟩
theorem F46_ok : cFn Tryd.prog [1] 46 = some F46 := by kernel_rfl

/- manifold/manifoldlaw23.choose -/
def F47o0 : List AOper := [
  ⟨(some 2), .m (.alloc 32 [(.str []), (.int .i64 0), (.int .i64 0), (.int .i64 0), (.int .i64 0), (.str []), (.str []), .nils, .nils, .nils, .nils]), none⟩]
def F47o1 : List AOper := [
  ⟨(some 5), .t (.build [(.str []), (.int .i64 0), (.int .i64 0), (.int .i64 0), (.int .i64 0), (.str []), (.str []), .nils, .nils, .nils, .nils] [(1, 1, (.c (.int .i64 11)))]), none⟩,
  ⟨(some 3), .m (.alloc 32 [(.str []), (.int .i64 0), (.int .i64 0), (.int .i64 0), (.int .i64 0), (.str []), (.str []), .nils, .nils, .nils, .nils]), none⟩,
  ⟨none, .m (.store 11 (.t 3) (.t 5)), none⟩]
def F47o2 : List AOper := [
  ⟨(some 4), .t (.mv (.c (.int .i64 0))), none⟩]
def F47o3 : List AOper := [
  ⟨(some 6), .t (.mv (.t 4)), none⟩,
  ⟨(some 7), .t (.mv (.t 0)), none⟩,
  ⟨(some 8), .t (.len false (.t 7)), none⟩,
  ⟨(some 9), .t (.bin .lss (.t 6) (.t 8)), none⟩]
def F47o4 : List AOper := [
  ⟨(some 12), .t (.faddr 10 (.t 3)), none⟩,
  ⟨(some 13), .m (.load false 1 (.t 12)), none⟩,
  ⟨(some 14), .t (.mv (.t 0)), none⟩,
  ⟨(some 15), .t (.mv (.t 4)), none⟩,
  ⟨(some 16), .t (.iaddr 1 (.t 14) (.t 15)), none⟩,
  ⟨(some 17), .m (.load false 1 (.t 16)), none⟩,
  ⟨(some 18), .t (.build [.nils, .nils] [(1, 1, (.t 17))]), none⟩,
  ⟨(some 19), .m (.bslice false 89 2 1 [(.t 18)]), none⟩]
def F47p4 : List AOper := [
  ⟨(some 20), .m (.append false 89 2 48 (.t 13) (.t 19)), none⟩,
  ⟨(some 21), .t (.faddr 10 (.t 3)), none⟩,
  ⟨none, .m (.store 1 (.t 21) (.t 20)), none⟩]
def F47A4 : List (List Nat) := [[], [0], [], [], [2, 3], [4, 2, 3], [5, 4, 2, 3], [6, 5, 4, 2, 3], [1, 7, 0, 6, 5, 4, 2, 3], [8, 1, 7, 0, 6, 5, 4, 2, 3], [9, 8, 1, 7, 0, 6, 5, 4, 2, 3]]
def F47o5 : List AOper := [
  ⟨(some 10), .t (.mv (.t 4)), none⟩,
  ⟨(some 11), .t (.bin .add (.t 10) (.c (.int .i64 1))), none⟩,
  ⟨(some 4), .t (.mv (.t 11)), none⟩]
def F47b6 : ACode :=
  (.seq ((.seq (.ops F47o3 [0, 2, 3, 4, 9])
  (.cond (.t 9)
    (.skip)
    (.exit 0))))
  ((.seq (.block 1 (.draw F47A4 F47o4 F47p4 [0, 2, 3, 4]))
   (.ops F47o5 [0, 2, 3, 4]))))
def F47o7 : List AOper := [
  ⟨(some 22), .m (.load true 11 (.t 3)), none⟩,
  ⟨none, .m (.store 11 (.t 2) (.t 22)), none⟩]
def F47c : ACode :=
  (.seq (.ops F47o0 [0, 2])
  ((.seq (.ops F47o1 [0, 2, 3])
   ((.seq ((.seq (.ops F47o2 [0, 2, 3, 4])
    (.block 0 (.loop [0, 2, 3, 4] F47b6))))
    ((.seq (.ops F47o7 [2])
     (.ret))))))))
def F47 : AFn := ⟨23, [.cell 2 true 11], F47c⟩
theorem F47_ok : cFn Tryd.prog [] 47 = some F47 := by kernel_rfl

/- manifold/manifoldlaw23.to -/
def F48o0 : List AOper := [
  ⟨(some 2), .m (.alloc 32 [(.str []), (.int .i64 0), (.int .i64 0), (.int .i64 0), (.int .i64 0), (.str []), (.str []), .nils, .nils, .nils, .nils]), none⟩]
def F48o1 : List AOper := [
  ⟨(some 3), .t (.mv (.t 0)), none⟩,
  ⟨(some 4), .t (.build [(.str []), (.int .i64 0), (.int .i64 0), (.int .i64 0), (.int .i64 0), (.str []), (.str []), .nils, .nils, .nils, .nils] [(1, 1, (.c (.int .i64 13))), (5, 1, (.t 3))]), none⟩,
  ⟨none, .m (.store 11 (.t 2) (.t 4)), none⟩]
def F48c : ACode :=
  (.seq (.ops F48o0 [0, 2])
  ((.seq (.ops F48o1 [2])
   (.ret))))
def F48 : AFn := ⟨5, [.cell 2 true 11], F48c⟩
theorem F48_ok : cFn Tryd.prog [] 48 = some F48 := by kernel_rfl

/- manifold/resolve.joined -/
def F49o0 : List AOper := [
  ⟨(some 4), .t (.mv (.c (.str []))), none⟩]
def F49o1 : List AOper := [
  ⟨(some 5), .t (.mv (.c .nils)), none⟩]
def F49o2 : List AOper := [
  ⟨(some 8), .t (.mv (.t 0)), none⟩,
  ⟨(some 9), .t (.len false (.t 8)), none⟩,
  ⟨(some 10), .t (.mv (.c (.int .i64 0))), none⟩]
def F49o3 : List AOper := [
  ⟨(some 11), .t (.bin .lss (.t 10) (.t 9)), none⟩]
def F49o4 : List AOper := [
  ⟨(some 12), .t (.iaddr 1 (.t 8) (.t 10)), none⟩,
  ⟨(some 13), .m (.load false 1 (.t 12)), none⟩,
  ⟨(some 7), .t (.mv (.t 13)), none⟩]
def F49o5 : List AOper := [
  ⟨(some 14), .t (.mv (.t 5)), none⟩,
  ⟨(some 15), .t (.mv (.t 7)), none⟩,
  ⟨(some 16), .call (.c (.clo 80 [] [])) [(.t 15)], none⟩,
  ⟨(some 17), .m (.bslice false 9 1 1 [(.t 16)]), none⟩,
  ⟨(some 18), .m (.append false 9 1 16 (.t 14) (.t 17)), none⟩,
  ⟨(some 5), .t (.mv (.t 18)), none⟩]
def F49o6 : List AOper := [
  ⟨(some 19), .t (.bin .add (.t 10) (.c (.int .i64 1))), none⟩,
  ⟨(some 10), .t (.mv (.t 19)), none⟩]
def F49b7 : ACode :=
  (.seq (.ops F49o3 [1, 5, 8, 9, 10, 11])
  ((.seq (.cond (.t 11)
    (.skip)
    (.exit 0))
   ((.seq (.block 1 ((.seq (.ops F49o4 [1, 5, 7, 8, 9, 10])
     (.ops F49o5 [1, 5, 8, 9, 10]))))
    (.ops F49o6 [1, 5, 8, 9, 10]))))))
def F49o8 : List AOper := [
  ⟨(some 20), .t (.mv (.t 5)), none⟩,
  ⟨(some 21), .t (.mv (.t 1)), none⟩,
  ⟨(some 22), .call (.c (.clo 60 [] [])) [(.t 20), (.t 21)], none⟩,
  ⟨(some 4), .t (.mv (.t 22)), none⟩]
def F49c : ACode :=
  (.seq (.ops F49o0 [0, 1])
  ((.seq (.ops F49o1 [0, 1, 5])
   ((.seq ((.seq (.ops F49o2 [1, 5, 8, 9, 10])
    (.block 0 (.loop [1, 5, 8, 9, 10] F49b7))))
    ((.seq (.ops F49o8 [4])
     (.ret))))))))
def F49 : AFn := ⟨23, [.tmp 4], F49c⟩
theorem F49_ok : cFn Tryd.prog [] 49 = some F49 := by kernel_rfl

/- manifold/manifoldlaw23.decimal -/
def F50o0 : List AOper := [
  ⟨(some 2), .t (.mv (.c (.str []))), none⟩]
def F50o1 : List AOper := [
  ⟨(some 4), .t (.mv (.t 0)), none⟩,
  ⟨(some 5), .t (.bin .lss (.t 4) (.c (.int .i64 0))), none⟩]
def F50o2 : List AOper := [
  ⟨(some 6), .t (.mv (.t 0)), none⟩,
  ⟨(some 7), .t (.bin .quo (.t 6) (.c (.int .i64 10))), none⟩,
  ⟨(some 8), .t (.bin .eql (.t 7) (.c (.int .i64 0))), none⟩]
def F50o3 : List AOper := [
  ⟨(some 9), .t (.mv (.t 0)), none⟩,
  ⟨(some 10), .t (.neg (.t 9)), none⟩,
  ⟨(some 11), .t (.mv (.t 0)), none⟩,
  ⟨(some 12), .t (.neg (.t 11)), none⟩,
  ⟨(some 13), .t (.bin .add (.t 12) (.c (.int .i64 1))), none⟩,
  ⟨(some 14), .t (.sliceS (.c (.str [48, 49, 50, 51, 52, 53, 54, 55, 56, 57])) (some (.t 10)) (some (.t 13))), none⟩,
  ⟨(some 15), .t (.bin .add (.c (.str [45])) (.t 14)), none⟩,
  ⟨(some 2), .t (.mv (.t 15)), none⟩]
def F50o4 : List AOper := [
  ⟨(some 16), .t (.mv (.t 0)), none⟩,
  ⟨(some 17), .t (.bin .quo (.t 16) (.c (.int .i64 10))), none⟩,
  ⟨(some 18), .call (.c (.clo 50 [] [])) [(.t 17)], none⟩,
  ⟨(some 19), .t (.mv (.t 0)), none⟩,
  ⟨(some 20), .t (.bin .rem (.t 19) (.c (.int .i64 10))), none⟩,
  ⟨(some 21), .t (.neg (.t 20)), none⟩,
  ⟨(some 22), .t (.mv (.t 0)), none⟩,
  ⟨(some 23), .t (.bin .rem (.t 22) (.c (.int .i64 10))), none⟩,
  ⟨(some 24), .t (.neg (.t 23)), none⟩,
  ⟨(some 25), .t (.bin .add (.t 24) (.c (.int .i64 1))), none⟩,
  ⟨(some 26), .t (.sliceS (.c (.str [48, 49, 50, 51, 52, 53, 54, 55, 56, 57])) (some (.t 21)) (some (.t 25))), none⟩]
def F50p4 : List AOper := [
  ⟨(some 27), .t (.bin .add (.t 18) (.t 26)), none⟩,
  ⟨(some 2), .t (.mv (.t 27)), none⟩]
def F50A4 : List (List Nat) := [[], [0], [1, 0], [], [3], [4, 3], [], [6], [7, 6], [8, 7, 6], [5, 9, 4, 3, 8, 7, 6], [2, 10, 1, 0, 5, 9, 4, 3, 8, 7, 6], [11, 2, 10, 1, 0, 5, 9, 4, 3, 8, 7, 6]]
def F50o5 : List AOper := [
  ⟨(some 28), .t (.mv (.t 0)), none⟩,
  ⟨(some 29), .t (.bin .rem (.t 28) (.c (.int .i64 10))), none⟩,
  ⟨(some 30), .t (.mv (.t 0)), none⟩,
  ⟨(some 31), .t (.bin .rem (.t 30) (.c (.int .i64 10))), none⟩,
  ⟨(some 32), .t (.bin .add (.t 31) (.c (.int .i64 1))), none⟩,
  ⟨(some 33), .t (.sliceS (.c (.str [48, 49, 50, 51, 52, 53, 54, 55, 56, 57])) (some (.t 29)) (some (.t 32))), none⟩,
  ⟨(some 3), .t (.mv (.t 33)), none⟩]
def F50o6 : List AOper := [
  ⟨(some 34), .t (.mv (.t 0)), none⟩,
  ⟨(some 35), .t (.bin .geq (.t 34) (.c (.int .i64 10))), none⟩]
def F50o7 : List AOper := [
  ⟨(some 36), .t (.mv (.t 0)), none⟩,
  ⟨(some 37), .t (.bin .quo (.t 36) (.c (.int .i64 10))), none⟩,
  ⟨(some 38), .call (.c (.clo 50 [] [])) [(.t 37)], none⟩,
  ⟨(some 39), .t (.mv (.t 3)), none⟩,
  ⟨(some 40), .t (.bin .add (.t 38) (.t 39)), none⟩,
  ⟨(some 3), .t (.mv (.t 40)), none⟩]
def F50o8 : List AOper := [
  ⟨(some 41), .t (.mv (.t 3)), none⟩,
  ⟨(some 2), .t (.mv (.t 41)), none⟩]
def F50c : ACode :=
  (.seq (.ops F50o0 [0])
  ((.seq ((.seq (.ops F50o1 [0, 5])
   (.cond (.t 5)
     ((.seq ((.seq (.ops F50o2 [0, 8])
      (.cond (.t 8)
        ((.seq (.ops F50o3 [2])
         (.ret)))
        (.skip))))
      ((.seq (.draw F50A4 F50o4 F50p4 [2])
       (.ret)))))
     (.skip))))
   ((.seq (.ops F50o5 [0, 3])
    ((.seq ((.seq (.ops F50o6 [0, 3, 35])
     (.cond (.t 35)
       (.ops F50o7 [3])
       (.skip))))
     ((.seq (.ops F50o8 [2])
      (.ret))))))))))
def F50 : AFn := ⟨42, [.tmp 2], F50c⟩
theorem F50_ok : cFn Tryd.prog [] 50 = some F50 := by kernel_rfl

/- manifold/manifoldlaw07.ShortType -/
def F51o0 : List AOper := [
  ⟨(some 2), .m (.box 98 (.t 0)), none⟩,
  ⟨(some 4), .m (.alloc 98 [(.int .i64 0), (.int .i64 0), (.int .i64 0), (.int .i64 0), .nils, .nils, .nils]), none⟩]
def F51o1 : List AOper := [
  ⟨(some 5), .t (.mv (.c .nils)), none⟩]
def F51o2 : List AOper := [
  ⟨(some 6), .t (.mv (.c .nils)), none⟩]
def F51o3 : List AOper := [
  ⟨(some 7), .t (.mv (.c .nils)), none⟩]
def F51o4 : List AOper := [
  ⟨(some 8), .t (.mv (.c (.int .i64 0))), none⟩]
def F51o5 : List AOper := [
  ⟨(some 14), .t (.mv (.t 8)), none⟩,
  ⟨(some 15), .t (.faddr 4 (.t 2)), none⟩,
  ⟨(some 16), .m (.load false 1 (.t 15)), none⟩,
  ⟨(some 17), .t (.len false (.t 16)), none⟩,
  ⟨(some 18), .t (.bin .lss (.t 14) (.t 17)), none⟩,
  ⟨(some 19), .t (.mv (.t 18)), none⟩,
  ⟨(some 20), .t (.mv (.t 8)), (some (19, true))⟩,
  ⟨(some 21), .t (.bin .lss (.t 20) (.c (.int .i64 6))), (some (19, true))⟩,
  ⟨(some 22), .t (.pick (.t 19) (.t 21) (.c (.bool false))), none⟩]
def F51o6 : List AOper := [
  ⟨(some 25), .t (.mv (.t 5)), none⟩,
  ⟨(some 26), .t (.faddr 4 (.t 2)), none⟩,
  ⟨(some 27), .m (.load false 1 (.t 26)), none⟩,
  ⟨(some 28), .t (.mv (.t 8)), none⟩,
  ⟨(some 29), .t (.iaddr 1 (.t 27) (.t 28)), none⟩,
  ⟨(some 30), .m (.load false 1 (.t 29)), none⟩,
  ⟨(some 31), .t (.faddr 4 (.t 2)), none⟩,
  ⟨(some 32), .m (.load false 1 (.t 31)), none⟩,
  ⟨(some 33), .t (.mv (.t 8)), none⟩,
  ⟨(some 34), .t (.iaddr 1 (.t 32) (.t 33)), none⟩,
  ⟨(some 35), .m (.load false 1 (.t 34)), none⟩,
  ⟨(some 36), .t (.len true (.t 35)), none⟩,
  ⟨(some 37), .t (.imin (.t 36) (.c (.int .i64 40))), none⟩,
  ⟨(some 38), .t (.sliceS (.t 30) none (some (.t 37))), none⟩,
  ⟨(some 39), .m (.bslice false 9 1 1 [(.t 38)]), none⟩]
def F51p6 : List AOper := [
  ⟨(some 40), .m (.append false 9 1 16 (.t 25) (.t 39)), none⟩,
  ⟨(some 5), .t (.mv (.t 40)), none⟩]
def F51A6 : List (List Nat) := [[], [], [1], [], [2, 3, 1], [4, 2, 3, 1], [], [6], [], [7, 8, 6], [9, 7, 8, 6], [10, 9, 7, 8, 6], [11, 10, 9, 7, 8, 6], [5, 12, 4, 2, 3, 1, 11, 10, 9, 7, 8, 6], [13, 5, 12, 4, 2, 3, 1, 11, 10, 9, 7, 8, 6], [0, 14, 13, 5, 12, 4, 2, 3, 1, 11, 10, 9, 7, 8, 6], [15, 0, 14, 13, 5, 12, 4, 2, 3, 1, 11, 10, 9, 7, 8, 6]]
def F51o7 : List AOper := [
  ⟨(some 23), .t (.mv (.t 8)), none⟩,
  ⟨(some 24), .t (.bin .add (.t 23) (.c (.int .i64 1))), none⟩,
  ⟨(some 8), .t (.mv (.t 24)), none⟩]
def F51b8 : ACode :=
  (.seq ((.seq (.ops F51o5 [1, 2, 4, 5, 6, 7, 8, 22])
  (.cond (.t 22)
    (.skip)
    (.exit 0))))
  ((.seq (.block 1 (.draw F51A6 F51o6 F51p6 [1, 2, 4, 5, 6, 7, 8]))
   (.ops F51o7 [1, 2, 4, 5, 6, 7, 8]))))
def F51o9 : List AOper := [
  ⟨(some 9), .t (.mv (.c (.int .i64 0))), none⟩]
def F51o10 : List AOper := [
  ⟨(some 41), .t (.mv (.t 9)), none⟩,
  ⟨(some 42), .t (.faddr 5 (.t 2)), none⟩,
  ⟨(some 43), .m (.load false 1 (.t 42)), none⟩,
  ⟨(some 44), .t (.len false (.t 43)), none⟩,
  ⟨(some 45), .t (.bin .lss (.t 41) (.t 44)), none⟩,
  ⟨(some 46), .t (.mv (.t 45)), none⟩,
  ⟨(some 47), .t (.mv (.t 9)), (some (46, true))⟩,
  ⟨(some 48), .t (.bin .lss (.t 47) (.c (.int .i64 2))), (some (46, true))⟩,
  ⟨(some 49), .t (.pick (.t 46) (.t 48) (.c (.bool false))), none⟩,
  ⟨(some 50), .t (.mv (.t 49)), none⟩,
  ⟨(some 51), .t (.mv (.t 1)), (some (50, true))⟩,
  ⟨(some 52), .t (.bin .gtr (.t 51) (.c (.int .i64 1))), (some (50, true))⟩,
  ⟨(some 53), .t (.pick (.t 50) (.t 52) (.c (.bool false))), none⟩]
def F51o11 : List AOper := [
  ⟨(some 56), .t (.mv (.t 6)), none⟩,
  ⟨(some 57), .t (.faddr 5 (.t 2)), none⟩,
  ⟨(some 58), .m (.load false 1 (.t 57)), none⟩,
  ⟨(some 59), .t (.mv (.t 9)), none⟩,
  ⟨(some 60), .t (.iaddr 7 (.t 58) (.t 59)), none⟩,
  ⟨(some 61), .m (.load true 7 (.t 60)), none⟩,
  ⟨(some 62), .t (.mv (.t 1)), none⟩,
  ⟨(some 63), .t (.bin .sub (.t 62) (.c (.int .i64 1))), none⟩,
  ⟨(some 64), .call (.c (.clo 51 [] [])) [(.t 61), (.t 63)], none⟩,
  ⟨(some 65), .m (.bslice false 98 7 1 [(.t 64)]), none⟩,
  ⟨(some 66), .m (.append false 98 7 104 (.t 56) (.t 65)), none⟩,
  ⟨(some 6), .t (.mv (.t 66)), none⟩]
def F51o12 : List AOper := [
  ⟨(some 54), .t (.mv (.t 9)), none⟩,
  ⟨(some 55), .t (.bin .add (.t 54) (.c (.int .i64 1))), none⟩,
  ⟨(some 9), .t (.mv (.t 55)), none⟩]
def F51b13 : ACode :=
  (.seq ((.seq (.ops F51o10 [1, 2, 4, 5, 6, 7, 9, 53])
  (.cond (.t 53)
    (.skip)
    (.exit 2))))
  ((.seq (.block 3 (.ops F51o11 [1, 2, 4, 5, 6, 7, 9]))
   (.ops F51o12 [1, 2, 4, 5, 6, 7, 9]))))
def F51o14 : List AOper := [
  ⟨(some 10), .t (.mv (.c (.int .i64 0))), none⟩]
def F51o15 : List AOper := [
  ⟨(some 67), .t (.mv (.t 10)), none⟩,
  ⟨(some 68), .t (.faddr 6 (.t 2)), none⟩,
  ⟨(some 69), .m (.load false 1 (.t 68)), none⟩,
  ⟨(some 70), .t (.len false (.t 69)), none⟩,
  ⟨(some 71), .t (.bin .lss (.t 67) (.t 70)), none⟩,
  ⟨(some 72), .t (.mv (.t 71)), none⟩,
  ⟨(some 73), .t (.mv (.t 10)), (some (72, true))⟩,
  ⟨(some 74), .t (.bin .lss (.t 73) (.c (.int .i64 6))), (some (72, true))⟩,
  ⟨(some 75), .t (.pick (.t 72) (.t 74) (.c (.bool false))), none⟩,
  ⟨(some 76), .t (.mv (.t 75)), none⟩,
  ⟨(some 77), .t (.mv (.t 1)), (some (76, true))⟩,
  ⟨(some 78), .t (.bin .gtr (.t 77) (.c (.int .i64 1))), (some (76, true))⟩,
  ⟨(some 79), .t (.pick (.t 76) (.t 78) (.c (.bool false))), none⟩]
def F51o16 : List AOper := [
  ⟨(some 82), .t (.faddr 6 (.t 2)), none⟩,
  ⟨(some 83), .m (.load false 1 (.t 82)), none⟩,
  ⟨(some 84), .t (.mv (.t 10)), none⟩,
  ⟨(some 85), .t (.iaddr 11 (.t 83) (.t 84)), none⟩,
  ⟨(some 86), .m (.load true 11 (.t 85)), none⟩,
  ⟨(some 11), .m (.alloc 134 [(.int .i64 0), (.str []), (.int .i64 0), (.int .i64 0), (.int .i64 0), (.int .i64 0), (.int .i64 0), .nils, .nils, .nils, .nils]), none⟩,
  ⟨none, .m (.store 11 (.t 11) (.t 86)), none⟩]
def F51o17 : List AOper := [
  ⟨(some 12), .t (.mv (.c .nils)), none⟩]
def F51o18 : List AOper := [
  ⟨(some 13), .t (.mv (.c (.int .i64 0))), none⟩]
def F51o19 : List AOper := [
  ⟨(some 87), .t (.mv (.t 13)), none⟩,
  ⟨(some 88), .t (.faddr 10 (.t 11)), none⟩,
  ⟨(some 89), .m (.load false 1 (.t 88)), none⟩,
  ⟨(some 90), .t (.len false (.t 89)), none⟩,
  ⟨(some 91), .t (.bin .lss (.t 87) (.t 90)), none⟩,
  ⟨(some 92), .t (.mv (.t 91)), none⟩,
  ⟨(some 93), .t (.mv (.t 13)), (some (92, true))⟩,
  ⟨(some 94), .t (.bin .lss (.t 93) (.c (.int .i64 2))), (some (92, true))⟩,
  ⟨(some 95), .t (.pick (.t 92) (.t 94) (.c (.bool false))), none⟩]
def F51o20 : List AOper := [
  ⟨(some 98), .t (.mv (.t 12)), none⟩,
  ⟨(some 99), .t (.faddr 10 (.t 11)), none⟩,
  ⟨(some 100), .m (.load false 1 (.t 99)), none⟩,
  ⟨(some 101), .t (.mv (.t 13)), none⟩,
  ⟨(some 102), .t (.iaddr 6 (.t 100) (.t 101)), none⟩,
  ⟨(some 103), .m (.load true 6 (.t 102)), none⟩,
  ⟨(some 104), .call (.c (.clo 81 [] [])) [(.t 103), (.c (.int .i64 3))], none⟩,
  ⟨(some 105), .m (.bslice false 137 6 1 [(.t 104)]), none⟩,
  ⟨(some 106), .m (.append false 137 6 88 (.t 98) (.t 105)), none⟩,
  ⟨(some 12), .t (.mv (.t 106)), none⟩]
def F51o21 : List AOper := [
  ⟨(some 96), .t (.mv (.t 13)), none⟩,
  ⟨(some 97), .t (.bin .add (.t 96) (.c (.int .i64 1))), none⟩,
  ⟨(some 13), .t (.mv (.t 97)), none⟩]
def F51b22 : ACode :=
  (.seq ((.seq (.ops F51o19 [1, 2, 4, 5, 6, 7, 10, 11, 12, 13, 95])
  (.cond (.t 95)
    (.skip)
    (.exit 6))))
  ((.seq (.block 7 (.ops F51o20 [1, 2, 4, 5, 6, 7, 10, 11, 12, 13]))
   (.ops F51o21 [1, 2, 4, 5, 6, 7, 10, 11, 12, 13]))))
def F51o23 : List AOper := [
  ⟨(some 107), .t (.faddr 1 (.t 11)), none⟩,
  ⟨(some 108), .m (.load false 1 (.t 107)), none⟩,
  ⟨(some 109), .t (.faddr 1 (.t 11)), none⟩,
  ⟨(some 110), .m (.load false 1 (.t 109)), none⟩,
  ⟨(some 111), .t (.len true (.t 110)), none⟩,
  ⟨(some 112), .t (.imin (.t 111) (.c (.int .i64 40))), none⟩,
  ⟨(some 113), .t (.sliceS (.t 108) none (some (.t 112))), none⟩,
  ⟨(some 114), .t (.faddr 3 (.t 11)), none⟩,
  ⟨(some 115), .m (.load true 7 (.t 114)), none⟩,
  ⟨(some 116), .t (.mv (.t 1)), none⟩,
  ⟨(some 117), .t (.bin .sub (.t 116) (.c (.int .i64 1))), none⟩,
  ⟨(some 118), .call (.c (.clo 51 [] [])) [(.t 115), (.t 117)], none⟩,
  ⟨(some 119), .t (.mv (.t 12)), none⟩,
  ⟨(some 120), .t (.faddr 1 (.t 11)), none⟩,
  ⟨none, .m (.store 1 (.t 120) (.t 113)), none⟩,
  ⟨(some 121), .t (.faddr 3 (.t 11)), none⟩,
  ⟨none, .m (.store 7 (.t 121) (.t 118)), none⟩]
def F51p23 : List AOper := [
  ⟨(some 122), .t (.faddr 10 (.t 11)), none⟩,
  ⟨none, .m (.store 1 (.t 122) (.t 119)), none⟩]
def F51A23 : List (List Nat) := [[], [0], [], [2], [3, 2], [4, 3, 2], [1, 5, 0, 4, 3, 2], [], [7], [], [9], [8, 10, 7, 9], [], [6, 8, 1, 5, 0, 4, 3, 2, 7], [13, 11, 6, 8, 10, 9, 1, 5, 0, 4, 3, 2, 7], [14, 13, 11, 6, 8, 10, 9, 1, 5, 0, 4, 3, 2, 7], [15, 14, 13, 11, 6, 8, 10, 9, 1, 5, 0, 4, 3, 2, 7], [12, 16, 15, 14, 13, 11, 6, 8, 10, 9, 1, 5, 0, 4, 3, 2, 7], [17, 12, 16, 15, 14, 13, 11, 6, 8, 10, 9, 1, 5, 0, 4, 3, 2, 7]]
def F51o24 : List AOper := [
  ⟨(some 123), .t (.mv (.t 7)), none⟩,
  ⟨(some 124), .m (.load true 11 (.t 11)), none⟩,
  ⟨(some 125), .m (.bslice false 134 11 1 [(.t 124)]), none⟩,
  ⟨(some 126), .m (.append false 134 11 160 (.t 123) (.t 125)), none⟩,
  ⟨(some 7), .t (.mv (.t 126)), none⟩]
def F51o25 : List AOper := [
  ⟨(some 80), .t (.mv (.t 10)), none⟩,
  ⟨(some 81), .t (.bin .add (.t 80) (.c (.int .i64 1))), none⟩,
  ⟨(some 10), .t (.mv (.t 81)), none⟩]
def F51b26 : ACode :=
  (.seq ((.seq (.ops F51o15 [1, 2, 4, 5, 6, 7, 10, 79])
  (.cond (.t 79)
    (.skip)
    (.exit 4))))
  ((.seq (.block 5 ((.seq (.ops F51o16 [1, 2, 4, 5, 6, 7, 10, 11])
    ((.seq (.ops F51o17 [1, 2, 4, 5, 6, 7, 10, 11, 12])
     ((.seq ((.seq (.ops F51o18 [1, 2, 4, 5, 6, 7, 10, 11, 12, 13])
      (.block 6 (.loop [1, 2, 4, 5, 6, 7, 10, 11, 12, 13] F51b22))))
      ((.seq (.draw F51A23 F51o23 F51p23 [1, 2, 4, 5, 6, 7, 10, 11])
       (.ops F51o24 [1, 2, 4, 5, 6, 7, 10]))))))))))
   (.ops F51o25 [1, 2, 4, 5, 6, 7, 10]))))
def F51o27 : List AOper := [
  ⟨(some 127), .t (.mv (.t 5)), none⟩,
  ⟨(some 128), .t (.mv (.t 6)), none⟩,
  ⟨(some 129), .t (.mv (.t 7)), none⟩,
  ⟨(some 130), .t (.faddr 4 (.t 2)), none⟩,
  ⟨none, .m (.store 1 (.t 130) (.t 127)), none⟩,
  ⟨(some 131), .t (.faddr 5 (.t 2)), none⟩,
  ⟨none, .m (.store 1 (.t 131) (.t 128)), none⟩,
  ⟨(some 132), .t (.faddr 6 (.t 2)), none⟩,
  ⟨none, .m (.store 1 (.t 132) (.t 129)), none⟩]
def F51o28 : List AOper := [
  ⟨(some 133), .m (.load true 7 (.t 2)), none⟩,
  ⟨none, .m (.store 7 (.t 4) (.t 133)), none⟩]
def F51c : ACode :=
  (.seq (.ops F51o0 [1, 2, 4])
  ((.seq (.ops F51o1 [1, 2, 4, 5])
   ((.seq (.ops F51o2 [1, 2, 4, 5, 6])
    ((.seq (.ops F51o3 [1, 2, 4, 5, 6, 7])
     ((.seq ((.seq (.ops F51o4 [1, 2, 4, 5, 6, 7, 8])
      (.block 0 (.loop [1, 2, 4, 5, 6, 7, 8] F51b8))))
      ((.seq ((.seq (.ops F51o9 [1, 2, 4, 5, 6, 7, 9])
       (.block 2 (.loop [1, 2, 4, 5, 6, 7, 9] F51b13))))
       ((.seq ((.seq (.ops F51o14 [1, 2, 4, 5, 6, 7, 10])
        (.block 4 (.loop [1, 2, 4, 5, 6, 7, 10] F51b26))))
        ((.seq (.ops F51o27 [2, 4])
         ((.seq (.ops F51o28 [4])
          (.ret))))))))))))))))))
def F51 : AFn := ⟨134, [.cell 4 true 7], F51c⟩
theorem F51_ok : cFn Tryd.prog [] 51 = some F51 := by kernel_rfl

/- cmp.Or[int] -/
def F63o0 : List AOper := [
  ⟨(some 2), .t (.mv (.c (.int .i64 0))), none⟩]
def F63o1 : List AOper := [
  ⟨(some 3), .t (.mv (.c (.int .i64 0))), none⟩]
def F63o2 : List AOper := [
  ⟨(some 6), .t (.mv (.t 0)), none⟩,
  ⟨(some 7), .t (.len false (.t 6)), none⟩,
  ⟨(some 8), .t (.mv (.c (.int .i64 0))), none⟩]
def F63o3 : List AOper := [
  ⟨(some 9), .t (.bin .lss (.t 8) (.t 7)), none⟩]
def F63o4 : List AOper := [
  ⟨(some 10), .t (.iaddr 1 (.t 6) (.t 8)), none⟩,
  ⟨(some 11), .m (.load false 1 (.t 10)), none⟩,
  ⟨(some 5), .t (.mv (.t 11)), none⟩]
def F63o5 : List AOper := [
  ⟨(some 12), .t (.mv (.t 5)), none⟩,
  ⟨(some 13), .t (.mv (.t 3)), none⟩,
  ⟨(some 14), .t (.bin .neq (.t 12) (.t 13)), none⟩]
def F63o6 : List AOper := [
  ⟨(some 15), .t (.mv (.t 5)), none⟩,
  ⟨(some 2), .t (.mv (.t 15)), none⟩]
def F63o7 : List AOper := [
  ⟨(some 16), .t (.bin .add (.t 8) (.c (.int .i64 1))), none⟩,
  ⟨(some 8), .t (.mv (.t 16)), none⟩]
def F63b8 : ACode :=
  (.seq (.ops F63o3 [3, 6, 7, 8, 9])
  ((.seq (.cond (.t 9)
    (.skip)
    (.exit 0))
   ((.seq (.block 1 ((.seq (.ops F63o4 [3, 5, 6, 7, 8])
     ((.seq (.ops F63o5 [3, 5, 6, 7, 8, 14])
      (.cond (.t 14)
        ((.seq (.ops F63o6 [2])
         (.ret)))
        (.skip)))))))
    (.ops F63o7 [3, 6, 7, 8]))))))
def F63o9 : List AOper := [
  ⟨(some 17), .t (.mv (.t 3)), none⟩,
  ⟨(some 2), .t (.mv (.t 17)), none⟩]
def F63c : ACode :=
  (.seq (.ops F63o0 [0])
  ((.seq (.ops F63o1 [0, 3])
   ((.seq ((.seq (.ops F63o2 [3, 6, 7, 8])
    (.block 0 (.loop [3, 6, 7, 8] F63b8))))
    ((.seq (.ops F63o9 [2])
     (.ret))))))))
def F63 : AFn := ⟨18, [.tmp 2], F63c⟩
theorem F63_ok : cFn Tryd.prog [] 63 = some F63 := by kernel_rfl

/- slices.Compare[[]int,int] -/
def F65o0 : List AOper := [
  ⟨(some 4), .t (.mv (.c (.int .i64 0))), none⟩]
def F65o1 : List AOper := [
  ⟨(some 9), .t (.mv (.t 0)), none⟩,
  ⟨(some 10), .t (.len false (.t 9)), none⟩,
  ⟨(some 11), .t (.mv (.c (.int .i64 0))), none⟩]
def F65o2 : List AOper := [
  ⟨(some 12), .t (.bin .lss (.t 11) (.t 10)), none⟩]
def F65o3 : List AOper := [
  ⟨(some 13), .t (.mv (.t 11)), none⟩,
  ⟨(some 14), .t (.iaddr 1 (.t 9) (.t 11)), none⟩,
  ⟨(some 15), .m (.load false 1 (.t 14)), none⟩,
  ⟨(some 5), .t (.mv (.t 13)), none⟩,
  ⟨(some 6), .t (.mv (.t 15)), none⟩]
def F65o4 : List AOper := [
  ⟨(some 16), .t (.mv (.t 5)), none⟩,
  ⟨(some 17), .t (.mv (.t 1)), none⟩,
  ⟨(some 18), .t (.len false (.t 17)), none⟩,
  ⟨(some 19), .t (.bin .geq (.t 16) (.t 18)), none⟩]
def F65o5 : List AOper := [
  ⟨(some 4), .t (.mv (.c (.int .i64 1))), none⟩]
def F65o6 : List AOper := [
  ⟨(some 20), .t (.mv (.t 1)), none⟩,
  ⟨(some 21), .t (.mv (.t 5)), none⟩,
  ⟨(some 22), .t (.iaddr 1 (.t 20) (.t 21)), none⟩,
  ⟨(some 23), .m (.load false 1 (.t 22)), none⟩,
  ⟨(some 7), .t (.mv (.t 23)), none⟩]
def F65o7 : List AOper := [
  ⟨(some 24), .t (.mv (.t 6)), none⟩,
  ⟨(some 25), .t (.mv (.t 7)), none⟩,
  ⟨(some 26), .call (.c (.clo 66 [] [])) [(.t 24), (.t 25)], none⟩,
  ⟨(some 8), .t (.mv (.t 26)), none⟩]
def F65o8 : List AOper := [
  ⟨(some 27), .t (.mv (.t 8)), none⟩,
  ⟨(some 28), .t (.bin .neq (.t 27) (.c (.int .i64 0))), none⟩]
def F65o9 : List AOper := [
  ⟨(some 29), .t (.mv (.t 8)), none⟩,
  ⟨(some 4), .t (.mv (.t 29)), none⟩]
def F65o10 : List AOper := [
  ⟨(some 30), .t (.bin .add (.t 11) (.c (.int .i64 1))), none⟩,
  ⟨(some 11), .t (.mv (.t 30)), none⟩]
def F65b11 : ACode :=
  (.seq (.ops F65o2 [0, 1, 9, 10, 11, 12])
  ((.seq (.cond (.t 12)
    (.skip)
    (.exit 0))
   ((.seq (.block 1 ((.seq (.ops F65o3 [0, 1, 5, 6, 9, 10, 11])
     ((.seq ((.seq (.ops F65o4 [0, 1, 5, 6, 9, 10, 11, 19])
      (.cond (.t 19)
        ((.seq (.ops F65o5 [4])
         (.ret)))
        (.skip))))
      ((.seq (.ops F65o6 [0, 1, 6, 7, 9, 10, 11])
       ((.seq (.ops F65o7 [0, 1, 8, 9, 10, 11])
        ((.seq (.ops F65o8 [0, 1, 8, 9, 10, 11, 28])
         (.cond (.t 28)
           ((.seq (.ops F65o9 [4])
            (.ret)))
           (.skip)))))))))))))
    (.ops F65o10 [0, 1, 9, 10, 11]))))))
def F65o12 : List AOper := [
  ⟨(some 31), .t (.mv (.t 0)), none⟩,
  ⟨(some 32), .t (.len false (.t 31)), none⟩,
  ⟨(some 33), .t (.mv (.t 1)), none⟩,
  ⟨(some 34), .t (.len false (.t 33)), none⟩,
  ⟨(some 35), .t (.bin .lss (.t 32) (.t 34)), none⟩]
def F65o13 : List AOper := [
  ⟨(some 4), .t (.mv (.c (.int .i64 (-1)))), none⟩]
def F65o14 : List AOper := [
  ⟨(some 4), .t (.mv (.c (.int .i64 0))), none⟩]
def F65c : ACode :=
  (.seq (.ops F65o0 [0, 1])
  ((.seq ((.seq (.ops F65o1 [0, 1, 9, 10, 11])
   (.block 0 (.loop [0, 1, 9, 10, 11] F65b11))))
   ((.seq ((.seq (.ops F65o12 [35])
    (.cond (.t 35)
      ((.seq (.ops F65o13 [4])
       (.ret)))
      (.skip))))
    ((.seq (.ops F65o14 [4])
     (.ret))))))))
def F65 : AFn := ⟨36, [.tmp 4], F65c⟩
theorem F65_ok : cFn Tryd.prog [] 65 = some F65 := by kernel_rfl

/- cmp.Compare[int] -/
def F66o0 : List AOper := [
  ⟨(some 4), .t (.mv (.c (.int .i64 0))), none⟩]
def F66o1 : List AOper := [
  ⟨(some 7), .t (.mv (.t 0)), none⟩,
  ⟨(some 8), .call (.c (.clo 91 [] [])) [(.t 7)], none⟩,
  ⟨(some 5), .t (.mv (.t 8)), none⟩]
def F66o2 : List AOper := [
  ⟨(some 9), .t (.mv (.t 1)), none⟩,
  ⟨(some 10), .call (.c (.clo 91 [] [])) [(.t 9)], none⟩,
  ⟨(some 6), .t (.mv (.t 10)), none⟩]
def F66o3 : List AOper := [
  ⟨(some 11), .t (.mv (.t 5)), none⟩]
def F66o4 : List AOper := [
  ⟨(some 12), .t (.mv (.t 6)), none⟩]
def F66o5 : List AOper := [
  ⟨(some 4), .t (.mv (.c (.int .i64 0))), none⟩]
def F66o6 : List AOper := [
  ⟨(some 4), .t (.mv (.c (.int .i64 (-1)))), none⟩]
def F66o7 : List AOper := [
  ⟨(some 13), .t (.mv (.t 6)), none⟩]
def F66o8 : List AOper := [
  ⟨(some 4), .t (.mv (.c (.int .i64 1))), none⟩]
def F66o9 : List AOper := [
  ⟨(some 14), .t (.mv (.t 0)), none⟩,
  ⟨(some 15), .t (.mv (.t 1)), none⟩,
  ⟨(some 16), .t (.bin .lss (.t 14) (.t 15)), none⟩]
def F66o10 : List AOper := [
  ⟨(some 4), .t (.mv (.c (.int .i64 (-1)))), none⟩]
def F66o11 : List AOper := [
  ⟨(some 17), .t (.mv (.t 0)), none⟩,
  ⟨(some 18), .t (.mv (.t 1)), none⟩,
  ⟨(some 19), .t (.bin .gtr (.t 17) (.t 18)), none⟩]
def F66o12 : List AOper := [
  ⟨(some 4), .t (.mv (.c (.int .i64 1))), none⟩]
def F66o13 : List AOper := [
  ⟨(some 4), .t (.mv (.c (.int .i64 0))), none⟩]
def F66c : ACode :=
  (.seq (.ops F66o0 [0, 1])
  ((.seq (.ops F66o1 [0, 1, 5])
   ((.seq (.ops F66o2 [0, 1, 5, 6])
    ((.seq ((.seq (.ops F66o3 [0, 1, 6, 11])
     (.cond (.t 11)
       ((.seq ((.seq (.ops F66o4 [12])
        (.cond (.t 12)
          ((.seq (.ops F66o5 [4])
           (.ret)))
          (.skip))))
        ((.seq (.ops F66o6 [4])
         (.ret)))))
       (.skip))))
     ((.seq ((.seq (.ops F66o7 [0, 1, 13])
      (.cond (.t 13)
        ((.seq (.ops F66o8 [4])
         (.ret)))
        (.skip))))
      ((.seq ((.seq (.ops F66o9 [0, 1, 16])
       (.cond (.t 16)
         ((.seq (.ops F66o10 [4])
          (.ret)))
         (.skip))))
       ((.seq ((.seq (.ops F66o11 [19])
        (.cond (.t 19)
          ((.seq (.ops F66o12 [4])
           (.ret)))
          (.skip))))
        ((.seq (.ops F66o13 [4])
         (.ret))))))))))))))))
def F66 : AFn := ⟨20, [.tmp 4], F66c⟩
theorem F66_ok : cFn Tryd.prog [] 66 = some F66 := by kernel_rfl

/- manifold/resolve.walk -/
def F68o0 : List AOper := [
  ⟨(some 2), .m (.cbox 44 (.t 0)), none⟩,
  ⟨(some 3), .m (.cbox 3 (.t 1)), none⟩,
  ⟨(some 4), .t (.mv (.c .nils)), none⟩]
def F68o1 : List AOper := [
  ⟨(some 5), .m (.alloc 73 [.nils]), none⟩]
def F68o2 : List AOper := [
  ⟨(some 6), .t (.faddr 4 (.t 2)), none⟩,
  ⟨(some 7), .m (.load false 1 (.t 6)), none⟩,
  ⟨(some 8), .m (.load false 1 (.t 3)), none⟩,
  ⟨(some 9), .t (.iaddr 3 (.t 7) (.t 8)), none⟩,
  ⟨(some 10), .t (.faddr 2 (.t 9)), none⟩,
  ⟨(some 11), .m (.load false 1 (.t 10)), none⟩,
  ⟨(some 12), .t (.clo 92 [] [(.t 5), (.t 3)]), none⟩,
  ⟨(some 13), .call (.c (.clo 75 [] [])) [(.t 11), (.t 12)], none⟩]
def F68o3 : List AOper := [
  ⟨(some 14), .m (.load false 1 (.t 5)), none⟩,
  ⟨(some 4), .t (.mv (.t 14)), none⟩]
def F68c : ACode :=
  (.seq (.ops F68o0 [2, 3])
  ((.seq (.ops F68o1 [2, 3, 5])
   ((.seq (.ops F68o2 [5])
    ((.seq (.ops F68o3 [4])
     (.ret))))))))
def F68 : AFn := ⟨15, [.tmp 4], F68c⟩
theorem F68_ok : cFn Tryd.prog [2, 3] 68 = some F68 := by kernel_rfl

/- manifold/manifoldlaw23.steps -/
def F69o0 : List AOper := [
  ⟨(some 6), .t (.mv (.c .nils)), none⟩]
def F69o1 : List AOper := [
  ⟨(some 7), .t (.mv (.c .nils)), none⟩]
def F69o2 : List AOper := [
  ⟨(some 8), .t (.mv (.c (.int .i64 0))), none⟩]
def F69o3 : List AOper := [
  ⟨(some 11), .t (.mv (.t 8)), none⟩,
  ⟨(some 12), .t (.mv (.t 2)), none⟩,
  ⟨(some 13), .t (.len false (.t 12)), none⟩,
  ⟨(some 14), .t (.bin .lss (.t 11) (.t 13)), none⟩]
def F69o4 : List AOper := [
  ⟨(some 17), .m (.bslice false 3 1 0 []), none⟩,
  ⟨(some 18), .t (.mv (.t 1)), none⟩,
  ⟨(some 19), .m (.append false 3 1 8 (.t 17) (.t 18)), none⟩,
  ⟨(some 20), .t (.mv (.t 8)), none⟩,
  ⟨(some 21), .m (.bslice false 3 1 1 [(.t 20)]), none⟩,
  ⟨(some 22), .m (.append false 3 1 8 (.t 19) (.t 21)), none⟩,
  ⟨(some 9), .t (.mv (.t 22)), none⟩]
def F69o5 : List AOper := [
  ⟨(some 23), .t (.mv (.t 7)), none⟩,
  ⟨(some 24), .t (.mv (.t 0)), none⟩,
  ⟨(some 25), .t (.mv (.t 9)), none⟩,
  ⟨(some 26), .t (.mv (.t 2)), none⟩,
  ⟨(some 27), .t (.mv (.t 8)), none⟩,
  ⟨(some 28), .t (.iaddr 11 (.t 26) (.t 27)), none⟩,
  ⟨(some 29), .m (.load true 11 (.t 28)), none⟩,
  ⟨(some 30), .t (.build [(.int .i64 0), .nils, (.str []), (.int .i64 0), (.int .i64 0), (.int .i64 0), (.int .i64 0), (.str []), (.str []), .nils, .nils, .nils, .nils] [(0, 1, (.t 24)), (1, 1, (.t 25)), (2, 11, (.t 29))]), none⟩,
  ⟨(some 31), .m (.bslice false 79 13 1 [(.t 30)]), none⟩,
  ⟨(some 32), .m (.append false 79 13 208 (.t 23) (.t 31)), none⟩,
  ⟨(some 7), .t (.mv (.t 32)), none⟩]
def F69o6 : List AOper := [
  ⟨(some 10), .t (.mv (.c (.int .i64 0))), none⟩]
def F69o7 : List AOper := [
  ⟨(some 33), .t (.mv (.t 10)), none⟩,
  ⟨(some 34), .t (.mv (.t 2)), none⟩,
  ⟨(some 35), .t (.mv (.t 8)), none⟩,
  ⟨(some 36), .t (.iaddr 11 (.t 34) (.t 35)), none⟩,
  ⟨(some 37), .t (.faddr 10 (.t 36)), none⟩,
  ⟨(some 38), .m (.load false 1 (.t 37)), none⟩,
  ⟨(some 39), .t (.len false (.t 38)), none⟩,
  ⟨(some 40), .t (.bin .lss (.t 33) (.t 39)), none⟩]
def F69o8 : List AOper := [
  ⟨(some 43), .t (.mv (.t 7)), none⟩,
  ⟨(some 44), .t (.mv (.t 0)), none⟩,
  ⟨(some 45), .m (.bslice false 3 1 0 []), none⟩,
  ⟨(some 46), .t (.mv (.t 9)), none⟩,
  ⟨(some 47), .m (.append false 3 1 8 (.t 45) (.t 46)), none⟩,
  ⟨(some 48), .t (.mv (.t 10)), none⟩,
  ⟨(some 49), .m (.bslice false 3 1 1 [(.t 48)]), none⟩,
  ⟨(some 50), .m (.append false 3 1 8 (.t 47) (.t 49)), none⟩,
  ⟨(some 51), .t (.mv (.t 2)), none⟩,
  ⟨(some 52), .t (.mv (.t 8)), none⟩,
  ⟨(some 53), .t (.iaddr 11 (.t 51) (.t 52)), none⟩,
  ⟨(some 54), .t (.faddr 10 (.t 53)), none⟩,
  ⟨(some 55), .m (.load false 1 (.t 54)), none⟩,
  ⟨(some 56), .t (.mv (.t 10)), none⟩,
  ⟨(some 57), .t (.iaddr 2 (.t 55) (.t 56)), none⟩,
  ⟨(some 58), .t (.faddr 1 (.t 57)), none⟩,
  ⟨(some 59), .m (.load false 1 (.t 58)), none⟩,
  ⟨(some 60), .call (.c (.clo 69 [] [])) [(.t 44), (.t 50), (.t 59)], none⟩]
def F69p8 : List AOper := [
  ⟨(some 61), .m (.append false 79 13 208 (.t 43) (.t 60)), none⟩,
  ⟨(some 7), .t (.mv (.t 61)), none⟩]
def F69A8 : List (List Nat) := [[], [], [], [], [2, 3], [], [5], [6, 4, 5, 2, 3], [], [], [8, 9], [10, 8, 9], [11, 10, 8, 9], [], [12, 13, 11, 10, 8, 9], [14, 12, 13, 11, 10, 8, 9], [15, 14, 12, 13, 11, 10, 8, 9], [1, 16, 7, 15, 14, 12, 13, 11, 10, 8, 9, 6, 4, 5, 2, 3], [0, 17, 1, 16, 7, 15, 14, 12, 13, 11, 10, 8, 9, 6, 4, 5, 2, 3], [18, 0, 17, 1, 16, 7, 15, 14, 12, 13, 11, 10, 8, 9, 6, 4, 5, 2, 3]]
def F69o9 : List AOper := [
  ⟨(some 41), .t (.mv (.t 10)), none⟩,
  ⟨(some 42), .t (.bin .add (.t 41) (.c (.int .i64 1))), none⟩,
  ⟨(some 10), .t (.mv (.t 42)), none⟩]
def F69b10 : ACode :=
  (.seq ((.seq (.ops F69o7 [0, 1, 2, 7, 8, 9, 10, 40])
  (.cond (.t 40)
    (.skip)
    (.exit 2))))
  ((.seq (.block 3 (.draw F69A8 F69o8 F69p8 [0, 1, 2, 7, 8, 9, 10]))
   (.ops F69o9 [0, 1, 2, 7, 8, 9, 10]))))
def F69o11 : List AOper := [
  ⟨(some 15), .t (.mv (.t 8)), none⟩,
  ⟨(some 16), .t (.bin .add (.t 15) (.c (.int .i64 1))), none⟩,
  ⟨(some 8), .t (.mv (.t 16)), none⟩]
def F69b12 : ACode :=
  (.seq ((.seq (.ops F69o3 [0, 1, 2, 7, 8, 14])
  (.cond (.t 14)
    (.skip)
    (.exit 0))))
  ((.seq (.block 1 ((.seq (.ops F69o4 [0, 1, 2, 7, 8, 9])
    ((.seq (.ops F69o5 [0, 1, 2, 7, 8, 9])
     ((.seq (.ops F69o6 [0, 1, 2, 7, 8, 9, 10])
      (.block 2 (.loop [0, 1, 2, 7, 8, 9, 10] F69b10)))))))))
   (.ops F69o11 [0, 1, 2, 7, 8]))))
def F69o13 : List AOper := [
  ⟨(some 62), .t (.mv (.t 7)), none⟩,
  ⟨(some 6), .t (.mv (.t 62)), none⟩]
def F69c : ACode :=
  (.seq (.ops F69o0 [0, 1, 2])
  ((.seq (.ops F69o1 [0, 1, 2, 7])
   ((.seq ((.seq (.ops F69o2 [0, 1, 2, 7, 8])
    (.block 0 (.loop [0, 1, 2, 7, 8] F69b12))))
    ((.seq (.ops F69o13 [6])
     (.ret))))))))
def F69 : AFn := ⟨63, [.tmp 6], F69c⟩
theorem F69_ok : cFn Tryd.prog [] 69 = some F69 := by kernel_rfl

/- manifold/resolve.cloned -/
def F70o0 : List AOper := [
  ⟨(some 1), .m (.box 32 (.t 0)), none⟩,
  ⟨(some 2), .m (.alloc 32 [(.str []), (.int .i64 0), (.int .i64 0), (.int .i64 0), (.int .i64 0), (.str []), (.str []), .nils, .nils, .nils, .nils]), none⟩]
def F70o1 : List AOper := [
  ⟨(some 3), .t (.faddr 7 (.t 1)), none⟩,
  ⟨(some 4), .m (.load false 1 (.t 3)), none⟩,
  ⟨(some 5), .call (.c (.clo 94 [] [])) [(.t 4), (.c (.clo 95 [] []))], none⟩,
  ⟨(some 6), .t (.faddr 7 (.t 1)), none⟩,
  ⟨none, .m (.store 1 (.t 6) (.t 5)), none⟩]
def F70o2 : List AOper := [
  ⟨(some 7), .t (.faddr 8 (.t 1)), none⟩,
  ⟨(some 8), .m (.load true 1 (.t 7)), none⟩,
  ⟨(some 9), .call (.c (.clo 96 [] [])) [(.t 8)], none⟩,
  ⟨(some 10), .t (.faddr 8 (.t 1)), none⟩,
  ⟨none, .m (.store 1 (.t 10) (.t 9)), none⟩]
def F70o3 : List AOper := [
  ⟨(some 11), .t (.faddr 9 (.t 1)), none⟩,
  ⟨(some 12), .m (.load false 1 (.t 11)), none⟩,
  ⟨(some 13), .call (.c (.clo 97 [] [])) [(.t 12), (.c (.clo 98 [] []))], none⟩,
  ⟨(some 14), .t (.faddr 9 (.t 1)), none⟩,
  ⟨none, .m (.store 1 (.t 14) (.t 13)), none⟩]
def F70o4 : List AOper := [
  ⟨(some 15), .t (.faddr 10 (.t 1)), none⟩,
  ⟨(some 16), .m (.load false 1 (.t 15)), none⟩,
  ⟨(some 17), .call (.c (.clo 99 [] [])) [(.t 16), (.c (.clo 100 [] []))], none⟩,
  ⟨(some 18), .t (.faddr 10 (.t 1)), none⟩,
  ⟨none, .m (.store 1 (.t 18) (.t 17)), none⟩]
def F70o5 : List AOper := [
  ⟨(some 19), .m (.load true 11 (.t 1)), none⟩,
  ⟨none, .m (.store 11 (.t 2) (.t 19)), none⟩]
def F70c : ACode :=
  (.seq (.ops F70o0 [1, 2])
  ((.seq (.ops F70o1 [1, 2])
   ((.seq (.ops F70o2 [1, 2])
    ((.seq (.ops F70o3 [1, 2])
     ((.seq (.ops F70o4 [1, 2])
      ((.seq (.ops F70o5 [2])
       (.ret))))))))))))
def F70 : AFn := ⟨20, [.cell 2 true 11], F70c⟩
theorem F70_ok : cFn Tryd.prog [] 70 = some F70 := by kernel_rfl

/- manifold/manifoldlaw23.sameExprs -/
def F71o0 : List AOper := [
  ⟨(some 4), .t (.mv (.c (.bool false))), none⟩]
def F71o1 : List AOper := [
  ⟨(some 6), .t (.mv (.t 0)), none⟩,
  ⟨(some 7), .t (.len false (.t 6)), none⟩,
  ⟨(some 8), .t (.mv (.t 1)), none⟩,
  ⟨(some 9), .t (.len false (.t 8)), none⟩,
  ⟨(some 10), .t (.bin .neq (.t 7) (.t 9)), none⟩]
def F71o2 : List AOper := [
  ⟨(some 4), .t (.mv (.c (.bool false))), none⟩]
def F71o3 : List AOper := [
  ⟨(some 5), .t (.mv (.c (.int .i64 0))), none⟩]
def F71o4 : List AOper := [
  ⟨(some 11), .t (.mv (.t 5)), none⟩,
  ⟨(some 12), .t (.mv (.t 0)), none⟩,
  ⟨(some 13), .t (.len false (.t 12)), none⟩,
  ⟨(some 14), .t (.bin .lss (.t 11) (.t 13)), none⟩]
def F71o5 : List AOper := [
  ⟨(some 17), .t (.mv (.t 0)), none⟩,
  ⟨(some 18), .t (.mv (.t 5)), none⟩,
  ⟨(some 19), .t (.iaddr 5 (.t 17) (.t 18)), none⟩,
  ⟨(some 20), .m (.load true 5 (.t 19)), none⟩,
  ⟨(some 21), .t (.mv (.t 1)), none⟩,
  ⟨(some 22), .t (.mv (.t 5)), none⟩,
  ⟨(some 23), .t (.iaddr 5 (.t 21) (.t 22)), none⟩,
  ⟨(some 24), .m (.load true 5 (.t 23)), none⟩]
def F71p5 : List AOper := [
  ⟨(some 25), .call (.c (.clo 101 [] [])) [(.t 20), (.t 24)], none⟩,
  ⟨(some 26), .t (.not (.t 25)), none⟩]
def F71A5 : List (List Nat) := [[], [], [0, 1], [2, 0, 1], [], [], [4, 5], [6, 4, 5], [3, 7, 2, 0, 1, 6, 4, 5], [8, 3, 7, 2, 0, 1, 6, 4, 5]]
def F71o6 : List AOper := [
  ⟨(some 4), .t (.mv (.c (.bool false))), none⟩]
def F71o7 : List AOper := [
  ⟨(some 15), .t (.mv (.t 5)), none⟩,
  ⟨(some 16), .t (.bin .add (.t 15) (.c (.int .i64 1))), none⟩,
  ⟨(some 5), .t (.mv (.t 16)), none⟩]
def F71b8 : ACode :=
  (.seq ((.seq (.ops F71o4 [0, 1, 5, 14])
  (.cond (.t 14)
    (.skip)
    (.exit 0))))
  ((.seq (.block 1 ((.seq (.draw F71A5 F71o5 F71p5 [0, 1, 5, 26])
    (.cond (.t 26)
      ((.seq (.ops F71o6 [4])
       (.ret)))
      (.skip)))))
   (.ops F71o7 [0, 1, 5]))))
def F71o9 : List AOper := [
  ⟨(some 4), .t (.mv (.c (.bool true))), none⟩]
def F71c : ACode :=
  (.seq (.ops F71o0 [0, 1])
  ((.seq ((.seq (.ops F71o1 [0, 1, 10])
   (.cond (.t 10)
     ((.seq (.ops F71o2 [4])
      (.ret)))
     (.skip))))
   ((.seq ((.seq (.ops F71o3 [0, 1, 5])
    (.block 0 (.loop [0, 1, 5] F71b8))))
    ((.seq (.ops F71o9 [4])
     (.ret))))))))
def F71 : AFn := ⟨27, [.tmp 4], F71c⟩
theorem F71_ok : cFn Tryd.prog [] 71 = some F71 := by kernel_rfl

/- manifold/manifoldlaw23.sameMapping -/
def F72o0 : List AOper := [
  ⟨(some 2), .m (.cbox 28 (.t 0)), none⟩,
  ⟨(some 3), .m (.cbox 28 (.t 1)), none⟩,
  ⟨(some 4), .t (.mv (.c (.bool false))), none⟩]
def F72o1 : List AOper := [
  ⟨(some 6), .t (.faddr 0 (.t 2)), none⟩,
  ⟨(some 7), .m (.load false 1 (.t 6)), none⟩,
  ⟨(some 8), .t (.len false (.t 7)), none⟩,
  ⟨(some 9), .t (.faddr 0 (.t 3)), none⟩,
  ⟨(some 10), .m (.load false 1 (.t 9)), none⟩,
  ⟨(some 11), .t (.len false (.t 10)), none⟩,
  ⟨(some 12), .t (.bin .neq (.t 8) (.t 11)), none⟩]
def F72o2 : List AOper := [
  ⟨(some 4), .t (.mv (.c (.bool false))), none⟩]
def F72o3 : List AOper := [
  ⟨(some 5), .t (.mv (.c (.int .i64 0))), none⟩]
def F72o4 : List AOper := [
  ⟨(some 13), .t (.mv (.t 5)), none⟩,
  ⟨(some 14), .t (.faddr 0 (.t 2)), none⟩,
  ⟨(some 15), .m (.load false 1 (.t 14)), none⟩,
  ⟨(some 16), .t (.len false (.t 15)), none⟩,
  ⟨(some 17), .t (.bin .lss (.t 13) (.t 16)), none⟩]
def F72o5 : List AOper := [
  ⟨(some 20), .t (.faddr 0 (.t 2)), none⟩,
  ⟨(some 21), .m (.load false 1 (.t 20)), none⟩,
  ⟨(some 22), .t (.mv (.t 5)), none⟩,
  ⟨(some 23), .t (.iaddr 6 (.t 21) (.t 22)), none⟩,
  ⟨(some 24), .t (.faddr 0 (.t 23)), none⟩,
  ⟨(some 25), .m (.load false 1 (.t 24)), none⟩,
  ⟨(some 26), .t (.faddr 0 (.t 3)), none⟩,
  ⟨(some 27), .m (.load false 1 (.t 26)), none⟩,
  ⟨(some 28), .t (.mv (.t 5)), none⟩,
  ⟨(some 29), .t (.iaddr 6 (.t 27) (.t 28)), none⟩,
  ⟨(some 30), .t (.faddr 0 (.t 29)), none⟩,
  ⟨(some 31), .m (.load false 1 (.t 30)), none⟩,
  ⟨(some 32), .t (.bin .neq (.t 25) (.t 31)), none⟩,
  ⟨(some 33), .t (.mv (.t 32)), none⟩,
  ⟨(some 34), .t (.faddr 0 (.t 2)), (some (33, false))⟩,
  ⟨(some 35), .m (.load false 1 (.t 34)), (some (33, false))⟩,
  ⟨(some 36), .t (.mv (.t 5)), (some (33, false))⟩,
  ⟨(some 37), .t (.iaddr 6 (.t 35) (.t 36)), (some (33, false))⟩,
  ⟨(some 38), .t (.faddr 1 (.t 37)), (some (33, false))⟩,
  ⟨(some 39), .m (.load true 5 (.t 38)), (some (33, false))⟩,
  ⟨(some 40), .t (.faddr 0 (.t 3)), (some (33, false))⟩,
  ⟨(some 41), .m (.load false 1 (.t 40)), (some (33, false))⟩,
  ⟨(some 42), .t (.mv (.t 5)), (some (33, false))⟩,
  ⟨(some 43), .t (.iaddr 6 (.t 41) (.t 42)), (some (33, false))⟩,
  ⟨(some 44), .t (.faddr 1 (.t 43)), (some (33, false))⟩,
  ⟨(some 45), .m (.load true 5 (.t 44)), (some (33, false))⟩]
def F72p5 : List AOper := [
  ⟨(some 46), .call (.c (.clo 101 [] [])) [(.t 39), (.t 45)], (some (33, false))⟩,
  ⟨(some 47), .t (.not (.t 46)), (some (33, false))⟩,
  ⟨(some 48), .t (.pick (.t 33) (.c (.bool true)) (.t 47)), none⟩]
def F72A5 : List (List Nat) := [[], [0], [], [1, 2, 0], [3, 1, 2, 0], [4, 3, 1, 2, 0], [], [6], [], [7, 8, 6], [9, 7, 8, 6], [10, 9, 7, 8, 6], [5, 11, 4, 3, 1, 2, 0, 10, 9, 7, 8, 6], [12, 5, 11, 4, 3, 1, 2, 0, 10, 9, 7, 8, 6], [13, 12, 5, 11, 4, 3, 1, 2, 0, 10, 9, 7, 8, 6], [14, 13, 12, 5, 11, 4, 3, 1, 2, 0, 10, 9, 7, 8, 6], [13, 12, 5, 11, 4, 3, 1, 2, 0, 10, 9, 7, 8, 6], [15, 16, 14, 13, 12, 5, 11, 4, 3, 1, 2, 0, 10, 9, 7, 8, 6], [17, 15, 16, 14, 13, 12, 5, 11, 4, 3, 1, 2, 0, 10, 9, 7, 8, 6], [18, 17, 15, 16, 14, 13, 12, 5, 11, 4, 3, 1, 2, 0, 10, 9, 7, 8, 6], [13, 12, 5, 11, 4, 3, 1, 2, 0, 10, 9, 7, 8, 6], [20, 13, 12, 5, 11, 4, 3, 1, 2, 0, 10, 9, 7, 8, 6], [13, 12, 5, 11, 4, 3, 1, 2, 0, 10, 9, 7, 8, 6], [21, 22, 20, 13, 12, 5, 11, 4, 3, 1, 2, 0, 10, 9, 7, 8, 6], [23, 21, 22, 20, 13, 12, 5, 11, 4, 3, 1, 2, 0, 10, 9, 7, 8, 6], [24, 23, 21, 22, 20, 13, 12, 5, 11, 4, 3, 1, 2, 0, 10, 9, 7, 8, 6], [19, 25, 18, 17, 15, 16, 14, 24, 23, 21, 22, 20, 13, 12, 5, 11, 4, 3, 1, 2, 0, 10, 9, 7, 8, 6], [26, 19, 25, 18, 17, 15, 16, 14, 24, 23, 21, 22, 20, 13, 12, 5, 11, 4, 3, 1, 2, 0, 10, 9, 7, 8, 6], [27, 26, 19, 25, 18, 17, 15, 16, 14, 24, 23, 21, 22, 20, 13, 12, 5, 11, 4, 3, 1, 2, 0, 10, 9, 7, 8, 6]]
def F72o6 : List AOper := [
  ⟨(some 4), .t (.mv (.c (.bool false))), none⟩]
def F72o7 : List AOper := [
  ⟨(some 18), .t (.mv (.t 5)), none⟩,
  ⟨(some 19), .t (.bin .add (.t 18) (.c (.int .i64 1))), none⟩,
  ⟨(some 5), .t (.mv (.t 19)), none⟩]
def F72b8 : ACode :=
  (.seq ((.seq (.ops F72o4 [2, 3, 5, 17])
  (.cond (.t 17)
    (.skip)
    (.exit 0))))
  ((.seq (.block 1 ((.seq (.draw F72A5 F72o5 F72p5 [2, 3, 5, 48])
    (.cond (.t 48)
      ((.seq (.ops F72o6 [4])
       (.ret)))
      (.skip)))))
   (.ops F72o7 [2, 3, 5]))))
def F72o9 : List AOper := [
  ⟨(some 4), .t (.mv (.c (.bool true))), none⟩]
def F72c : ACode :=
  (.seq (.ops F72o0 [2, 3])
  ((.seq ((.seq (.ops F72o1 [2, 3, 12])
   (.cond (.t 12)
     ((.seq (.ops F72o2 [4])
      (.ret)))
     (.skip))))
   ((.seq ((.seq (.ops F72o3 [2, 3, 5])
    (.block 0 (.loop [2, 3, 5] F72b8))))
    ((.seq (.ops F72o9 [4])
     (.ret))))))))
def F72 : AFn := ⟨49, [.tmp 4], F72c⟩
theorem F72_ok : cFn Tryd.prog [2, 3] 72 = some F72 := by kernel_rfl

/- manifold/resolve.each[manifold/api.Step] -/
def F74o0 : List AOper := [
  ⟨(some 4), .t (.mv (.c .nils)), none⟩]
def F74o1 : List AOper := [
  ⟨(some 5), .t (.mv (.c .nils)), none⟩]
def F74o2 : List AOper := [
  ⟨(some 8), .t (.mv (.t 0)), none⟩,
  ⟨(some 9), .t (.len false (.t 8)), none⟩,
  ⟨(some 10), .t (.mv (.c (.int .i64 0))), none⟩]
def F74o3 : List AOper := [
  ⟨(some 11), .t (.bin .lss (.t 10) (.t 9)), none⟩]
def F74o4 : List AOper := [
  ⟨(some 12), .t (.iaddr 11 (.t 8) (.t 10)), none⟩,
  ⟨(some 13), .m (.load true 11 (.t 12)), none⟩,
  ⟨(some 7), .m (.alloc 32 [(.str []), (.int .i64 0), (.int .i64 0), (.int .i64 0), (.int .i64 0), (.str []), (.str []), .nils, .nils, .nils, .nils]), none⟩,
  ⟨none, .m (.store 11 (.t 7) (.t 13)), none⟩]
def F74o5 : List AOper := [
  ⟨(some 14), .t (.mv (.t 5)), none⟩,
  ⟨(some 15), .t (.mv (.t 1)), none⟩,
  ⟨(some 16), .m (.load true 11 (.t 7)), none⟩,
  ⟨(some 17), .call (.t 15) [(.t 16)], none⟩,
  ⟨(some 18), .m (.bslice false 32 11 1 [(.t 17)]), none⟩,
  ⟨(some 19), .m (.append false 32 11 176 (.t 14) (.t 18)), none⟩,
  ⟨(some 5), .t (.mv (.t 19)), none⟩]
def F74o6 : List AOper := [
  ⟨(some 20), .t (.bin .add (.t 10) (.c (.int .i64 1))), none⟩,
  ⟨(some 10), .t (.mv (.t 20)), none⟩]
def F74b7 : ACode :=
  (.seq (.ops F74o3 [1, 5, 8, 9, 10, 11])
  ((.seq (.cond (.t 11)
    (.skip)
    (.exit 0))
   ((.seq (.block 1 ((.seq (.ops F74o4 [1, 5, 7, 8, 9, 10])
     (.ops F74o5 [1, 5, 8, 9, 10]))))
    (.ops F74o6 [1, 5, 8, 9, 10]))))))
def F74o8 : List AOper := [
  ⟨(some 21), .t (.mv (.t 5)), none⟩,
  ⟨(some 4), .t (.mv (.t 21)), none⟩]
def F74c : ACode :=
  (.seq (.ops F74o0 [0, 1])
  ((.seq (.ops F74o1 [0, 1, 5])
   ((.seq ((.seq (.ops F74o2 [1, 5, 8, 9, 10])
    (.block 0 (.loop [1, 5, 8, 9, 10] F74b7))))
    ((.seq (.ops F74o8 [4])
     (.ret))))))))
def F74 : AFn := ⟨22, [.tmp 4], F74c⟩
theorem F74_ok : cFn Tryd.prog [] 74 = some F74 := by kernel_rfl

/- manifold/resolve.visit -/
def F75o0 : List AOper := [
  ⟨(some 3), .m (.box 129 (.t 1)), none⟩]
def F75o1 : List AOper := [
  ⟨(some 4), .m (.alloc 35 [.nils]), none⟩]
def F75o2 : List AOper := [
  ⟨(some 5), .m (.alloc 168 [.nilf]), none⟩]
def F75o3 : List AOper := [
  ⟨(some 6), .t (.clo 102 [] [(.t 4), (.t 3), (.t 5)]), none⟩,
  ⟨none, .m (.store 1 (.t 5) (.t 6)), none⟩]
def F75o4 : List AOper := [
  ⟨(some 7), .m (.load false 1 (.t 5)), none⟩,
  ⟨(some 8), .t (.mv (.t 0)), none⟩,
  ⟨(some 9), .call (.t 7) [(.t 8)], none⟩]
def F75c : ACode :=
  (.seq (.ops F75o0 [0, 3])
  ((.seq (.ops F75o1 [0, 3, 4])
   ((.seq (.ops F75o2 [0, 3, 4, 5])
    ((.seq (.ops F75o3 [0, 5])
     (.ops F75o4 []))))))))
def F75 : AFn := ⟨10, [], F75c⟩
theorem F75_ok : cFn Tryd.prog [] 75 = some F75 := by kernel_rfl

/- slices.IndexFunc[[]manifold/api.Branch,manifold/api.Branch] -/
def F79o0 : List AOper := [
  ⟨(some 4), .t (.mv (.c (.int .i64 0))), none⟩]
def F79o1 : List AOper := [
  ⟨(some 6), .t (.mv (.t 0)), none⟩,
  ⟨(some 7), .t (.len false (.t 6)), none⟩,
  ⟨(some 8), .t (.mv (.c (.int .i64 0))), none⟩]
def F79o2 : List AOper := [
  ⟨(some 9), .t (.bin .lss (.t 8) (.t 7)), none⟩]
def F79o3 : List AOper := [
  ⟨(some 10), .t (.mv (.t 8)), none⟩,
  ⟨(some 5), .t (.mv (.t 10)), none⟩]
def F79o4 : List AOper := [
  ⟨(some 11), .t (.mv (.t 1)), none⟩,
  ⟨(some 12), .t (.mv (.t 0)), none⟩,
  ⟨(some 13), .t (.mv (.t 5)), none⟩,
  ⟨(some 14), .t (.iaddr 2 (.t 12) (.t 13)), none⟩,
  ⟨(some 15), .m (.load true 2 (.t 14)), none⟩,
  ⟨(some 16), .call (.t 11) [(.t 15)], none⟩]
def F79o5 : List AOper := [
  ⟨(some 17), .t (.mv (.t 5)), none⟩,
  ⟨(some 4), .t (.mv (.t 17)), none⟩]
def F79o6 : List AOper := [
  ⟨(some 18), .t (.bin .add (.t 8) (.c (.int .i64 1))), none⟩,
  ⟨(some 8), .t (.mv (.t 18)), none⟩]
def F79b7 : ACode :=
  (.seq (.ops F79o2 [0, 1, 7, 8, 9])
  ((.seq (.cond (.t 9)
    (.skip)
    (.exit 0))
   ((.seq (.block 1 ((.seq (.ops F79o3 [0, 1, 5, 7, 8])
     ((.seq (.ops F79o4 [0, 1, 5, 7, 8, 16])
      (.cond (.t 16)
        ((.seq (.ops F79o5 [4])
         (.ret)))
        (.skip)))))))
    (.ops F79o6 [0, 1, 7, 8]))))))
def F79o8 : List AOper := [
  ⟨(some 4), .t (.mv (.c (.int .i64 (-1)))), none⟩]
def F79c : ACode :=
  (.seq (.ops F79o0 [0, 1])
  ((.seq ((.seq (.ops F79o1 [0, 1, 7, 8])
   (.block 0 (.loop [0, 1, 7, 8] F79b7))))
   ((.seq (.ops F79o8 [4])
    (.ret))))))
def F79 : AFn := ⟨19, [.tmp 4], F79c⟩
theorem F79_ok : cFn Tryd.prog [] 79 = some F79 := by kernel_rfl

/- manifold/manifoldlaw07.ShortValue -/
def F81o0 : List AOper := [
  ⟨(some 2), .m (.box 137 (.t 0)), none⟩,
  ⟨(some 4), .m (.alloc 137 [(.int .i64 0), (.int .i64 0), (.int .i64 0), (.str []), .nils, .nils]), none⟩]
def F81o1 : List AOper := [
  ⟨(some 9), .t (.faddr 3 (.t 2)), none⟩,
  ⟨(some 10), .m (.load false 1 (.t 9)), none⟩,
  ⟨(some 11), .t (.faddr 3 (.t 2)), none⟩,
  ⟨(some 12), .m (.load false 1 (.t 11)), none⟩,
  ⟨(some 13), .t (.len true (.t 12)), none⟩,
  ⟨(some 14), .t (.imin (.t 13) (.c (.int .i64 40))), none⟩,
  ⟨(some 15), .t (.sliceS (.t 10) none (some (.t 14))), none⟩,
  ⟨(some 16), .t (.faddr 3 (.t 2)), none⟩,
  ⟨none, .m (.store 1 (.t 16) (.t 15)), none⟩]
def F81o2 : List AOper := [
  ⟨(some 5), .t (.mv (.c .nils)), none⟩]
def F81o3 : List AOper := [
  ⟨(some 6), .t (.mv (.c .nils)), none⟩]
def F81o4 : List AOper := [
  ⟨(some 7), .t (.mv (.c (.int .i64 0))), none⟩]
def F81o5 : List AOper := [
  ⟨(some 17), .t (.mv (.t 7)), none⟩,
  ⟨(some 18), .t (.faddr 4 (.t 2)), none⟩,
  ⟨(some 19), .m (.load false 1 (.t 18)), none⟩,
  ⟨(some 20), .t (.len false (.t 19)), none⟩,
  ⟨(some 21), .t (.bin .lss (.t 17) (.t 20)), none⟩,
  ⟨(some 22), .t (.mv (.t 21)), none⟩,
  ⟨(some 23), .t (.mv (.t 7)), (some (22, true))⟩,
  ⟨(some 24), .t (.bin .lss (.t 23) (.c (.int .i64 6))), (some (22, true))⟩,
  ⟨(some 25), .t (.pick (.t 22) (.t 24) (.c (.bool false))), none⟩,
  ⟨(some 26), .t (.mv (.t 25)), none⟩,
  ⟨(some 27), .t (.mv (.t 1)), (some (26, true))⟩,
  ⟨(some 28), .t (.bin .gtr (.t 27) (.c (.int .i64 1))), (some (26, true))⟩,
  ⟨(some 29), .t (.pick (.t 26) (.t 28) (.c (.bool false))), none⟩]
def F81o6 : List AOper := [
  ⟨(some 32), .t (.mv (.t 5)), none⟩,
  ⟨(some 33), .t (.faddr 4 (.t 2)), none⟩,
  ⟨(some 34), .m (.load false 1 (.t 33)), none⟩,
  ⟨(some 35), .t (.mv (.t 7)), none⟩,
  ⟨(some 36), .t (.iaddr 6 (.t 34) (.t 35)), none⟩,
  ⟨(some 37), .m (.load true 6 (.t 36)), none⟩,
  ⟨(some 38), .t (.mv (.t 1)), none⟩,
  ⟨(some 39), .t (.bin .sub (.t 38) (.c (.int .i64 1))), none⟩,
  ⟨(some 40), .call (.c (.clo 81 [] [])) [(.t 37), (.t 39)], none⟩,
  ⟨(some 41), .m (.bslice false 137 6 1 [(.t 40)]), none⟩,
  ⟨(some 42), .m (.append false 137 6 88 (.t 32) (.t 41)), none⟩,
  ⟨(some 5), .t (.mv (.t 42)), none⟩]
def F81o7 : List AOper := [
  ⟨(some 30), .t (.mv (.t 7)), none⟩,
  ⟨(some 31), .t (.bin .add (.t 30) (.c (.int .i64 1))), none⟩,
  ⟨(some 7), .t (.mv (.t 31)), none⟩]
def F81b8 : ACode :=
  (.seq ((.seq (.ops F81o5 [1, 2, 4, 5, 6, 7, 29])
  (.cond (.t 29)
    (.skip)
    (.exit 0))))
  ((.seq (.block 1 (.ops F81o6 [1, 2, 4, 5, 6, 7]))
   (.ops F81o7 [1, 2, 4, 5, 6, 7]))))
def F81o9 : List AOper := [
  ⟨(some 8), .t (.mv (.c (.int .i64 0))), none⟩]
def F81o10 : List AOper := [
  ⟨(some 43), .t (.mv (.t 8)), none⟩,
  ⟨(some 44), .t (.faddr 5 (.t 2)), none⟩,
  ⟨(some 45), .m (.load false 1 (.t 44)), none⟩,
  ⟨(some 46), .t (.len false (.t 45)), none⟩,
  ⟨(some 47), .t (.bin .lss (.t 43) (.t 46)), none⟩,
  ⟨(some 48), .t (.mv (.t 47)), none⟩,
  ⟨(some 49), .t (.mv (.t 8)), (some (48, true))⟩,
  ⟨(some 50), .t (.bin .lss (.t 49) (.c (.int .i64 6))), (some (48, true))⟩,
  ⟨(some 51), .t (.pick (.t 48) (.t 50) (.c (.bool false))), none⟩,
  ⟨(some 52), .t (.mv (.t 51)), none⟩,
  ⟨(some 53), .t (.mv (.t 1)), (some (52, true))⟩,
  ⟨(some 54), .t (.bin .gtr (.t 53) (.c (.int .i64 1))), (some (52, true))⟩,
  ⟨(some 55), .t (.pick (.t 52) (.t 54) (.c (.bool false))), none⟩]
def F81o11 : List AOper := [
  ⟨(some 58), .t (.mv (.t 6)), none⟩,
  ⟨(some 59), .t (.faddr 5 (.t 2)), none⟩,
  ⟨(some 60), .m (.load false 1 (.t 59)), none⟩,
  ⟨(some 61), .t (.mv (.t 8)), none⟩,
  ⟨(some 62), .t (.iaddr 7 (.t 60) (.t 61)), none⟩,
  ⟨(some 63), .t (.faddr 0 (.t 62)), none⟩,
  ⟨(some 64), .m (.load false 1 (.t 63)), none⟩,
  ⟨(some 65), .t (.faddr 5 (.t 2)), none⟩,
  ⟨(some 66), .m (.load false 1 (.t 65)), none⟩,
  ⟨(some 67), .t (.mv (.t 8)), none⟩,
  ⟨(some 68), .t (.iaddr 7 (.t 66) (.t 67)), none⟩,
  ⟨(some 69), .t (.faddr 0 (.t 68)), none⟩,
  ⟨(some 70), .m (.load false 1 (.t 69)), none⟩,
  ⟨(some 71), .t (.len true (.t 70)), none⟩,
  ⟨(some 72), .t (.imin (.t 71) (.c (.int .i64 40))), none⟩,
  ⟨(some 73), .t (.sliceS (.t 64) none (some (.t 72))), none⟩,
  ⟨(some 74), .t (.faddr 5 (.t 2)), none⟩,
  ⟨(some 75), .m (.load false 1 (.t 74)), none⟩,
  ⟨(some 76), .t (.mv (.t 8)), none⟩,
  ⟨(some 77), .t (.iaddr 7 (.t 75) (.t 76)), none⟩,
  ⟨(some 78), .t (.faddr 1 (.t 77)), none⟩,
  ⟨(some 79), .m (.load true 6 (.t 78)), none⟩,
  ⟨(some 80), .t (.mv (.t 1)), none⟩,
  ⟨(some 81), .t (.bin .sub (.t 80) (.c (.int .i64 1))), none⟩,
  ⟨(some 82), .call (.c (.clo 81 [] [])) [(.t 79), (.t 81)], none⟩,
  ⟨(some 83), .t (.build [(.str []), (.int .i64 0), (.int .i64 0), (.int .i64 0), (.str []), .nils, .nils] [(0, 1, (.t 73)), (1, 6, (.t 82))]), none⟩,
  ⟨(some 84), .m (.bslice false 170 7 1 [(.t 83)]), none⟩]
def F81p11 : List AOper := [
  ⟨(some 85), .m (.append false 170 7 104 (.t 58) (.t 84)), none⟩,
  ⟨(some 6), .t (.mv (.t 85)), none⟩]
def F81A11 : List (List Nat) := [[], [], [1], [], [2, 3, 1], [4, 2, 3, 1], [5, 4, 2, 3, 1], [], [7], [], [8, 9, 7], [10, 8, 9, 7], [11, 10, 8, 9, 7], [12, 11, 10, 8, 9, 7], [13, 12, 11, 10, 8, 9, 7], [6, 14, 5, 4, 2, 3, 1, 13, 12, 11, 10, 8, 9, 7], [], [16], [], [17, 18, 16], [19, 17, 18, 16], [20, 19, 17, 18, 16], [], [22], [21, 23, 20, 19, 17, 18, 16, 22], [15, 24, 6, 14, 5, 4, 2, 3, 1, 13, 12, 11, 10, 8, 9, 7, 21, 23, 20, 19, 17, 18, 16, 22], [25, 15, 24, 6, 14, 5, 4, 2, 3, 1, 13, 12, 11, 10, 8, 9, 7, 21, 23, 20, 19, 17, 18, 16, 22], [0, 26, 25, 15, 24, 6, 14, 5, 4, 2, 3, 1, 13, 12, 11, 10, 8, 9, 7, 21, 23, 20, 19, 17, 18, 16, 22], [27, 0, 26, 25, 15, 24, 6, 14, 5, 4, 2, 3, 1, 13, 12, 11, 10, 8, 9, 7, 21, 23, 20, 19, 17, 18, 16, 22]]
def F81o12 : List AOper := [
  ⟨(some 56), .t (.mv (.t 8)), none⟩,
  ⟨(some 57), .t (.bin .add (.t 56) (.c (.int .i64 1))), none⟩,
  ⟨(some 8), .t (.mv (.t 57)), none⟩]
def F81b13 : ACode :=
  (.seq ((.seq (.ops F81o10 [1, 2, 4, 5, 6, 8, 55])
  (.cond (.t 55)
    (.skip)
    (.exit 2))))
  ((.seq (.block 3 (.draw F81A11 F81o11 F81p11 [1, 2, 4, 5, 6, 8]))
   (.ops F81o12 [1, 2, 4, 5, 6, 8]))))
def F81o14 : List AOper := [
  ⟨(some 86), .t (.mv (.t 5)), none⟩,
  ⟨(some 87), .t (.mv (.t 6)), none⟩,
  ⟨(some 88), .t (.faddr 4 (.t 2)), none⟩,
  ⟨none, .m (.store 1 (.t 88) (.t 86)), none⟩,
  ⟨(some 89), .t (.faddr 5 (.t 2)), none⟩,
  ⟨none, .m (.store 1 (.t 89) (.t 87)), none⟩]
def F81o15 : List AOper := [
  ⟨(some 90), .m (.load true 6 (.t 2)), none⟩,
  ⟨none, .m (.store 6 (.t 4) (.t 90)), none⟩]
def F81c : ACode :=
  (.seq (.ops F81o0 [1, 2, 4])
  ((.seq (.ops F81o1 [1, 2, 4])
   ((.seq (.ops F81o2 [1, 2, 4, 5])
    ((.seq (.ops F81o3 [1, 2, 4, 5, 6])
     ((.seq ((.seq (.ops F81o4 [1, 2, 4, 5, 6, 7])
      (.block 0 (.loop [1, 2, 4, 5, 6, 7] F81b8))))
      ((.seq ((.seq (.ops F81o9 [1, 2, 4, 5, 6, 8])
       (.block 2 (.loop [1, 2, 4, 5, 6, 8] F81b13))))
       ((.seq (.ops F81o14 [2, 4])
        ((.seq (.ops F81o15 [4])
         (.ret))))))))))))))))
def F81 : AFn := ⟨91, [.cell 4 true 6], F81c⟩
theorem F81_ok : cFn Tryd.prog [] 81 = some F81 := by kernel_rfl

/- cmp.isNaN[int] -/
def F91o0 : List AOper := [
  ⟨(some 2), .t (.mv (.c (.bool false))), none⟩]
def F91o1 : List AOper := [
  ⟨(some 3), .t (.mv (.t 0)), none⟩,
  ⟨(some 4), .t (.mv (.t 0)), none⟩,
  ⟨(some 5), .t (.bin .neq (.t 3) (.t 4)), none⟩,
  ⟨(some 2), .t (.mv (.t 5)), none⟩]
def F91c : ACode :=
  (.seq (.ops F91o0 [0])
  ((.seq (.ops F91o1 [2])
   (.ret))))
def F91 : AFn := ⟨6, [.tmp 2], F91c⟩
theorem F91_ok : cFn Tryd.prog [] 91 = some F91 := by kernel_rfl

/- manifold/resolve.walk$1 -/
def F92o0 : List AOper := [
  ⟨(some 6), .m (.load false 1 (.t 2)), none⟩,
  ⟨(some 7), .m (.load false 1 (.t 3)), none⟩,
  ⟨(some 8), .t (.mv (.t 0)), none⟩,
  ⟨(some 9), .call (.c (.clo 93 [] [])) [(.t 8)], none⟩,
  ⟨(some 10), .t (.mv (.t 1)), none⟩,
  ⟨(some 11), .t (.nilck (.t 10)), none⟩,
  ⟨(some 12), .m (.load true 11 (.t 11)), none⟩,
  ⟨(some 13), .call (.c (.clo 70 [] [])) [(.t 12)], none⟩,
  ⟨(some 14), .t (.build [(.int .i64 0), .nils, (.str []), (.int .i64 0), (.int .i64 0), (.int .i64 0), (.int .i64 0), (.str []), (.str []), .nils, .nils, .nils, .nils] [(0, 1, (.t 7)), (1, 1, (.t 9)), (2, 11, (.t 13))]), none⟩,
  ⟨(some 15), .m (.bslice false 79 13 1 [(.t 14)]), none⟩]
def F92p0 : List AOper := [
  ⟨(some 16), .m (.append false 79 13 208 (.t 6) (.t 15)), none⟩,
  ⟨none, .m (.store 1 (.t 2) (.t 16)), none⟩]
def F92A0 : List (List Nat) := [[], [], [], [2], [], [4], [5, 4], [6, 3, 5, 4, 2], [1, 7, 6, 3, 5, 4, 2], [8, 1, 7, 6, 3, 5, 4, 2], [0, 9, 8, 1, 7, 6, 3, 5, 4, 2], [10, 0, 9, 8, 1, 7, 6, 3, 5, 4, 2]]
def F92c : ACode :=
  .draw F92A0 F92o0 F92p0 []
def F92 : AFn := ⟨17, [], F92c⟩
theorem F92_ok : cFn Tryd.prog [] 92 = some F92 := by kernel_rfl

/- slices.Clone[[]int,int] -/
def F93o0 : List AOper := [
  ⟨(some 2), .t (.mv (.c .nils)), none⟩]
def F93o1 : List AOper := [
  ⟨(some 3), .t (.mv (.t 0)), none⟩,
  ⟨(some 4), .t (.beq 2 false (.t 3) (.c .nils)), none⟩]
def F93o2 : List AOper := [
  ⟨(some 2), .t (.mv (.c .nils)), none⟩]
def F93o3 : List AOper := [
  ⟨(some 5), .m (.bslice false 3 1 0 []), none⟩,
  ⟨(some 6), .t (.mv (.t 0)), none⟩,
  ⟨(some 7), .m (.append false 3 1 8 (.t 5) (.t 6)), none⟩,
  ⟨(some 2), .t (.mv (.t 7)), none⟩]
def F93c : ACode :=
  (.seq (.ops F93o0 [0])
  ((.seq ((.seq (.ops F93o1 [0, 4])
   (.cond (.t 4)
     ((.seq (.ops F93o2 [2])
      (.ret)))
     (.skip))))
   ((.seq (.ops F93o3 [2])
    (.ret))))))
def F93 : AFn := ⟨8, [.tmp 2], F93c⟩
theorem F93_ok : cFn Tryd.prog [] 93 = some F93 := by kernel_rfl

/- manifold/resolve.each[manifold/api.Expr] -/
def F94o0 : List AOper := [
  ⟨(some 4), .t (.mv (.c .nils)), none⟩]
def F94o1 : List AOper := [
  ⟨(some 5), .t (.mv (.c .nils)), none⟩]
def F94o2 : List AOper := [
  ⟨(some 8), .t (.mv (.t 0)), none⟩,
  ⟨(some 9), .t (.len false (.t 8)), none⟩,
  ⟨(some 10), .t (.mv (.c (.int .i64 0))), none⟩]
def F94o3 : List AOper := [
  ⟨(some 11), .t (.bin .lss (.t 10) (.t 9)), none⟩]
def F94o4 : List AOper := [
  ⟨(some 12), .t (.iaddr 5 (.t 8) (.t 10)), none⟩,
  ⟨(some 13), .m (.load true 5 (.t 12)), none⟩,
  ⟨(some 7), .m (.alloc 158 [(.int .i64 0), (.int .i64 0), (.str []), .nils, .nils]), none⟩,
  ⟨none, .m (.store 5 (.t 7) (.t 13)), none⟩]
def F94o5 : List AOper := [
  ⟨(some 14), .t (.mv (.t 5)), none⟩,
  ⟨(some 15), .t (.mv (.t 1)), none⟩,
  ⟨(some 16), .m (.load true 5 (.t 7)), none⟩,
  ⟨(some 17), .call (.t 15) [(.t 16)], none⟩,
  ⟨(some 18), .m (.bslice false 158 5 1 [(.t 17)]), none⟩,
  ⟨(some 19), .m (.append false 158 5 80 (.t 14) (.t 18)), none⟩,
  ⟨(some 5), .t (.mv (.t 19)), none⟩]
def F94o6 : List AOper := [
  ⟨(some 20), .t (.bin .add (.t 10) (.c (.int .i64 1))), none⟩,
  ⟨(some 10), .t (.mv (.t 20)), none⟩]
def F94b7 : ACode :=
  (.seq (.ops F94o3 [1, 5, 8, 9, 10, 11])
  ((.seq (.cond (.t 11)
    (.skip)
    (.exit 0))
   ((.seq (.block 1 ((.seq (.ops F94o4 [1, 5, 7, 8, 9, 10])
     (.ops F94o5 [1, 5, 8, 9, 10]))))
    (.ops F94o6 [1, 5, 8, 9, 10]))))))
def F94o8 : List AOper := [
  ⟨(some 21), .t (.mv (.t 5)), none⟩,
  ⟨(some 4), .t (.mv (.t 21)), none⟩]
def F94c : ACode :=
  (.seq (.ops F94o0 [0, 1])
  ((.seq (.ops F94o1 [0, 1, 5])
   ((.seq ((.seq (.ops F94o2 [1, 5, 8, 9, 10])
    (.block 0 (.loop [1, 5, 8, 9, 10] F94b7))))
    ((.seq (.ops F94o8 [4])
     (.ret))))))))
def F94 : AFn := ⟨22, [.tmp 4], F94c⟩
theorem F94_ok : cFn Tryd.prog [] 94 = some F94 := by kernel_rfl

/- manifold/expr.Clone -/
def F95o0 : List AOper := [
  ⟨(some 1), .m (.cbox 158 (.t 0)), none⟩,
  ⟨(some 2), .m (.alloc 158 [(.int .i64 0), (.int .i64 0), (.str []), .nils, .nils]), none⟩]
def F95o1 : List AOper := [
  ⟨(some 8), .t (.faddr 0 (.t 1)), none⟩,
  ⟨(some 9), .m (.load false 1 (.t 8)), none⟩,
  ⟨(some 10), .t (.faddr 1 (.t 1)), none⟩,
  ⟨(some 11), .m (.load false 1 (.t 10)), none⟩,
  ⟨(some 12), .t (.faddr 2 (.t 1)), none⟩,
  ⟨(some 13), .m (.load false 1 (.t 12)), none⟩,
  ⟨(some 14), .t (.build [(.int .i64 0), (.int .i64 0), (.str []), .nils, .nils] [(0, 1, (.t 9)), (1, 1, (.t 11)), (2, 1, (.t 13))]), none⟩,
  ⟨(some 3), .m (.alloc 158 [(.int .i64 0), (.int .i64 0), (.str []), .nils, .nils]), none⟩,
  ⟨none, .m (.store 5 (.t 3) (.t 14)), none⟩]
def F95o2 : List AOper := [
  ⟨(some 15), .t (.faddr 3 (.t 1)), none⟩,
  ⟨(some 16), .m (.load false 1 (.t 15)), none⟩,
  ⟨(some 17), .t (.len false (.t 16)), none⟩,
  ⟨(some 18), .t (.mv (.c (.int .i64 0))), none⟩]
def F95o3 : List AOper := [
  ⟨(some 19), .t (.bin .lss (.t 18) (.t 17)), none⟩]
def F95o4 : List AOper := [
  ⟨(some 20), .t (.iaddr 6 (.t 16) (.t 18)), none⟩,
  ⟨(some 21), .m (.load true 6 (.t 20)), none⟩,
  ⟨(some 5), .m (.alloc 137 [(.int .i64 0), (.int .i64 0), (.int .i64 0), (.str []), .nils, .nils]), none⟩,
  ⟨none, .m (.store 6 (.t 5) (.t 21)), none⟩]
def F95o5 : List AOper := [
  ⟨(some 22), .t (.faddr 3 (.t 3)), none⟩,
  ⟨(some 23), .m (.load false 1 (.t 22)), none⟩,
  ⟨(some 24), .m (.load true 6 (.t 5)), none⟩,
  ⟨(some 25), .call (.c (.clo 107 [] [])) [(.t 24)], none⟩,
  ⟨(some 26), .m (.bslice false 137 6 1 [(.t 25)]), none⟩]
def F95p5 : List AOper := [
  ⟨(some 27), .m (.append false 137 6 88 (.t 23) (.t 26)), none⟩,
  ⟨(some 28), .t (.faddr 3 (.t 3)), none⟩,
  ⟨none, .m (.store 1 (.t 28) (.t 27)), none⟩]
def F95A5 : List (List Nat) := [[], [0], [], [2], [3, 2], [1, 4, 0, 3, 2], [5, 1, 4, 0, 3, 2], [6, 5, 1, 4, 0, 3, 2]]
def F95o6 : List AOper := [
  ⟨(some 29), .t (.bin .add (.t 18) (.c (.int .i64 1))), none⟩,
  ⟨(some 18), .t (.mv (.t 29)), none⟩]
def F95b7 : ACode :=
  (.seq (.ops F95o3 [1, 2, 3, 16, 17, 18, 19])
  ((.seq (.cond (.t 19)
    (.skip)
    (.exit 0))
   ((.seq (.block 1 ((.seq (.ops F95o4 [1, 2, 3, 5, 16, 17, 18])
     (.draw F95A5 F95o5 F95p5 [1, 2, 3, 16, 17, 18]))))
    (.ops F95o6 [1, 2, 3, 16, 17, 18]))))))
def F95o8 : List AOper := [
  ⟨(some 30), .t (.faddr 4 (.t 1)), none⟩,
  ⟨(some 31), .m (.load false 1 (.t 30)), none⟩,
  ⟨(some 32), .t (.len false (.t 31)), none⟩,
  ⟨(some 33), .t (.mv (.c (.int .i64 0))), none⟩]
def F95o9 : List AOper := [
  ⟨(some 34), .t (.bin .lss (.t 33) (.t 32)), none⟩]
def F95o10 : List AOper := [
  ⟨(some 35), .t (.iaddr 5 (.t 31) (.t 33)), none⟩,
  ⟨(some 36), .m (.load true 5 (.t 35)), none⟩,
  ⟨(some 7), .m (.alloc 158 [(.int .i64 0), (.int .i64 0), (.str []), .nils, .nils]), none⟩,
  ⟨none, .m (.store 5 (.t 7) (.t 36)), none⟩]
def F95o11 : List AOper := [
  ⟨(some 37), .t (.faddr 4 (.t 3)), none⟩,
  ⟨(some 38), .m (.load false 1 (.t 37)), none⟩,
  ⟨(some 39), .m (.load true 5 (.t 7)), none⟩,
  ⟨(some 40), .call (.c (.clo 95 [] [])) [(.t 39)], none⟩,
  ⟨(some 41), .m (.bslice false 158 5 1 [(.t 40)]), none⟩]
def F95p11 : List AOper := [
  ⟨(some 42), .m (.append false 158 5 80 (.t 38) (.t 41)), none⟩,
  ⟨(some 43), .t (.faddr 4 (.t 3)), none⟩,
  ⟨none, .m (.store 1 (.t 43) (.t 42)), none⟩]
def F95A11 : List (List Nat) := [[], [0], [], [2], [3, 2], [1, 4, 0, 3, 2], [5, 1, 4, 0, 3, 2], [6, 5, 1, 4, 0, 3, 2]]
def F95o12 : List AOper := [
  ⟨(some 44), .t (.bin .add (.t 33) (.c (.int .i64 1))), none⟩,
  ⟨(some 33), .t (.mv (.t 44)), none⟩]
def F95b13 : ACode :=
  (.seq (.ops F95o9 [2, 3, 31, 32, 33, 34])
  ((.seq (.cond (.t 34)
    (.skip)
    (.exit 2))
   ((.seq (.block 3 ((.seq (.ops F95o10 [2, 3, 7, 31, 32, 33])
     (.draw F95A11 F95o11 F95p11 [2, 3, 31, 32, 33]))))
    (.ops F95o12 [2, 3, 31, 32, 33]))))))
def F95o14 : List AOper := [
  ⟨(some 45), .m (.load true 5 (.t 3)), none⟩,
  ⟨none, .m (.store 5 (.t 2) (.t 45)), none⟩]
def F95c : ACode :=
  (.seq (.ops F95o0 [1, 2])
  ((.seq (.ops F95o1 [1, 2, 3])
   ((.seq ((.seq (.ops F95o2 [1, 2, 3, 16, 17, 18])
    (.block 0 (.loop [1, 2, 3, 16, 17, 18] F95b7))))
    ((.seq ((.seq (.ops F95o8 [2, 3, 31, 32, 33])
     (.block 2 (.loop [2, 3, 31, 32, 33] F95b13))))
     ((.seq (.ops F95o14 [2])
      (.ret))))))))))
def F95 : AFn := ⟨46, [.cell 2 true 5], F95c⟩
theorem F95_ok : cFn Tryd.prog [1] 95 = some F95 := by kernel_rfl

/- manifold/mapping.Clone -/
def F96o0 : List AOper := [
  ⟨(some 1), .m (.cbox 28 (.t 0)), none⟩,
  ⟨(some 2), .m (.alloc 28 [.nils]), none⟩]
def F96o1 : List AOper := [
  ⟨(some 6), .t (.faddr 0 (.t 1)), none⟩,
  ⟨(some 7), .m (.load false 1 (.t 6)), none⟩,
  ⟨(some 8), .t (.len false (.t 7)), none⟩,
  ⟨(some 9), .m (.mk false 167 6 96 [(.str []), (.int .i64 0), (.int .i64 0), (.str []), .nils, .nils] (.c (.int .i64 0)) (.t 8)), none⟩,
  ⟨(some 3), .t (.mv (.t 9)), none⟩]
def F96o2 : List AOper := [
  ⟨(some 10), .t (.faddr 0 (.t 1)), none⟩,
  ⟨(some 11), .m (.load false 1 (.t 10)), none⟩,
  ⟨(some 12), .t (.len false (.t 11)), none⟩,
  ⟨(some 13), .t (.mv (.c (.int .i64 0))), none⟩]
def F96o3 : List AOper := [
  ⟨(some 14), .t (.bin .lss (.t 13) (.t 12)), none⟩]
def F96o4 : List AOper := [
  ⟨(some 15), .t (.iaddr 6 (.t 11) (.t 13)), none⟩,
  ⟨(some 16), .m (.load true 6 (.t 15)), none⟩,
  ⟨(some 5), .m (.alloc 167 [(.str []), (.int .i64 0), (.int .i64 0), (.str []), .nils, .nils]), none⟩,
  ⟨none, .m (.store 6 (.t 5) (.t 16)), none⟩]
def F96o5 : List AOper := [
  ⟨(some 17), .t (.mv (.t 3)), none⟩,
  ⟨(some 18), .t (.faddr 0 (.t 5)), none⟩,
  ⟨(some 19), .m (.load false 1 (.t 18)), none⟩,
  ⟨(some 20), .t (.faddr 1 (.t 5)), none⟩,
  ⟨(some 21), .m (.load true 5 (.t 20)), none⟩,
  ⟨(some 22), .call (.c (.clo 95 [] [])) [(.t 21)], none⟩,
  ⟨(some 23), .t (.build [(.str []), (.int .i64 0), (.int .i64 0), (.str []), .nils, .nils] [(0, 1, (.t 19)), (1, 5, (.t 22))]), none⟩,
  ⟨(some 24), .m (.bslice false 167 6 1 [(.t 23)]), none⟩]
def F96p5 : List AOper := [
  ⟨(some 25), .m (.append false 167 6 96 (.t 17) (.t 24)), none⟩,
  ⟨(some 3), .t (.mv (.t 25)), none⟩]
def F96A5 : List (List Nat) := [[], [], [1], [], [3], [4, 3], [2, 5, 1, 4, 3], [6, 2, 5, 1, 4, 3], [0, 7, 6, 2, 5, 1, 4, 3], [8, 0, 7, 6, 2, 5, 1, 4, 3]]
def F96o6 : List AOper := [
  ⟨(some 26), .t (.bin .add (.t 13) (.c (.int .i64 1))), none⟩,
  ⟨(some 13), .t (.mv (.t 26)), none⟩]
def F96b7 : ACode :=
  (.seq (.ops F96o3 [2, 3, 11, 12, 13, 14])
  ((.seq (.cond (.t 14)
    (.skip)
    (.exit 0))
   ((.seq (.block 1 ((.seq (.ops F96o4 [2, 3, 5, 11, 12, 13])
     (.draw F96A5 F96o5 F96p5 [2, 3, 11, 12, 13]))))
    (.ops F96o6 [2, 3, 11, 12, 13]))))))
def F96o8 : List AOper := [
  ⟨(some 27), .t (.mv (.t 3)), none⟩,
  ⟨(some 28), .t (.build [.nils] [(0, 1, (.t 27))]), none⟩,
  ⟨none, .m (.store 1 (.t 2) (.t 28)), none⟩]
def F96c : ACode :=
  (.seq (.ops F96o0 [1, 2])
  ((.seq (.ops F96o1 [1, 2, 3])
   ((.seq ((.seq (.ops F96o2 [2, 3, 11, 12, 13])
    (.block 0 (.loop [2, 3, 11, 12, 13] F96b7))))
    ((.seq (.ops F96o8 [2])
     (.ret))))))))
def F96 : AFn := ⟨29, [.cell 2 true 1], F96c⟩
theorem F96_ok : cFn Tryd.prog [1] 96 = some F96 := by kernel_rfl

/- manifold/resolve.each[manifold/api.Call] -/
def F97o0 : List AOper := [
  ⟨(some 4), .t (.mv (.c .nils)), none⟩]
def F97o1 : List AOper := [
  ⟨(some 5), .t (.mv (.c .nils)), none⟩]
def F97o2 : List AOper := [
  ⟨(some 8), .t (.mv (.t 0)), none⟩,
  ⟨(some 9), .t (.len false (.t 8)), none⟩,
  ⟨(some 10), .t (.mv (.c (.int .i64 0))), none⟩]
def F97o3 : List AOper := [
  ⟨(some 11), .t (.bin .lss (.t 10) (.t 9)), none⟩]
def F97o4 : List AOper := [
  ⟨(some 12), .t (.iaddr 2 (.t 8) (.t 10)), none⟩,
  ⟨(some 13), .m (.load true 2 (.t 12)), none⟩,
  ⟨(some 7), .m (.alloc 87 [(.str []), .nils]), none⟩,
  ⟨none, .m (.store 2 (.t 7) (.t 13)), none⟩]
def F97o5 : List AOper := [
  ⟨(some 14), .t (.mv (.t 5)), none⟩,
  ⟨(some 15), .t (.mv (.t 1)), none⟩,
  ⟨(some 16), .m (.load true 2 (.t 7)), none⟩,
  ⟨(some 17), .call (.t 15) [(.t 16)], none⟩,
  ⟨(some 18), .m (.bslice false 87 2 1 [(.t 17)]), none⟩,
  ⟨(some 19), .m (.append false 87 2 40 (.t 14) (.t 18)), none⟩,
  ⟨(some 5), .t (.mv (.t 19)), none⟩]
def F97o6 : List AOper := [
  ⟨(some 20), .t (.bin .add (.t 10) (.c (.int .i64 1))), none⟩,
  ⟨(some 10), .t (.mv (.t 20)), none⟩]
def F97b7 : ACode :=
  (.seq (.ops F97o3 [1, 5, 8, 9, 10, 11])
  ((.seq (.cond (.t 11)
    (.skip)
    (.exit 0))
   ((.seq (.block 1 ((.seq (.ops F97o4 [1, 5, 7, 8, 9, 10])
     (.ops F97o5 [1, 5, 8, 9, 10]))))
    (.ops F97o6 [1, 5, 8, 9, 10]))))))
def F97o8 : List AOper := [
  ⟨(some 21), .t (.mv (.t 5)), none⟩,
  ⟨(some 4), .t (.mv (.t 21)), none⟩]
def F97c : ACode :=
  (.seq (.ops F97o0 [0, 1])
  ((.seq (.ops F97o1 [0, 1, 5])
   ((.seq ((.seq (.ops F97o2 [1, 5, 8, 9, 10])
    (.block 0 (.loop [1, 5, 8, 9, 10] F97b7))))
    ((.seq (.ops F97o8 [4])
     (.ret))))))))
def F97 : AFn := ⟨22, [.tmp 4], F97c⟩
theorem F97_ok : cFn Tryd.prog [] 97 = some F97 := by kernel_rfl

/- manifold/resolve.cloned$1 -/
def F98o0 : List AOper := [
  ⟨(some 1), .m (.box 87 (.t 0)), none⟩,
  ⟨(some 2), .m (.alloc 87 [(.str []), .nils]), none⟩]
def F98o1 : List AOper := [
  ⟨(some 3), .t (.faddr 1 (.t 1)), none⟩,
  ⟨(some 4), .m (.load true 1 (.t 3)), none⟩,
  ⟨(some 5), .call (.c (.clo 96 [] [])) [(.t 4)], none⟩,
  ⟨(some 6), .t (.faddr 1 (.t 1)), none⟩,
  ⟨none, .m (.store 1 (.t 6) (.t 5)), none⟩]
def F98o2 : List AOper := [
  ⟨(some 7), .m (.load true 2 (.t 1)), none⟩,
  ⟨none, .m (.store 2 (.t 2) (.t 7)), none⟩]
def F98c : ACode :=
  (.seq (.ops F98o0 [1, 2])
  ((.seq (.ops F98o1 [1, 2])
   ((.seq (.ops F98o2 [2])
    (.ret))))))
def F98 : AFn := ⟨8, [.cell 2 true 2], F98c⟩
theorem F98_ok : cFn Tryd.prog [] 98 = some F98 := by kernel_rfl

/- manifold/resolve.each[manifold/api.Branch] -/
def F99o0 : List AOper := [
  ⟨(some 4), .t (.mv (.c .nils)), none⟩]
def F99o1 : List AOper := [
  ⟨(some 5), .t (.mv (.c .nils)), none⟩]
def F99o2 : List AOper := [
  ⟨(some 8), .t (.mv (.t 0)), none⟩,
  ⟨(some 9), .t (.len false (.t 8)), none⟩,
  ⟨(some 10), .t (.mv (.c (.int .i64 0))), none⟩]
def F99o3 : List AOper := [
  ⟨(some 11), .t (.bin .lss (.t 10) (.t 9)), none⟩]
def F99o4 : List AOper := [
  ⟨(some 12), .t (.iaddr 2 (.t 8) (.t 10)), none⟩,
  ⟨(some 13), .m (.load true 2 (.t 12)), none⟩,
  ⟨(some 7), .m (.alloc 89 [.nils, .nils]), none⟩,
  ⟨none, .m (.store 2 (.t 7) (.t 13)), none⟩]
def F99o5 : List AOper := [
  ⟨(some 14), .t (.mv (.t 5)), none⟩,
  ⟨(some 15), .t (.mv (.t 1)), none⟩,
  ⟨(some 16), .m (.load true 2 (.t 7)), none⟩,
  ⟨(some 17), .call (.t 15) [(.t 16)], none⟩,
  ⟨(some 18), .m (.bslice false 89 2 1 [(.t 17)]), none⟩,
  ⟨(some 19), .m (.append false 89 2 48 (.t 14) (.t 18)), none⟩,
  ⟨(some 5), .t (.mv (.t 19)), none⟩]
def F99o6 : List AOper := [
  ⟨(some 20), .t (.bin .add (.t 10) (.c (.int .i64 1))), none⟩,
  ⟨(some 10), .t (.mv (.t 20)), none⟩]
def F99b7 : ACode :=
  (.seq (.ops F99o3 [1, 5, 8, 9, 10, 11])
  ((.seq (.cond (.t 11)
    (.skip)
    (.exit 0))
   ((.seq (.block 1 ((.seq (.ops F99o4 [1, 5, 7, 8, 9, 10])
     (.ops F99o5 [1, 5, 8, 9, 10]))))
    (.ops F99o6 [1, 5, 8, 9, 10]))))))
def F99o8 : List AOper := [
  ⟨(some 21), .t (.mv (.t 5)), none⟩,
  ⟨(some 4), .t (.mv (.t 21)), none⟩]
def F99c : ACode :=
  (.seq (.ops F99o0 [0, 1])
  ((.seq (.ops F99o1 [0, 1, 5])
   ((.seq ((.seq (.ops F99o2 [1, 5, 8, 9, 10])
    (.block 0 (.loop [1, 5, 8, 9, 10] F99b7))))
    ((.seq (.ops F99o8 [4])
     (.ret))))))))
def F99 : AFn := ⟨22, [.tmp 4], F99c⟩
theorem F99_ok : cFn Tryd.prog [] 99 = some F99 := by kernel_rfl

/- manifold/resolve.cloned$2 -/
def F100o0 : List AOper := [
  ⟨(some 1), .m (.cbox 89 (.t 0)), none⟩,
  ⟨(some 2), .m (.alloc 89 [.nils, .nils]), none⟩]
def F100o1 : List AOper := [
  ⟨(some 3), .t (.faddr 0 (.t 1)), none⟩,
  ⟨(some 4), .m (.load false 1 (.t 3)), none⟩,
  ⟨(some 5), .call (.c (.clo 94 [] [])) [(.t 4), (.c (.clo 95 [] []))], none⟩,
  ⟨(some 6), .t (.faddr 1 (.t 1)), none⟩,
  ⟨(some 7), .m (.load false 1 (.t 6)), none⟩]
def F100p1 : List AOper := [
  ⟨(some 8), .call (.c (.clo 74 [] [])) [(.t 7), (.c (.clo 70 [] []))], none⟩,
  ⟨(some 9), .t (.build [.nils, .nils] [(0, 1, (.t 5)), (1, 1, (.t 8))]), none⟩,
  ⟨none, .m (.store 2 (.t 2) (.t 9)), none⟩]
def F100A1 : List (List Nat) := [[], [0], [1, 0], [], [3], [4, 2, 3, 1, 0], [5, 4, 2, 3, 1, 0], [6, 5, 4, 2, 3, 1, 0]]
def F100c : ACode :=
  (.seq (.ops F100o0 [1, 2])
  ((.seq (.draw F100A1 F100o1 F100p1 [2])
   (.ret))))
def F100 : AFn := ⟨10, [.cell 2 true 2], F100c⟩
theorem F100_ok : cFn Tryd.prog [1] 100 = some F100 := by kernel_rfl

/- manifold/expr.Equal -/
def F101o0 : List AOper := [
  ⟨(some 2), .m (.cbox 158 (.t 0)), none⟩,
  ⟨(some 3), .m (.cbox 158 (.t 1)), none⟩,
  ⟨(some 4), .t (.mv (.c (.bool false))), none⟩]
def F101o1 : List AOper := [
  ⟨(some 5), .t (.faddr 0 (.t 2)), none⟩,
  ⟨(some 6), .m (.load false 1 (.t 5)), none⟩,
  ⟨(some 7), .t (.faddr 0 (.t 3)), none⟩,
  ⟨(some 8), .m (.load false 1 (.t 7)), none⟩,
  ⟨(some 9), .t (.bin .eql (.t 6) (.t 8)), none⟩,
  ⟨(some 10), .t (.mv (.t 9)), none⟩,
  ⟨(some 11), .t (.faddr 1 (.t 2)), (some (10, true))⟩,
  ⟨(some 12), .m (.load false 1 (.t 11)), (some (10, true))⟩,
  ⟨(some 13), .t (.faddr 1 (.t 3)), (some (10, true))⟩,
  ⟨(some 14), .m (.load false 1 (.t 13)), (some (10, true))⟩,
  ⟨(some 15), .t (.bin .eql (.t 12) (.t 14)), (some (10, true))⟩,
  ⟨(some 16), .t (.pick (.t 10) (.t 15) (.c (.bool false))), none⟩,
  ⟨(some 17), .t (.mv (.t 16)), none⟩,
  ⟨(some 18), .t (.faddr 2 (.t 2)), (some (17, true))⟩,
  ⟨(some 19), .m (.load false 1 (.t 18)), (some (17, true))⟩,
  ⟨(some 20), .t (.faddr 2 (.t 3)), (some (17, true))⟩,
  ⟨(some 21), .m (.load false 1 (.t 20)), (some (17, true))⟩,
  ⟨(some 22), .t (.bin .eql (.t 19) (.t 21)), (some (17, true))⟩,
  ⟨(some 23), .t (.pick (.t 17) (.t 22) (.c (.bool false))), none⟩,
  ⟨(some 24), .t (.mv (.t 23)), none⟩,
  ⟨(some 25), .t (.faddr 3 (.t 2)), (some (24, true))⟩,
  ⟨(some 26), .m (.load false 1 (.t 25)), (some (24, true))⟩,
  ⟨(some 27), .t (.faddr 3 (.t 3)), (some (24, true))⟩,
  ⟨(some 28), .m (.load false 1 (.t 27)), (some (24, true))⟩,
  ⟨(some 29), .call (.c (.clo 108 [] [])) [(.t 26), (.t 28), (.c (.clo 109 [] []))], (some (24, true))⟩,
  ⟨(some 30), .t (.pick (.t 24) (.t 29) (.c (.bool false))), none⟩,
  ⟨(some 31), .t (.mv (.t 30)), none⟩,
  ⟨(some 32), .t (.faddr 4 (.t 2)), (some (31, true))⟩,
  ⟨(some 33), .m (.load false 1 (.t 32)), (some (31, true))⟩,
  ⟨(some 34), .t (.faddr 4 (.t 3)), (some (31, true))⟩,
  ⟨(some 35), .m (.load false 1 (.t 34)), (some (31, true))⟩,
  ⟨(some 36), .call (.c (.clo 110 [] [])) [(.t 33), (.t 35), (.c (.clo 101 [] []))], (some (31, true))⟩,
  ⟨(some 37), .t (.pick (.t 31) (.t 36) (.c (.bool false))), none⟩,
  ⟨(some 4), .t (.mv (.t 37)), none⟩]
def F101c : ACode :=
  (.seq (.ops F101o0 [2, 3])
  ((.seq (.ops F101o1 [4])
   (.ret))))
def F101 : AFn := ⟨38, [.tmp 4], F101c⟩
theorem F101_ok : cFn Tryd.prog [2, 3] 101 = some F101 := by kernel_rfl

/- manifold/resolve.visit$1 -/
def F102o0 : List AOper := [
  ⟨(some 7), .t (.mv (.t 0)), none⟩,
  ⟨(some 8), .t (.len false (.t 7)), none⟩,
  ⟨(some 9), .t (.mv (.c (.int .i64 0))), none⟩]
def F102o1 : List AOper := [
  ⟨(some 10), .t (.bin .lss (.t 9) (.t 8)), none⟩]
def F102o2 : List AOper := [
  ⟨(some 11), .t (.mv (.t 9)), none⟩,
  ⟨(some 5), .t (.mv (.t 11)), none⟩]
def F102o3 : List AOper := [
  ⟨(some 12), .m (.load false 1 (.t 1)), none⟩,
  ⟨(some 13), .t (.mv (.t 5)), none⟩,
  ⟨(some 14), .m (.bslice false 3 1 1 [(.t 13)]), none⟩,
  ⟨(some 15), .m (.append true 3 1 8 (.t 12) (.t 14)), none⟩,
  ⟨none, .m (.store 1 (.t 1) (.t 15)), none⟩]
def F102o4 : List AOper := [
  ⟨(some 16), .m (.load false 1 (.t 2)), none⟩,
  ⟨(some 17), .m (.load false 1 (.t 1)), none⟩,
  ⟨(some 18), .t (.mv (.t 0)), none⟩,
  ⟨(some 19), .t (.mv (.t 5)), none⟩,
  ⟨(some 20), .t (.iaddr 11 (.t 18) (.t 19)), none⟩]
def F102p4 : List AOper := [
  ⟨(some 21), .call (.t 16) [(.t 17), (.t 20)], none⟩]
def F102A4 : List (List Nat) := [[], [], [], [], [2, 3], [0, 1, 4, 2, 3]]
def F102o5 : List AOper := [
  ⟨(some 22), .t (.mv (.t 0)), none⟩,
  ⟨(some 23), .t (.mv (.t 5)), none⟩,
  ⟨(some 24), .t (.iaddr 11 (.t 22) (.t 23)), none⟩,
  ⟨(some 25), .t (.faddr 10 (.t 24)), none⟩,
  ⟨(some 26), .m (.load false 1 (.t 25)), none⟩,
  ⟨(some 27), .t (.len false (.t 26)), none⟩,
  ⟨(some 28), .t (.mv (.c (.int .i64 0))), none⟩]
def F102o6 : List AOper := [
  ⟨(some 29), .t (.bin .lss (.t 28) (.t 27)), none⟩]
def F102o7 : List AOper := [
  ⟨(some 30), .t (.mv (.t 28)), none⟩,
  ⟨(some 6), .t (.mv (.t 30)), none⟩]
def F102o8 : List AOper := [
  ⟨(some 31), .m (.load false 1 (.t 1)), none⟩,
  ⟨(some 32), .t (.mv (.t 6)), none⟩,
  ⟨(some 33), .m (.bslice false 3 1 1 [(.t 32)]), none⟩,
  ⟨(some 34), .m (.append true 3 1 8 (.t 31) (.t 33)), none⟩,
  ⟨none, .m (.store 1 (.t 1) (.t 34)), none⟩]
def F102o9 : List AOper := [
  ⟨(some 35), .m (.load false 1 (.t 3)), none⟩,
  ⟨(some 36), .t (.mv (.t 0)), none⟩,
  ⟨(some 37), .t (.mv (.t 5)), none⟩,
  ⟨(some 38), .t (.iaddr 11 (.t 36) (.t 37)), none⟩,
  ⟨(some 39), .t (.faddr 10 (.t 38)), none⟩,
  ⟨(some 40), .m (.load false 1 (.t 39)), none⟩,
  ⟨(some 41), .t (.mv (.t 6)), none⟩,
  ⟨(some 42), .t (.iaddr 2 (.t 40) (.t 41)), none⟩,
  ⟨(some 43), .t (.faddr 1 (.t 42)), none⟩,
  ⟨(some 44), .m (.load false 1 (.t 43)), none⟩]
def F102p9 : List AOper := [
  ⟨(some 45), .call (.t 35) [(.t 44)], none⟩]
def F102A9 : List (List Nat) := [[], [], [], [1, 2], [3, 1, 2], [4, 3, 1, 2], [], [5, 6, 4, 3, 1, 2], [7, 5, 6, 4, 3, 1, 2], [8, 7, 5, 6, 4, 3, 1, 2], [0, 9, 8, 7, 5, 6, 4, 3, 1, 2]]
def F102o10 : List AOper := [
  ⟨(some 46), .m (.load false 1 (.t 1)), none⟩,
  ⟨(some 47), .m (.load false 1 (.t 1)), none⟩,
  ⟨(some 48), .t (.len false (.t 47)), none⟩,
  ⟨(some 49), .t (.bin .sub (.t 48) (.c (.int .i64 1))), none⟩,
  ⟨(some 50), .t (.sliceL 1 (.t 46) none (some (.t 49))), none⟩,
  ⟨none, .m (.store 1 (.t 1) (.t 50)), none⟩]
def F102o11 : List AOper := [
  ⟨(some 51), .t (.bin .add (.t 28) (.c (.int .i64 1))), none⟩,
  ⟨(some 28), .t (.mv (.t 51)), none⟩]
def F102b12 : ACode :=
  (.seq (.ops F102o6 [0, 1, 2, 3, 5, 8, 9, 27, 28, 29])
  ((.seq (.cond (.t 29)
    (.skip)
    (.exit 2))
   ((.seq (.block 3 ((.seq (.ops F102o7 [0, 1, 2, 3, 5, 6, 8, 9, 27, 28])
     ((.seq (.ops F102o8 [0, 1, 2, 3, 5, 6, 8, 9, 27, 28])
      ((.seq (.draw F102A9 F102o9 F102p9 [0, 1, 2, 3, 5, 8, 9, 27, 28])
       (.ops F102o10 [0, 1, 2, 3, 5, 8, 9, 27, 28]))))))))
    (.ops F102o11 [0, 1, 2, 3, 5, 8, 9, 27, 28]))))))
def F102o13 : List AOper := [
  ⟨(some 52), .m (.load false 1 (.t 1)), none⟩,
  ⟨(some 53), .m (.load false 1 (.t 1)), none⟩,
  ⟨(some 54), .t (.len false (.t 53)), none⟩,
  ⟨(some 55), .t (.bin .sub (.t 54) (.c (.int .i64 1))), none⟩,
  ⟨(some 56), .t (.sliceL 1 (.t 52) none (some (.t 55))), none⟩,
  ⟨none, .m (.store 1 (.t 1) (.t 56)), none⟩]
def F102o14 : List AOper := [
  ⟨(some 57), .t (.bin .add (.t 9) (.c (.int .i64 1))), none⟩,
  ⟨(some 9), .t (.mv (.t 57)), none⟩]
def F102b15 : ACode :=
  (.seq (.ops F102o1 [0, 1, 2, 3, 8, 9, 10])
  ((.seq (.cond (.t 10)
    (.skip)
    (.exit 0))
   ((.seq (.block 1 ((.seq (.ops F102o2 [0, 1, 2, 3, 5, 8, 9])
     ((.seq (.ops F102o3 [0, 1, 2, 3, 5, 8, 9])
      ((.seq (.draw F102A4 F102o4 F102p4 [0, 1, 2, 3, 5, 8, 9])
       ((.seq ((.seq (.ops F102o5 [0, 1, 2, 3, 5, 8, 9, 27, 28])
        (.block 2 (.loop [0, 1, 2, 3, 5, 8, 9, 27, 28] F102b12))))
        (.ops F102o13 [0, 1, 2, 3, 8, 9]))))))))))
    (.ops F102o14 [0, 1, 2, 3, 8, 9]))))))
def F102c : ACode :=
  (.seq (.ops F102o0 [0, 1, 2, 3, 8, 9])
  (.block 0 (.loop [0, 1, 2, 3, 8, 9] F102b15)))
def F102 : AFn := ⟨58, [], F102c⟩
theorem F102_ok : cFn Tryd.prog [15, 34] 102 = some F102 := by kernel_rfl

/- manifold/value.Clone -/
def F107o0 : List AOper := [
  ⟨(some 1), .m (.cbox 137 (.t 0)), none⟩,
  ⟨(some 2), .m (.alloc 137 [(.int .i64 0), (.int .i64 0), (.int .i64 0), (.str []), .nils, .nils]), none⟩]
def F107o1 : List AOper := [
  ⟨(some 8), .m (.load true 6 (.t 1)), none⟩,
  ⟨(some 3), .m (.alloc 137 [(.int .i64 0), (.int .i64 0), (.int .i64 0), (.str []), .nils, .nils]), none⟩,
  ⟨none, .m (.store 6 (.t 3) (.t 8)), none⟩]
def F107o2 : List AOper := [
  ⟨(some 9), .t (.faddr 4 (.t 3)), none⟩,
  ⟨none, .m (.store 1 (.t 9) (.c .nils)), none⟩,
  ⟨(some 10), .t (.faddr 5 (.t 3)), none⟩,
  ⟨none, .m (.store 1 (.t 10) (.c .nils)), none⟩]
def F107o3 : List AOper := [
  ⟨(some 11), .t (.faddr 4 (.t 1)), none⟩,
  ⟨(some 12), .m (.load false 1 (.t 11)), none⟩,
  ⟨(some 13), .t (.len false (.t 12)), none⟩,
  ⟨(some 14), .t (.mv (.c (.int .i64 0))), none⟩]
def F107o4 : List AOper := [
  ⟨(some 15), .t (.bin .lss (.t 14) (.t 13)), none⟩]
def F107o5 : List AOper := [
  ⟨(some 16), .t (.iaddr 6 (.t 12) (.t 14)), none⟩,
  ⟨(some 17), .m (.load true 6 (.t 16)), none⟩,
  ⟨(some 5), .m (.alloc 137 [(.int .i64 0), (.int .i64 0), (.int .i64 0), (.str []), .nils, .nils]), none⟩,
  ⟨none, .m (.store 6 (.t 5) (.t 17)), none⟩]
def F107o6 : List AOper := [
  ⟨(some 18), .t (.faddr 4 (.t 3)), none⟩,
  ⟨(some 19), .m (.load false 1 (.t 18)), none⟩,
  ⟨(some 20), .m (.load true 6 (.t 5)), none⟩,
  ⟨(some 21), .call (.c (.clo 107 [] [])) [(.t 20)], none⟩,
  ⟨(some 22), .m (.bslice false 137 6 1 [(.t 21)]), none⟩]
def F107p6 : List AOper := [
  ⟨(some 23), .m (.append false 137 6 88 (.t 19) (.t 22)), none⟩,
  ⟨(some 24), .t (.faddr 4 (.t 3)), none⟩,
  ⟨none, .m (.store 1 (.t 24) (.t 23)), none⟩]
def F107A6 : List (List Nat) := [[], [0], [], [2], [3, 2], [1, 4, 0, 3, 2], [5, 1, 4, 0, 3, 2], [6, 5, 1, 4, 0, 3, 2]]
def F107o7 : List AOper := [
  ⟨(some 25), .t (.bin .add (.t 14) (.c (.int .i64 1))), none⟩,
  ⟨(some 14), .t (.mv (.t 25)), none⟩]
def F107b8 : ACode :=
  (.seq (.ops F107o4 [1, 2, 3, 12, 13, 14, 15])
  ((.seq (.cond (.t 15)
    (.skip)
    (.exit 0))
   ((.seq (.block 1 ((.seq (.ops F107o5 [1, 2, 3, 5, 12, 13, 14])
     (.draw F107A6 F107o6 F107p6 [1, 2, 3, 12, 13, 14]))))
    (.ops F107o7 [1, 2, 3, 12, 13, 14]))))))
def F107o9 : List AOper := [
  ⟨(some 26), .t (.faddr 5 (.t 1)), none⟩,
  ⟨(some 27), .m (.load false 1 (.t 26)), none⟩,
  ⟨(some 28), .t (.len false (.t 27)), none⟩,
  ⟨(some 29), .t (.mv (.c (.int .i64 0))), none⟩]
def F107o10 : List AOper := [
  ⟨(some 30), .t (.bin .lss (.t 29) (.t 28)), none⟩]
def F107o11 : List AOper := [
  ⟨(some 31), .t (.iaddr 7 (.t 27) (.t 29)), none⟩,
  ⟨(some 32), .m (.load true 7 (.t 31)), none⟩,
  ⟨(some 7), .m (.alloc 170 [(.str []), (.int .i64 0), (.int .i64 0), (.int .i64 0), (.str []), .nils, .nils]), none⟩,
  ⟨none, .m (.store 7 (.t 7) (.t 32)), none⟩]
def F107o12 : List AOper := [
  ⟨(some 33), .t (.faddr 5 (.t 3)), none⟩,
  ⟨(some 34), .m (.load false 1 (.t 33)), none⟩,
  ⟨(some 35), .t (.faddr 0 (.t 7)), none⟩,
  ⟨(some 36), .m (.load false 1 (.t 35)), none⟩,
  ⟨(some 37), .t (.faddr 1 (.t 7)), none⟩,
  ⟨(some 38), .m (.load true 6 (.t 37)), none⟩,
  ⟨(some 39), .call (.c (.clo 107 [] [])) [(.t 38)], none⟩,
  ⟨(some 40), .t (.build [(.str []), (.int .i64 0), (.int .i64 0), (.int .i64 0), (.str []), .nils, .nils] [(0, 1, (.t 36)), (1, 6, (.t 39))]), none⟩,
  ⟨(some 41), .m (.bslice false 170 7 1 [(.t 40)]), none⟩]
def F107p12 : List AOper := [
  ⟨(some 42), .m (.append false 170 7 104 (.t 34) (.t 41)), none⟩,
  ⟨(some 43), .t (.faddr 5 (.t 3)), none⟩,
  ⟨none, .m (.store 1 (.t 43) (.t 42)), none⟩]
def F107A12 : List (List Nat) := [[], [0], [], [2], [], [4], [5, 4], [3, 6, 2, 5, 4], [7, 3, 6, 2, 5, 4], [1, 8, 0, 7, 3, 6, 2, 5, 4], [9, 1, 8, 0, 7, 3, 6, 2, 5, 4], [10, 9, 1, 8, 0, 7, 3, 6, 2, 5, 4]]
def F107o13 : List AOper := [
  ⟨(some 44), .t (.bin .add (.t 29) (.c (.int .i64 1))), none⟩,
  ⟨(some 29), .t (.mv (.t 44)), none⟩]
def F107b14 : ACode :=
  (.seq (.ops F107o10 [2, 3, 27, 28, 29, 30])
  ((.seq (.cond (.t 30)
    (.skip)
    (.exit 2))
   ((.seq (.block 3 ((.seq (.ops F107o11 [2, 3, 7, 27, 28, 29])
     (.draw F107A12 F107o12 F107p12 [2, 3, 27, 28, 29]))))
    (.ops F107o13 [2, 3, 27, 28, 29]))))))
def F107o15 : List AOper := [
  ⟨(some 45), .m (.load true 6 (.t 3)), none⟩,
  ⟨none, .m (.store 6 (.t 2) (.t 45)), none⟩]
def F107c : ACode :=
  (.seq (.ops F107o0 [1, 2])
  ((.seq (.ops F107o1 [1, 2, 3])
   ((.seq (.ops F107o2 [1, 2, 3])
    ((.seq ((.seq (.ops F107o3 [1, 2, 3, 12, 13, 14])
     (.block 0 (.loop [1, 2, 3, 12, 13, 14] F107b8))))
     ((.seq ((.seq (.ops F107o9 [2, 3, 27, 28, 29])
      (.block 2 (.loop [2, 3, 27, 28, 29] F107b14))))
      ((.seq (.ops F107o15 [2])
       (.ret))))))))))))
def F107 : AFn := ⟨46, [.cell 2 true 6], F107c⟩
theorem F107_ok : cFn Tryd.prog [1] 107 = some F107 := by kernel_rfl

/- slices.EqualFunc[[]manifold/api.Value,[]manifold/api.Value,manifold/api.Value,manifold/api.Value] -/
def F108o0 : List AOper := [
  ⟨(some 6), .t (.mv (.c (.bool false))), none⟩]
def F108o1 : List AOper := [
  ⟨(some 10), .t (.mv (.t 0)), none⟩,
  ⟨(some 11), .t (.len false (.t 10)), none⟩,
  ⟨(some 12), .t (.mv (.t 1)), none⟩,
  ⟨(some 13), .t (.len false (.t 12)), none⟩,
  ⟨(some 14), .t (.bin .neq (.t 11) (.t 13)), none⟩]
def F108o2 : List AOper := [
  ⟨(some 6), .t (.mv (.c (.bool false))), none⟩]
def F108o3 : List AOper := [
  ⟨(some 15), .t (.mv (.t 0)), none⟩,
  ⟨(some 16), .t (.len false (.t 15)), none⟩,
  ⟨(some 17), .t (.mv (.c (.int .i64 0))), none⟩]
def F108o4 : List AOper := [
  ⟨(some 18), .t (.bin .lss (.t 17) (.t 16)), none⟩]
def F108o5 : List AOper := [
  ⟨(some 19), .t (.mv (.t 17)), none⟩,
  ⟨(some 20), .t (.iaddr 6 (.t 15) (.t 17)), none⟩,
  ⟨(some 21), .m (.load true 6 (.t 20)), none⟩,
  ⟨(some 8), .m (.alloc 137 [(.int .i64 0), (.int .i64 0), (.int .i64 0), (.str []), .nils, .nils]), none⟩,
  ⟨(some 7), .t (.mv (.t 19)), none⟩,
  ⟨none, .m (.store 6 (.t 8) (.t 21)), none⟩]
def F108o6 : List AOper := [
  ⟨(some 22), .t (.mv (.t 1)), none⟩,
  ⟨(some 23), .t (.mv (.t 7)), none⟩,
  ⟨(some 24), .t (.iaddr 6 (.t 22) (.t 23)), none⟩,
  ⟨(some 25), .m (.load true 6 (.t 24)), none⟩,
  ⟨(some 9), .m (.alloc 137 [(.int .i64 0), (.int .i64 0), (.int .i64 0), (.str []), .nils, .nils]), none⟩,
  ⟨none, .m (.store 6 (.t 9) (.t 25)), none⟩]
def F108o7 : List AOper := [
  ⟨(some 26), .t (.mv (.t 2)), none⟩,
  ⟨(some 27), .m (.load true 6 (.t 8)), none⟩,
  ⟨(some 28), .m (.load true 6 (.t 9)), none⟩,
  ⟨(some 29), .call (.t 26) [(.t 27), (.t 28)], none⟩,
  ⟨(some 30), .t (.not (.t 29)), none⟩]
def F108o8 : List AOper := [
  ⟨(some 6), .t (.mv (.c (.bool false))), none⟩]
def F108o9 : List AOper := [
  ⟨(some 31), .t (.bin .add (.t 17) (.c (.int .i64 1))), none⟩,
  ⟨(some 17), .t (.mv (.t 31)), none⟩]
def F108b10 : ACode :=
  (.seq (.ops F108o4 [1, 2, 15, 16, 17, 18])
  ((.seq (.cond (.t 18)
    (.skip)
    (.exit 0))
   ((.seq (.block 1 ((.seq (.ops F108o5 [1, 2, 7, 8, 15, 16, 17])
     ((.seq (.ops F108o6 [1, 2, 8, 9, 15, 16, 17])
      ((.seq (.ops F108o7 [1, 2, 15, 16, 17, 30])
       (.cond (.t 30)
         ((.seq (.ops F108o8 [6])
          (.ret)))
         (.skip)))))))))
    (.ops F108o9 [1, 2, 15, 16, 17]))))))
def F108o11 : List AOper := [
  ⟨(some 6), .t (.mv (.c (.bool true))), none⟩]
def F108c : ACode :=
  (.seq (.ops F108o0 [0, 1, 2])
  ((.seq ((.seq (.ops F108o1 [0, 1, 2, 14])
   (.cond (.t 14)
     ((.seq (.ops F108o2 [6])
      (.ret)))
     (.skip))))
   ((.seq ((.seq (.ops F108o3 [1, 2, 15, 16, 17])
    (.block 0 (.loop [1, 2, 15, 16, 17] F108b10))))
    ((.seq (.ops F108o11 [6])
     (.ret))))))))
def F108 : AFn := ⟨32, [.tmp 6], F108c⟩
theorem F108_ok : cFn Tryd.prog [] 108 = some F108 := by kernel_rfl

/- manifold/value.Equal -/
def F109o0 : List AOper := [
  ⟨(some 2), .m (.cbox 137 (.t 0)), none⟩,
  ⟨(some 3), .m (.cbox 137 (.t 1)), none⟩,
  ⟨(some 4), .t (.mv (.c (.bool false))), none⟩]
def F109o1 : List AOper := [
  ⟨(some 5), .m (.load true 6 (.t 2)), none⟩,
  ⟨(some 6), .m (.load true 6 (.t 3)), none⟩,
  ⟨(some 7), .call (.c (.clo 114 [] [])) [(.t 5), (.t 6)], none⟩,
  ⟨(some 8), .t (.bin .eql (.t 7) (.c (.int .i64 0))), none⟩,
  ⟨(some 4), .t (.mv (.t 8)), none⟩]
def F109c : ACode :=
  (.seq (.ops F109o0 [2, 3])
  ((.seq (.ops F109o1 [4])
   (.ret))))
def F109 : AFn := ⟨9, [.tmp 4], F109c⟩
theorem F109_ok : cFn Tryd.prog [2, 3] 109 = some F109 := by kernel_rfl

/- slices.EqualFunc[[]manifold/api.Expr,[]manifold/api.Expr,manifold/api.Expr,manifold/api.Expr] -/
def F110o0 : List AOper := [
  ⟨(some 6), .t (.mv (.c (.bool false))), none⟩]
def F110o1 : List AOper := [
  ⟨(some 10), .t (.mv (.t 0)), none⟩,
  ⟨(some 11), .t (.len false (.t 10)), none⟩,
  ⟨(some 12), .t (.mv (.t 1)), none⟩,
  ⟨(some 13), .t (.len false (.t 12)), none⟩,
  ⟨(some 14), .t (.bin .neq (.t 11) (.t 13)), none⟩]
def F110o2 : List AOper := [
  ⟨(some 6), .t (.mv (.c (.bool false))), none⟩]
def F110o3 : List AOper := [
  ⟨(some 15), .t (.mv (.t 0)), none⟩,
  ⟨(some 16), .t (.len false (.t 15)), none⟩,
  ⟨(some 17), .t (.mv (.c (.int .i64 0))), none⟩]
def F110o4 : List AOper := [
  ⟨(some 18), .t (.bin .lss (.t 17) (.t 16)), none⟩]
def F110o5 : List AOper := [
  ⟨(some 19), .t (.mv (.t 17)), none⟩,
  ⟨(some 20), .t (.iaddr 5 (.t 15) (.t 17)), none⟩,
  ⟨(some 21), .m (.load true 5 (.t 20)), none⟩,
  ⟨(some 8), .m (.alloc 158 [(.int .i64 0), (.int .i64 0), (.str []), .nils, .nils]), none⟩,
  ⟨(some 7), .t (.mv (.t 19)), none⟩,
  ⟨none, .m (.store 5 (.t 8) (.t 21)), none⟩]
def F110o6 : List AOper := [
  ⟨(some 22), .t (.mv (.t 1)), none⟩,
  ⟨(some 23), .t (.mv (.t 7)), none⟩,
  ⟨(some 24), .t (.iaddr 5 (.t 22) (.t 23)), none⟩,
  ⟨(some 25), .m (.load true 5 (.t 24)), none⟩,
  ⟨(some 9), .m (.alloc 158 [(.int .i64 0), (.int .i64 0), (.str []), .nils, .nils]), none⟩,
  ⟨none, .m (.store 5 (.t 9) (.t 25)), none⟩]
def F110o7 : List AOper := [
  ⟨(some 26), .t (.mv (.t 2)), none⟩,
  ⟨(some 27), .m (.load true 5 (.t 8)), none⟩,
  ⟨(some 28), .m (.load true 5 (.t 9)), none⟩,
  ⟨(some 29), .call (.t 26) [(.t 27), (.t 28)], none⟩,
  ⟨(some 30), .t (.not (.t 29)), none⟩]
def F110o8 : List AOper := [
  ⟨(some 6), .t (.mv (.c (.bool false))), none⟩]
def F110o9 : List AOper := [
  ⟨(some 31), .t (.bin .add (.t 17) (.c (.int .i64 1))), none⟩,
  ⟨(some 17), .t (.mv (.t 31)), none⟩]
def F110b10 : ACode :=
  (.seq (.ops F110o4 [1, 2, 15, 16, 17, 18])
  ((.seq (.cond (.t 18)
    (.skip)
    (.exit 0))
   ((.seq (.block 1 ((.seq (.ops F110o5 [1, 2, 7, 8, 15, 16, 17])
     ((.seq (.ops F110o6 [1, 2, 8, 9, 15, 16, 17])
      ((.seq (.ops F110o7 [1, 2, 15, 16, 17, 30])
       (.cond (.t 30)
         ((.seq (.ops F110o8 [6])
          (.ret)))
         (.skip)))))))))
    (.ops F110o9 [1, 2, 15, 16, 17]))))))
def F110o11 : List AOper := [
  ⟨(some 6), .t (.mv (.c (.bool true))), none⟩]
def F110c : ACode :=
  (.seq (.ops F110o0 [0, 1, 2])
  ((.seq ((.seq (.ops F110o1 [0, 1, 2, 14])
   (.cond (.t 14)
     ((.seq (.ops F110o2 [6])
      (.ret)))
     (.skip))))
   ((.seq ((.seq (.ops F110o3 [1, 2, 15, 16, 17])
    (.block 0 (.loop [1, 2, 15, 16, 17] F110b10))))
    ((.seq (.ops F110o11 [6])
     (.ret))))))))
def F110 : AFn := ⟨32, [.tmp 6], F110c⟩
theorem F110_ok : cFn Tryd.prog [] 110 = some F110 := by kernel_rfl

/- manifold/value.Compare -/
def F114o0 : List AOper := [
  ⟨(some 2), .m (.cbox 137 (.t 0)), none⟩,
  ⟨(some 3), .m (.cbox 137 (.t 1)), none⟩,
  ⟨(some 4), .t (.mv (.c (.int .i64 0))), none⟩]
def F114o1 : List AOper := [
  ⟨(some 5), .t (.faddr 0 (.t 2)), none⟩,
  ⟨(some 6), .m (.load false 1 (.t 5)), none⟩,
  ⟨(some 7), .t (.faddr 0 (.t 3)), none⟩,
  ⟨(some 8), .m (.load false 1 (.t 7)), none⟩,
  ⟨(some 9), .call (.c (.clo 66 [] [])) [(.t 6), (.t 8)], none⟩,
  ⟨(some 10), .t (.faddr 1 (.t 2)), none⟩,
  ⟨(some 11), .m (.load false 1 (.t 10)), none⟩,
  ⟨(some 12), .t (.faddr 1 (.t 3)), none⟩,
  ⟨(some 13), .m (.load false 1 (.t 12)), none⟩,
  ⟨(some 14), .call (.c (.clo 66 [] [])) [(.t 11), (.t 13)], none⟩,
  ⟨(some 15), .t (.faddr 2 (.t 2)), none⟩,
  ⟨(some 16), .m (.load false 1 (.t 15)), none⟩,
  ⟨(some 17), .t (.faddr 2 (.t 3)), none⟩,
  ⟨(some 18), .m (.load false 1 (.t 17)), none⟩,
  ⟨(some 19), .call (.c (.clo 66 [] [])) [(.t 16), (.t 18)], none⟩,
  ⟨(some 20), .t (.faddr 3 (.t 2)), none⟩,
  ⟨(some 21), .m (.load false 1 (.t 20)), none⟩,
  ⟨(some 22), .t (.faddr 3 (.t 3)), none⟩,
  ⟨(some 23), .m (.load false 1 (.t 22)), none⟩,
  ⟨(some 24), .call (.c (.clo 64 [] [])) [(.t 21), (.t 23)], none⟩,
  ⟨(some 25), .t (.faddr 4 (.t 2)), none⟩,
  ⟨(some 26), .m (.load false 1 (.t 25)), none⟩,
  ⟨(some 27), .t (.faddr 4 (.t 3)), none⟩,
  ⟨(some 28), .m (.load false 1 (.t 27)), none⟩,
  ⟨(some 29), .call (.c (.clo 119 [] [])) [(.t 26), (.t 28), (.c (.clo 114 [] []))], none⟩,
  ⟨(some 30), .t (.faddr 5 (.t 2)), none⟩,
  ⟨(some 31), .m (.load false 1 (.t 30)), none⟩,
  ⟨(some 32), .t (.faddr 5 (.t 3)), none⟩,
  ⟨(some 33), .m (.load false 1 (.t 32)), none⟩]
def F114p1 : List AOper := [
  ⟨(some 34), .call (.c (.clo 120 [] [])) [(.t 31), (.t 33), (.c (.clo 121 [] []))], none⟩,
  ⟨(some 35), .m (.bslice false 3 1 6 [(.t 9), (.t 14), (.t 19), (.t 24), (.t 29), (.t 34)]), none⟩,
  ⟨(some 36), .call (.c (.clo 63 [] [])) [(.t 35)], none⟩,
  ⟨(some 4), .t (.mv (.t 36)), none⟩]
def F114A1 : List (List Nat) := [[], [0], [], [2], [1, 3, 0, 2], [], [5], [], [7], [6, 8, 4, 5, 7, 1, 3, 0, 2], [], [10], [], [12], [11, 13, 9, 10, 12, 6, 8, 4, 5, 7, 1, 3, 0, 2], [], [15], [], [17], [16, 18, 14, 15, 17, 11, 13, 9, 10, 12, 6, 8, 4, 5, 7, 1, 3, 0, 2], [], [20], [], [22], [21, 23, 19, 20, 22, 16, 18, 14, 15, 17, 11, 13, 9, 10, 12, 6, 8, 4, 5, 7, 1, 3, 0, 2], [], [25], [], [27], [26, 28, 24, 25, 27, 21, 23, 19, 20, 22, 16, 18, 14, 15, 17, 11, 13, 9, 10, 12, 6, 8, 4, 5, 7, 1, 3, 0, 2], [29, 26, 28, 24, 25, 27, 21, 23, 19, 20, 22, 16, 18, 14, 15, 17, 11, 13, 9, 10, 12, 6, 8, 4, 5, 7, 1, 3, 0, 2], [30, 29, 26, 28, 24, 25, 27, 21, 23, 19, 20, 22, 16, 18, 14, 15, 17, 11, 13, 9, 10, 12, 6, 8, 4, 5, 7, 1, 3, 0, 2], [31, 30, 29, 26, 28, 24, 25, 27, 21, 23, 19, 20, 22, 16, 18, 14, 15, 17, 11, 13, 9, 10, 12, 6, 8, 4, 5, 7, 1, 3, 0, 2]]
def F114c : ACode :=
  (.seq (.ops F114o0 [2, 3])
  ((.seq (.draw F114A1 F114o1 F114p1 [4])
   (.ret))))
def F114 : AFn := ⟨37, [.tmp 4], F114c⟩
theorem F114_ok : cFn Tryd.prog [2, 3] 114 = some F114 := by kernel_rfl

/- slices.CompareFunc[[]manifold/api.Value,[]manifold/api.Value,manifold/api.Value,manifold/api.Value] -/
def F119o0 : List AOper := [
  ⟨(some 6), .t (.mv (.c (.int .i64 0))), none⟩]
def F119o1 : List AOper := [
  ⟨(some 11), .t (.mv (.t 0)), none⟩,
  ⟨(some 12), .t (.len false (.t 11)), none⟩,
  ⟨(some 13), .t (.mv (.c (.int .i64 0))), none⟩]
def F119o2 : List AOper := [
  ⟨(some 14), .t (.bin .lss (.t 13) (.t 12)), none⟩]
def F119o3 : List AOper := [
  ⟨(some 15), .t (.mv (.t 13)), none⟩,
  ⟨(some 16), .t (.iaddr 6 (.t 11) (.t 13)), none⟩,
  ⟨(some 17), .m (.load true 6 (.t 16)), none⟩,
  ⟨(some 8), .m (.alloc 137 [(.int .i64 0), (.int .i64 0), (.int .i64 0), (.str []), .nils, .nils]), none⟩,
  ⟨(some 7), .t (.mv (.t 15)), none⟩,
  ⟨none, .m (.store 6 (.t 8) (.t 17)), none⟩]
def F119o4 : List AOper := [
  ⟨(some 18), .t (.mv (.t 7)), none⟩,
  ⟨(some 19), .t (.mv (.t 1)), none⟩,
  ⟨(some 20), .t (.len false (.t 19)), none⟩,
  ⟨(some 21), .t (.bin .geq (.t 18) (.t 20)), none⟩]
def F119o5 : List AOper := [
  ⟨(some 6), .t (.mv (.c (.int .i64 1))), none⟩]
def F119o6 : List AOper := [
  ⟨(some 22), .t (.mv (.t 1)), none⟩,
  ⟨(some 23), .t (.mv (.t 7)), none⟩,
  ⟨(some 24), .t (.iaddr 6 (.t 22) (.t 23)), none⟩,
  ⟨(some 25), .m (.load true 6 (.t 24)), none⟩,
  ⟨(some 9), .m (.alloc 137 [(.int .i64 0), (.int .i64 0), (.int .i64 0), (.str []), .nils, .nils]), none⟩,
  ⟨none, .m (.store 6 (.t 9) (.t 25)), none⟩]
def F119o7 : List AOper := [
  ⟨(some 26), .t (.mv (.t 2)), none⟩,
  ⟨(some 27), .m (.load true 6 (.t 8)), none⟩,
  ⟨(some 28), .m (.load true 6 (.t 9)), none⟩,
  ⟨(some 29), .call (.t 26) [(.t 27), (.t 28)], none⟩,
  ⟨(some 10), .t (.mv (.t 29)), none⟩]
def F119o8 : List AOper := [
  ⟨(some 30), .t (.mv (.t 10)), none⟩,
  ⟨(some 31), .t (.bin .neq (.t 30) (.c (.int .i64 0))), none⟩]
def F119o9 : List AOper := [
  ⟨(some 32), .t (.mv (.t 10)), none⟩,
  ⟨(some 6), .t (.mv (.t 32)), none⟩]
def F119o10 : List AOper := [
  ⟨(some 33), .t (.bin .add (.t 13) (.c (.int .i64 1))), none⟩,
  ⟨(some 13), .t (.mv (.t 33)), none⟩]
def F119b11 : ACode :=
  (.seq (.ops F119o2 [0, 1, 2, 11, 12, 13, 14])
  ((.seq (.cond (.t 14)
    (.skip)
    (.exit 0))
   ((.seq (.block 1 ((.seq (.ops F119o3 [0, 1, 2, 7, 8, 11, 12, 13])
     ((.seq ((.seq (.ops F119o4 [0, 1, 2, 7, 8, 11, 12, 13, 21])
      (.cond (.t 21)
        ((.seq (.ops F119o5 [6])
         (.ret)))
        (.skip))))
      ((.seq (.ops F119o6 [0, 1, 2, 8, 9, 11, 12, 13])
       ((.seq (.ops F119o7 [0, 1, 2, 10, 11, 12, 13])
        ((.seq (.ops F119o8 [0, 1, 2, 10, 11, 12, 13, 31])
         (.cond (.t 31)
           ((.seq (.ops F119o9 [6])
            (.ret)))
           (.skip)))))))))))))
    (.ops F119o10 [0, 1, 2, 11, 12, 13]))))))
def F119o12 : List AOper := [
  ⟨(some 34), .t (.mv (.t 0)), none⟩,
  ⟨(some 35), .t (.len false (.t 34)), none⟩,
  ⟨(some 36), .t (.mv (.t 1)), none⟩,
  ⟨(some 37), .t (.len false (.t 36)), none⟩,
  ⟨(some 38), .t (.bin .lss (.t 35) (.t 37)), none⟩]
def F119o13 : List AOper := [
  ⟨(some 6), .t (.mv (.c (.int .i64 (-1)))), none⟩]
def F119o14 : List AOper := [
  ⟨(some 6), .t (.mv (.c (.int .i64 0))), none⟩]
def F119c : ACode :=
  (.seq (.ops F119o0 [0, 1, 2])
  ((.seq ((.seq (.ops F119o1 [0, 1, 2, 11, 12, 13])
   (.block 0 (.loop [0, 1, 2, 11, 12, 13] F119b11))))
   ((.seq ((.seq (.ops F119o12 [38])
    (.cond (.t 38)
      ((.seq (.ops F119o13 [6])
       (.ret)))
      (.skip))))
    ((.seq (.ops F119o14 [6])
     (.ret))))))))
def F119 : AFn := ⟨39, [.tmp 6], F119c⟩
theorem F119_ok : cFn Tryd.prog [] 119 = some F119 := by kernel_rfl

/- slices.CompareFunc[[]manifold/api.Field,[]manifold/api.Field,manifold/api.Field,manifold/api.Field] -/
def F120o0 : List AOper := [
  ⟨(some 6), .t (.mv (.c (.int .i64 0))), none⟩]
def F120o1 : List AOper := [
  ⟨(some 11), .t (.mv (.t 0)), none⟩,
  ⟨(some 12), .t (.len false (.t 11)), none⟩,
  ⟨(some 13), .t (.mv (.c (.int .i64 0))), none⟩]
def F120o2 : List AOper := [
  ⟨(some 14), .t (.bin .lss (.t 13) (.t 12)), none⟩]
def F120o3 : List AOper := [
  ⟨(some 15), .t (.mv (.t 13)), none⟩,
  ⟨(some 16), .t (.iaddr 7 (.t 11) (.t 13)), none⟩,
  ⟨(some 17), .m (.load true 7 (.t 16)), none⟩,
  ⟨(some 8), .m (.alloc 170 [(.str []), (.int .i64 0), (.int .i64 0), (.int .i64 0), (.str []), .nils, .nils]), none⟩,
  ⟨(some 7), .t (.mv (.t 15)), none⟩,
  ⟨none, .m (.store 7 (.t 8) (.t 17)), none⟩]
def F120o4 : List AOper := [
  ⟨(some 18), .t (.mv (.t 7)), none⟩,
  ⟨(some 19), .t (.mv (.t 1)), none⟩,
  ⟨(some 20), .t (.len false (.t 19)), none⟩,
  ⟨(some 21), .t (.bin .geq (.t 18) (.t 20)), none⟩]
def F120o5 : List AOper := [
  ⟨(some 6), .t (.mv (.c (.int .i64 1))), none⟩]
def F120o6 : List AOper := [
  ⟨(some 22), .t (.mv (.t 1)), none⟩,
  ⟨(some 23), .t (.mv (.t 7)), none⟩,
  ⟨(some 24), .t (.iaddr 7 (.t 22) (.t 23)), none⟩,
  ⟨(some 25), .m (.load true 7 (.t 24)), none⟩,
  ⟨(some 9), .m (.alloc 170 [(.str []), (.int .i64 0), (.int .i64 0), (.int .i64 0), (.str []), .nils, .nils]), none⟩,
  ⟨none, .m (.store 7 (.t 9) (.t 25)), none⟩]
def F120o7 : List AOper := [
  ⟨(some 26), .t (.mv (.t 2)), none⟩,
  ⟨(some 27), .m (.load true 7 (.t 8)), none⟩,
  ⟨(some 28), .m (.load true 7 (.t 9)), none⟩,
  ⟨(some 29), .call (.t 26) [(.t 27), (.t 28)], none⟩,
  ⟨(some 10), .t (.mv (.t 29)), none⟩]
def F120o8 : List AOper := [
  ⟨(some 30), .t (.mv (.t 10)), none⟩,
  ⟨(some 31), .t (.bin .neq (.t 30) (.c (.int .i64 0))), none⟩]
def F120o9 : List AOper := [
  ⟨(some 32), .t (.mv (.t 10)), none⟩,
  ⟨(some 6), .t (.mv (.t 32)), none⟩]
def F120o10 : List AOper := [
  ⟨(some 33), .t (.bin .add (.t 13) (.c (.int .i64 1))), none⟩,
  ⟨(some 13), .t (.mv (.t 33)), none⟩]
def F120b11 : ACode :=
  (.seq (.ops F120o2 [0, 1, 2, 11, 12, 13, 14])
  ((.seq (.cond (.t 14)
    (.skip)
    (.exit 0))
   ((.seq (.block 1 ((.seq (.ops F120o3 [0, 1, 2, 7, 8, 11, 12, 13])
     ((.seq ((.seq (.ops F120o4 [0, 1, 2, 7, 8, 11, 12, 13, 21])
      (.cond (.t 21)
        ((.seq (.ops F120o5 [6])
         (.ret)))
        (.skip))))
      ((.seq (.ops F120o6 [0, 1, 2, 8, 9, 11, 12, 13])
       ((.seq (.ops F120o7 [0, 1, 2, 10, 11, 12, 13])
        ((.seq (.ops F120o8 [0, 1, 2, 10, 11, 12, 13, 31])
         (.cond (.t 31)
           ((.seq (.ops F120o9 [6])
            (.ret)))
           (.skip)))))))))))))
    (.ops F120o10 [0, 1, 2, 11, 12, 13]))))))
def F120o12 : List AOper := [
  ⟨(some 34), .t (.mv (.t 0)), none⟩,
  ⟨(some 35), .t (.len false (.t 34)), none⟩,
  ⟨(some 36), .t (.mv (.t 1)), none⟩,
  ⟨(some 37), .t (.len false (.t 36)), none⟩,
  ⟨(some 38), .t (.bin .lss (.t 35) (.t 37)), none⟩]
def F120o13 : List AOper := [
  ⟨(some 6), .t (.mv (.c (.int .i64 (-1)))), none⟩]
def F120o14 : List AOper := [
  ⟨(some 6), .t (.mv (.c (.int .i64 0))), none⟩]
def F120c : ACode :=
  (.seq (.ops F120o0 [0, 1, 2])
  ((.seq ((.seq (.ops F120o1 [0, 1, 2, 11, 12, 13])
   (.block 0 (.loop [0, 1, 2, 11, 12, 13] F120b11))))
   ((.seq ((.seq (.ops F120o12 [38])
    (.cond (.t 38)
      ((.seq (.ops F120o13 [6])
       (.ret)))
      (.skip))))
    ((.seq (.ops F120o14 [6])
     (.ret))))))))
def F120 : AFn := ⟨39, [.tmp 6], F120c⟩
theorem F120_ok : cFn Tryd.prog [] 120 = some F120 := by kernel_rfl

/- manifold/value.Compare$1 -/
def F121o0 : List AOper := [
  ⟨(some 2), .m (.cbox 170 (.t 0)), none⟩,
  ⟨(some 3), .m (.cbox 170 (.t 1)), none⟩,
  ⟨(some 4), .t (.mv (.c (.int .i64 0))), none⟩]
def F121o1 : List AOper := [
  ⟨(some 5), .t (.faddr 0 (.t 2)), none⟩,
  ⟨(some 6), .m (.load false 1 (.t 5)), none⟩,
  ⟨(some 7), .t (.faddr 0 (.t 3)), none⟩,
  ⟨(some 8), .m (.load false 1 (.t 7)), none⟩,
  ⟨(some 9), .call (.c (.clo 64 [] [])) [(.t 6), (.t 8)], none⟩,
  ⟨(some 10), .t (.faddr 1 (.t 2)), none⟩,
  ⟨(some 11), .m (.load true 6 (.t 10)), none⟩,
  ⟨(some 12), .t (.faddr 1 (.t 3)), none⟩,
  ⟨(some 13), .m (.load true 6 (.t 12)), none⟩]
def F121p1 : List AOper := [
  ⟨(some 14), .call (.c (.clo 114 [] [])) [(.t 11), (.t 13)], none⟩,
  ⟨(some 15), .m (.bslice false 3 1 2 [(.t 9), (.t 14)]), none⟩,
  ⟨(some 16), .call (.c (.clo 63 [] [])) [(.t 15)], none⟩,
  ⟨(some 4), .t (.mv (.t 16)), none⟩]
def F121A1 : List (List Nat) := [[], [0], [], [2], [1, 3, 0, 2], [], [5], [], [7], [6, 8, 4, 5, 7, 1, 3, 0, 2], [9, 6, 8, 4, 5, 7, 1, 3, 0, 2], [10, 9, 6, 8, 4, 5, 7, 1, 3, 0, 2], [11, 10, 9, 6, 8, 4, 5, 7, 1, 3, 0, 2]]
def F121c : ACode :=
  (.seq (.ops F121o0 [2, 3])
  ((.seq (.draw F121A1 F121o1 F121p1 [4])
   (.ret))))
def F121 : AFn := ⟨17, [.tmp 4], F121c⟩
theorem F121_ok : cFn Tryd.prog [2, 3] 121 = some F121 := by kernel_rfl

end Go.Proofs.YtfbakipopjoghaaDoor
