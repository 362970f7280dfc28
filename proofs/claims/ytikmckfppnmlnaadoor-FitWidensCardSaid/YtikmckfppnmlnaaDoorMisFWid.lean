/- More functions of the program as the logic reads them. -/
import Derived.Test.YtikmckfppnmlnaaDoorProg
import Derived.Test.YtikmckfppnmlnaaDoorCore4
import Derived.KernelRfl
set_option maxRecDepth 100000
namespace Go.Proofs.YtikmckfppnmlnaaDoor
open Go Go.Ab
/- manifold/manifoldlaw07.FitWidens -/
def F5o0 : List AOper := [
  ⟨(some 3), .m (.box 58 (.t 0)), none⟩,
  ⟨(some 4), .m (.box 62 (.t 1)), none⟩,
  ⟨(some 5), .m (.box 74 (.t 2)), none⟩,
  ⟨(some 6), .t (.mv (.c (.bool false))), none⟩]
def F5o1 : List AOper := [
  ⟨(some 8), .m (.load true 7 (.t 3)), none⟩,
  ⟨(some 9), .m (.load true 6 (.t 4)), none⟩,
  ⟨(some 10), .call (.c (.clo 22 [] [])) [(.t 8), (.t 9)], none⟩,
  ⟨(some 7), .t (.mv (.t 10)), none⟩,
  ⟨(some 11), .t (.ext (.t 7) 0), none⟩,
  ⟨(some 12), .t (.ext (.t 7) 1), none⟩,
  ⟨none, .m (.store 7 (.t 3) (.t 11)), none⟩,
  ⟨none, .m (.store 6 (.t 4) (.t 12)), none⟩]
def F5o2 : List AOper := [
  ⟨(some 13), .call (.c (.clo 25 [] [])) [], none⟩,
  ⟨(some 14), .t (.not (.t 13)), none⟩,
  ⟨(some 15), .t (.mv (.t 14)), none⟩,
  ⟨(some 16), .m (.load true 7 (.t 3)), (some (15, false))⟩,
  ⟨(some 17), .m (.load true 6 (.t 4)), (some (15, false))⟩,
  ⟨(some 18), .call (.c (.clo 26 [] [])) [(.t 16), (.t 17)], (some (15, false))⟩,
  ⟨(some 19), .t (.not (.t 18)), (some (15, false))⟩,
  ⟨(some 20), .t (.pick (.t 15) (.c (.bool true)) (.t 19)), none⟩]
def F5o3 : List AOper := [
  ⟨(some 21), .call (.c (.clo 25 [] [])) [], none⟩,
  ⟨(some 6), .t (.mv (.t 21)), none⟩]
def F5o4 : List AOper := [
  ⟨(some 22), .t (.faddr 1 (.t 3)), none⟩,
  ⟨(some 23), .m (.load false 1 (.t 22)), none⟩,
  ⟨(some 24), .t (.imax (.t 23) (.c (.int .i64 (-1152921504606846976)))), none⟩,
  ⟨(some 25), .t (.iaddrA 2 1 (.t 5) (.c (.int .i64 0))), none⟩,
  ⟨(some 26), .m (.load false 1 (.t 25)), none⟩,
  ⟨(some 27), .t (.conv .i64 (.t 26)), none⟩,
  ⟨(some 28), .t (.bin .sub (.t 24) (.t 27)), none⟩,
  ⟨(some 29), .t (.faddr 2 (.t 3)), none⟩,
  ⟨(some 30), .m (.load false 1 (.t 29)), none⟩,
  ⟨(some 31), .t (.imin (.t 30) (.c (.int .i64 1152921504606846976))), none⟩,
  ⟨(some 32), .t (.iaddrA 2 1 (.t 5) (.c (.int .i64 1))), none⟩,
  ⟨(some 33), .m (.load false 1 (.t 32)), none⟩,
  ⟨(some 34), .t (.conv .i64 (.t 33)), none⟩,
  ⟨(some 35), .t (.bin .add (.t 31) (.t 34)), none⟩,
  ⟨(some 36), .t (.faddr 1 (.t 3)), none⟩,
  ⟨none, .m (.store 1 (.t 36) (.t 28)), none⟩]
def F5p4 : List AOper := [
  ⟨(some 37), .t (.faddr 2 (.t 3)), none⟩,
  ⟨none, .m (.store 1 (.t 37) (.t 35)), none⟩]
def F5A4 : List (List Nat) := [[], [0], [1, 0], [], [3], [4, 3], [2, 5, 1, 0, 4, 3], [], [7], [8, 7], [], [10], [11, 10], [9, 12, 8, 7, 11, 10], [6, 8, 2, 5, 1, 0, 4, 3, 7], [14, 6, 8, 2, 5, 1, 0, 4, 3, 7], [13, 15, 9, 12, 11, 10, 14, 6, 8, 2, 5, 1, 0, 4, 3, 7], [16, 13, 15, 9, 12, 11, 10, 14, 6, 8, 2, 5, 1, 0, 4, 3, 7]]
def F5o5 : List AOper := [
  ⟨(some 38), .t (.faddr 1 (.t 4)), none⟩,
  ⟨(some 39), .m (.load false 1 (.t 38)), none⟩,
  ⟨(some 40), .t (.bin .lss (.t 39) (.c (.int .i64 (-1152921504606846976)))), none⟩,
  ⟨(some 41), .t (.mv (.t 40)), none⟩,
  ⟨(some 42), .t (.faddr 1 (.t 4)), (some (41, false))⟩,
  ⟨(some 43), .m (.load false 1 (.t 42)), (some (41, false))⟩,
  ⟨(some 44), .t (.bin .gtr (.t 43) (.c (.int .i64 1152921504606846976))), (some (41, false))⟩,
  ⟨(some 45), .t (.pick (.t 41) (.c (.bool true)) (.t 44)), none⟩,
  ⟨(some 46), .t (.mv (.t 45)), none⟩,
  ⟨(some 47), .m (.load true 7 (.t 3)), (some (46, false))⟩,
  ⟨(some 48), .m (.load true 6 (.t 4)), (some (46, false))⟩,
  ⟨(some 49), .call (.c (.clo 26 [] [])) [(.t 47), (.t 48)], (some (46, false))⟩,
  ⟨(some 50), .t (.pick (.t 46) (.c (.bool true)) (.t 49)), none⟩,
  ⟨(some 6), .t (.mv (.t 50)), none⟩]
def F5c : ACode :=
  (.seq (.ops F5o0 [3, 4, 5])
  ((.seq (.ops F5o1 [3, 4, 5])
   ((.seq ((.seq (.ops F5o2 [3, 4, 5, 20])
    (.cond (.t 20)
      ((.seq (.ops F5o3 [6])
       (.ret)))
      (.skip))))
    ((.seq (.draw F5A4 F5o4 F5p4 [3, 4])
     ((.seq (.ops F5o5 [6])
      (.ret))))))))))
def F5 : AFn := ⟨51, [.tmp 6], F5c⟩
theorem F5_ok : cFn Tryd.prog [] 5 = some F5 := by kernel_rfl

end Go.Proofs.YtikmckfppnmlnaaDoor
