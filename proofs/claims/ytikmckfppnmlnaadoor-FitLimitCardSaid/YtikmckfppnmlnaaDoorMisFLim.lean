/- More functions of the program as the logic reads them. -/
import Derived.Test.YtikmckfppnmlnaaDoorProg
import Derived.Test.YtikmckfppnmlnaaDoorCore4
import Derived.KernelRfl
set_option maxRecDepth 100000
namespace Go.Proofs.YtikmckfppnmlnaaDoor
open Go Go.Ab
/- manifold/manifoldlaw07.FitLimit -/
def F6o0 : List AOper := [
  ⟨(some 2), .t (.mv (.c (.bool false))), none⟩]
def F6o1 : List AOper := [
  ⟨(some 9), .t (.build [(.int .i64 0), (.int .i64 0), (.int .i64 0), (.str []), .nils, .nils] [(0, 1, (.c (.int .i64 8)))]), none⟩,
  ⟨(some 3), .m (.alloc 62 [(.int .i64 0), (.int .i64 0), (.int .i64 0), (.str []), .nils, .nils]), none⟩,
  ⟨none, .m (.store 6 (.t 3) (.t 9)), none⟩]
def F6o2 : List AOper := [
  ⟨(some 4), .t (.mv (.c (.int .i64 0))), none⟩]
def F6o3 : List AOper := [
  ⟨(some 10), .t (.mv (.t 4)), none⟩,
  ⟨(some 11), .t (.mv (.t 0)), none⟩,
  ⟨(some 12), .t (.conv .i64 (.t 11)), none⟩,
  ⟨(some 13), .t (.bin .lss (.t 10) (.t 12)), none⟩]
def F6o4 : List AOper := [
  ⟨(some 16), .t (.faddr 4 (.t 3)), none⟩,
  ⟨(some 17), .m (.load false 1 (.t 16)), none⟩,
  ⟨(some 18), .t (.build [(.int .i64 0), (.int .i64 0), (.int .i64 0), (.str []), .nils, .nils] [(0, 1, (.c (.int .i64 1)))]), none⟩,
  ⟨(some 19), .m (.bslice false 62 6 1 [(.t 18)]), none⟩,
  ⟨(some 20), .m (.append false 62 6 88 (.t 17) (.t 19)), none⟩,
  ⟨(some 21), .t (.faddr 4 (.t 3)), none⟩,
  ⟨none, .m (.store 1 (.t 21) (.t 20)), none⟩]
def F6o5 : List AOper := [
  ⟨(some 14), .t (.mv (.t 4)), none⟩,
  ⟨(some 15), .t (.bin .add (.t 14) (.c (.int .i64 1))), none⟩,
  ⟨(some 4), .t (.mv (.t 15)), none⟩]
def F6b6 : ACode :=
  (.seq ((.seq (.ops F6o3 [0, 3, 4, 13])
  (.cond (.t 13)
    (.skip)
    (.exit 0))))
  ((.seq (.block 1 (.ops F6o4 [0, 3, 4]))
   (.ops F6o5 [0, 3, 4]))))
def F6o7 : List AOper := [
  ⟨(some 22), .t (.build [(.int .i64 0), (.int .i64 0), (.int .i64 0), (.int .i64 0), .nils, .nils, .nils] [(0, 1, (.c (.int .i64 2)))]), none⟩,
  ⟨(some 23), .m (.bslice false 58 7 1 [(.t 22)]), none⟩,
  ⟨(some 24), .t (.build [(.int .i64 0), (.int .i64 0), (.int .i64 0), (.int .i64 0), .nils, .nils, .nils] [(0, 1, (.c (.int .i64 8))), (2, 1, (.c (.int .i64 300))), (5, 1, (.t 23))]), none⟩,
  ⟨(some 5), .m (.alloc 58 [(.int .i64 0), (.int .i64 0), (.int .i64 0), (.int .i64 0), .nils, .nils, .nils]), none⟩,
  ⟨none, .m (.store 7 (.t 5) (.t 24)), none⟩]
def F6o8 : List AOper := [
  ⟨(some 25), .m (.load true 7 (.t 5)), none⟩,
  ⟨(some 26), .m (.load true 6 (.t 3)), none⟩,
  ⟨(some 27), .call (.c (.clo 23 [] [])) [(.t 25), (.t 26)], none⟩,
  ⟨(some 6), .t (.mv (.t 27)), none⟩]
def F6o9 : List AOper := [
  ⟨(some 28), .call (.c (.clo 25 [] [])) [], none⟩,
  ⟨(some 29), .t (.not (.t 28)), none⟩,
  ⟨(some 30), .t (.mv (.t 29)), none⟩,
  ⟨(some 31), .t (.mv (.t 6)), (some (30, false))⟩,
  ⟨(some 32), .t (.len false (.t 31)), (some (30, false))⟩,
  ⟨(some 33), .t (.mv (.t 0)), (some (30, false))⟩,
  ⟨(some 34), .t (.conv .i64 (.t 33)), (some (30, false))⟩,
  ⟨(some 35), .t (.imin (.t 34) (.c (.int .i64 64))), (some (30, false))⟩,
  ⟨(some 36), .t (.bin .neq (.t 32) (.t 35)), (some (30, false))⟩,
  ⟨(some 37), .t (.pick (.t 30) (.c (.bool true)) (.t 36)), none⟩,
  ⟨(some 38), .t (.mv (.t 37)), none⟩,
  ⟨(some 39), .m (.load true 7 (.t 5)), (some (38, false))⟩,
  ⟨(some 40), .m (.load true 6 (.t 3)), (some (38, false))⟩,
  ⟨(some 41), .call (.c (.clo 26 [] [])) [(.t 39), (.t 40)], (some (38, false))⟩,
  ⟨(some 42), .t (.mv (.t 0)), (some (38, false))⟩,
  ⟨(some 43), .t (.bin .eql (.t 42) (.c (.int .u8 0))), (some (38, false))⟩,
  ⟨(some 44), .t (.beq 0 true (.t 41) (.t 43)), (some (38, false))⟩,
  ⟨(some 45), .t (.pick (.t 38) (.c (.bool true)) (.t 44)), none⟩]
def F6o10 : List AOper := [
  ⟨(some 2), .t (.mv (.c (.bool false))), none⟩]
def F6o11 : List AOper := [
  ⟨(some 46), .m (.load true 7 (.t 5)), none⟩,
  ⟨(some 47), .m (.load true 6 (.t 3)), none⟩,
  ⟨(some 48), .call (.c (.clo 24 [] [])) [(.t 46), (.t 47), (.c (.str []))], none⟩,
  ⟨(some 7), .t (.mv (.t 48)), none⟩]
def F6o12 : List AOper := [
  ⟨(some 8), .t (.mv (.c (.int .i64 0))), none⟩]
def F6o13 : List AOper := [
  ⟨(some 49), .t (.mv (.t 8)), none⟩,
  ⟨(some 50), .t (.mv (.t 6)), none⟩,
  ⟨(some 51), .t (.len false (.t 50)), none⟩,
  ⟨(some 52), .t (.bin .lss (.t 49) (.t 51)), none⟩]
def F6o14 : List AOper := [
  ⟨(some 55), .t (.mv (.t 6)), none⟩,
  ⟨(some 56), .t (.mv (.t 8)), none⟩,
  ⟨(some 57), .t (.iaddr 2 (.t 55) (.t 56)), none⟩,
  ⟨(some 58), .t (.faddr 0 (.t 57)), none⟩,
  ⟨(some 59), .m (.load false 1 (.t 58)), none⟩,
  ⟨(some 60), .t (.mv (.t 7)), none⟩,
  ⟨(some 61), .t (.mv (.t 8)), none⟩,
  ⟨(some 62), .t (.iaddr 2 (.t 60) (.t 61)), none⟩,
  ⟨(some 63), .t (.faddr 0 (.t 62)), none⟩,
  ⟨(some 64), .m (.load false 1 (.t 63)), none⟩,
  ⟨(some 65), .t (.bin .neq (.t 59) (.t 64)), none⟩,
  ⟨(some 66), .t (.mv (.t 65)), none⟩,
  ⟨(some 67), .t (.mv (.t 6)), (some (66, false))⟩,
  ⟨(some 68), .t (.mv (.t 8)), (some (66, false))⟩]
def F6p14 : List AOper := [
  ⟨(some 69), .t (.iaddr 2 (.t 67) (.t 68)), (some (66, false))⟩,
  ⟨(some 70), .t (.faddr 1 (.t 69)), (some (66, false))⟩,
  ⟨(some 71), .m (.load false 1 (.t 70)), (some (66, false))⟩,
  ⟨(some 72), .t (.bin .neq (.t 71) (.c (.int .i64 1))), (some (66, false))⟩,
  ⟨(some 73), .t (.pick (.t 66) (.c (.bool true)) (.t 72)), none⟩]
def F6A14 : List (List Nat) := [[], [], [0, 1], [2, 0, 1], [3, 2, 0, 1], [], [], [5, 6], [7, 5, 6], [8, 7, 5, 6], [4, 9, 3, 2, 0, 1, 8, 7, 5, 6], [10, 4, 9, 3, 2, 0, 1, 8, 7, 5, 6], [11, 10, 4, 9, 3, 2, 0, 1, 8, 7, 5, 6], [11, 10, 4, 9, 3, 2, 0, 1, 8, 7, 5, 6], [12, 13, 11, 10, 4, 9, 3, 2, 0, 1, 8, 7, 5, 6], [14, 12, 13, 11, 10, 4, 9, 3, 2, 0, 1, 8, 7, 5, 6], [15, 14, 12, 13, 11, 10, 4, 9, 3, 2, 0, 1, 8, 7, 5, 6], [16, 15, 14, 12, 13, 11, 10, 4, 9, 3, 2, 0, 1, 8, 7, 5, 6], [17, 16, 15, 14, 12, 13, 11, 10, 4, 9, 3, 2, 0, 1, 8, 7, 5, 6]]
def F6o15 : List AOper := [
  ⟨(some 2), .t (.mv (.c (.bool false))), none⟩]
def F6o16 : List AOper := [
  ⟨(some 53), .t (.mv (.t 8)), none⟩,
  ⟨(some 54), .t (.bin .add (.t 53) (.c (.int .i64 1))), none⟩,
  ⟨(some 8), .t (.mv (.t 54)), none⟩]
def F6b17 : ACode :=
  (.seq ((.seq (.ops F6o13 [6, 7, 8, 52])
  (.cond (.t 52)
    (.skip)
    (.exit 2))))
  ((.seq (.block 3 ((.seq (.draw F6A14 F6o14 F6p14 [6, 7, 8, 73])
    (.cond (.t 73)
      ((.seq (.ops F6o15 [2])
       (.ret)))
      (.skip)))))
   (.ops F6o16 [6, 7, 8]))))
def F6o18 : List AOper := [
  ⟨(some 2), .t (.mv (.c (.bool true))), none⟩]
def F6c : ACode :=
  (.seq (.ops F6o0 [0])
  ((.seq (.ops F6o1 [0, 3])
   ((.seq ((.seq (.ops F6o2 [0, 3, 4])
    (.block 0 (.loop [0, 3, 4] F6b6))))
    ((.seq (.ops F6o7 [0, 3, 5])
     ((.seq (.ops F6o8 [0, 3, 5, 6])
      ((.seq ((.seq (.ops F6o9 [3, 5, 6, 45])
       (.cond (.t 45)
         ((.seq (.ops F6o10 [2])
          (.ret)))
         (.skip))))
       ((.seq (.ops F6o11 [6, 7])
        ((.seq ((.seq (.ops F6o12 [6, 7, 8])
         (.block 2 (.loop [6, 7, 8] F6b17))))
         ((.seq (.ops F6o18 [2])
          (.ret))))))))))))))))))
def F6 : AFn := ⟨74, [.tmp 2], F6c⟩
theorem F6_ok : cFn Tryd.prog [] 6 = some F6 := by kernel_rfl

end Go.Proofs.YtikmckfppnmlnaaDoor
