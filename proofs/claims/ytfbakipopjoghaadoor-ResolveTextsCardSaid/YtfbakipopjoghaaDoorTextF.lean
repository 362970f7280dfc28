/- Functions of the program as the logic reads them, each with the proof that it is so read. -/
import Derived.Test.YtfbakipopjoghaaDoorProg
import Derived.Test.YtfbakipopjoghaaDoorCore4
import Derived.KernelRfl
set_option maxRecDepth 100000
namespace Go.Proofs.YtfbakipopjoghaaDoor
open Go Go.Ab
/- manifold/manifoldlaw23.ResolveAutomatic -/
def F4o0 : List AOper := [
  ⟨(some 4), .t (.mv (.c (.bool false))), none⟩]
def F4o1 : List AOper := [
  ⟨(some 5), .t (.mv (.t 1)), none⟩,
  ⟨(some 6), .t (.mv (.t 1)), none⟩,
  ⟨(some 7), .t (.len false (.t 6)), none⟩,
  ⟨(some 8), .t (.imin (.t 7) (.c (.int .i64 20))), none⟩,
  ⟨(some 9), .t (.sliceL 1 (.t 5) none (some (.t 8))), none⟩,
  ⟨(some 1), .t (.mv (.t 9)), none⟩]
def F4o2 : List AOper := [
  ⟨(some 10), .call (.c (.clo 14 [] [])) [], none⟩,
  ⟨(some 11), .t (.mv (.t 10)), none⟩,
  ⟨(some 12), .t (.mv (.t 0)), (some (11, true))⟩,
  ⟨(some 13), .t (.mv (.t 1)), (some (11, true))⟩,
  ⟨(some 14), .call (.c (.clo 17 [] [])) [(.t 12), (.t 13)], (some (11, true))⟩,
  ⟨(some 15), .t (.mv (.t 0)), (some (11, true))⟩,
  ⟨(some 16), .t (.mv (.t 1)), (some (11, true))⟩,
  ⟨(some 17), .call (.c (.clo 18 [] [])) [(.t 15), (.t 16)], (some (11, true))⟩,
  ⟨(some 18), .t (.bin .eql (.t 14) (.t 17)), (some (11, true))⟩,
  ⟨(some 19), .t (.pick (.t 11) (.t 18) (.c (.bool false))), none⟩,
  ⟨(some 20), .t (.mv (.t 19)), none⟩,
  ⟨(some 21), .t (.mv (.t 1)), (some (20, true))⟩,
  ⟨(some 22), .call (.c (.clo 19 [] [])) [(.t 21)], (some (20, true))⟩,
  ⟨(some 23), .t (.mv (.t 1)), (some (20, true))⟩,
  ⟨(some 24), .call (.c (.clo 20 [] [])) [(.t 23)], (some (20, true))⟩,
  ⟨(some 25), .t (.bin .eql (.t 22) (.t 24)), (some (20, true))⟩,
  ⟨(some 26), .t (.pick (.t 20) (.t 25) (.c (.bool false))), none⟩,
  ⟨(some 4), .t (.mv (.t 26)), none⟩]
def F4c : ACode :=
  (.seq (.ops F4o0 [0, 1])
  ((.seq (.ops F4o1 [0, 1])
   ((.seq (.ops F4o2 [4])
    (.ret))))))
def F4 : AFn := ⟨27, [.tmp 4], F4c⟩
theorem F4_ok : cFn Tryd.prog [] 4 = some F4 := by kernel_rfl

/- manifold/manifoldlaw23.ResolveTexts -/
def F7o0 : List AOper := [
  ⟨(some 1), .m (.box 63 (.t 0)), none⟩,
  ⟨(some 2), .t (.mv (.c (.bool false))), none⟩]
def F7o1 : List AOper := [
  ⟨(some 8), .m (.load true 4 (.t 1)), none⟩,
  ⟨(some 9), .call (.c (.clo 30 [] [])) [(.t 8)], none⟩,
  ⟨none, .m (.store 4 (.t 1) (.t 9)), none⟩]
def F7o2 : List AOper := [
  ⟨(some 10), .m (.bslice false 9 1 17 [(.c (.str [])), (.c (.str [110, 97, 109, 101])), (.c (.str [100, 117, 112, 108, 105, 99, 97, 116, 101])), (.c (.str [117, 110, 107, 110, 111, 119, 110])), (.c (.str [107, 105, 110, 100])), (.c (.str [102, 111, 114, 109])), (.c (.str [101, 110, 100])), (.c (.str [98, 101, 104, 105, 110, 100])), (.c (.str [101, 120, 112, 114, 101, 115, 115, 105, 111, 110])), (.c (.str [109, 97, 112, 112, 105, 110, 103])), (.c (.str [115, 99, 104, 101, 109, 97])), (.c (.str [102, 111, 114, 109, 97, 116])), (.c (.str [117, 110, 100, 111])), (.c (.str [117, 110, 114, 101, 97, 99, 104, 97, 98, 108, 101])), (.c (.str [99, 121, 99, 108, 101])), (.c (.str [99, 111, 109, 112, 108, 101, 116, 105, 111, 110])), (.c (.str [108, 105, 109, 105, 116]))]), none⟩,
  ⟨(some 3), .t (.mv (.t 10)), none⟩]
def F7o3 : List AOper := [
  ⟨(some 4), .t (.mv (.c (.str []))), none⟩]
def F7o4 : List AOper := [
  ⟨(some 11), .t (.faddr 0 (.t 1)), none⟩,
  ⟨(some 12), .m (.load false 1 (.t 11)), none⟩,
  ⟨(some 13), .call (.c (.clo 31 [] [])) [(.t 12), (.c (.int .i64 1)), (.c (.int .i64 16))], none⟩]
def F7o5 : List AOper := [
  ⟨(some 14), .t (.mv (.t 3)), none⟩,
  ⟨(some 15), .t (.faddr 0 (.t 1)), none⟩,
  ⟨(some 16), .m (.load false 1 (.t 15)), none⟩,
  ⟨(some 17), .t (.iaddr 1 (.t 14) (.t 16)), none⟩,
  ⟨(some 18), .m (.load false 1 (.t 17)), none⟩,
  ⟨(some 4), .t (.mv (.t 18)), none⟩]
def F7o6 : List AOper := [
  ⟨(some 5), .t (.mv (.c (.str []))), none⟩]
def F7o7 : List AOper := [
  ⟨(some 19), .t (.faddr 1 (.t 1)), none⟩,
  ⟨(some 20), .m (.load false 1 (.t 19)), none⟩,
  ⟨(some 21), .t (.faddr 2 (.t 1)), none⟩,
  ⟨(some 22), .m (.load false 1 (.t 21)), none⟩,
  ⟨(some 23), .call (.c (.clo 20 [] [])) [(.t 22)], none⟩,
  ⟨(some 24), .t (.mv (.t 4)), none⟩,
  ⟨(some 25), .t (.faddr 3 (.t 1)), none⟩,
  ⟨(some 26), .m (.load false 1 (.t 25)), none⟩,
  ⟨(some 27), .m (.bslice false 9 1 4 [(.t 20), (.t 23), (.t 24), (.t 26)]), none⟩,
  ⟨(some 28), .t (.len false (.t 27)), none⟩,
  ⟨(some 29), .t (.mv (.c (.int .i64 0))), none⟩]
def F7p7 : List AOper := [
  ]
def F7A7 : List (List Nat) := [[], [0], [], [2], [3, 2], [], [], [6], [1, 4, 5, 7, 0, 3, 2, 6], [8, 1, 4, 5, 7, 0, 3, 2, 6], []]
def F7o8 : List AOper := [
  ⟨(some 30), .t (.bin .lss (.t 29) (.t 28)), none⟩]
def F7o9 : List AOper := [
  ⟨(some 31), .t (.iaddr 1 (.t 27) (.t 29)), none⟩,
  ⟨(some 32), .m (.load false 1 (.t 31)), none⟩,
  ⟨(some 7), .t (.mv (.t 32)), none⟩]
def F7o10 : List AOper := [
  ⟨(some 33), .t (.mv (.t 7)), none⟩,
  ⟨(some 34), .t (.bin .neq (.t 33) (.c (.str []))), none⟩,
  ⟨(some 35), .t (.mv (.t 34)), none⟩,
  ⟨(some 36), .t (.mv (.t 5)), (some (35, true))⟩,
  ⟨(some 37), .t (.bin .neq (.t 36) (.c (.str []))), (some (35, true))⟩,
  ⟨(some 38), .t (.pick (.t 35) (.t 37) (.c (.bool false))), none⟩]
def F7o11 : List AOper := [
  ⟨(some 39), .t (.mv (.t 5)), none⟩,
  ⟨(some 40), .t (.bin .add (.t 39) (.c (.str [32]))), none⟩,
  ⟨(some 5), .t (.mv (.t 40)), none⟩]
def F7o12 : List AOper := [
  ⟨(some 41), .t (.mv (.t 5)), none⟩,
  ⟨(some 42), .t (.mv (.t 7)), none⟩,
  ⟨(some 43), .t (.bin .add (.t 41) (.t 42)), none⟩,
  ⟨(some 5), .t (.mv (.t 43)), none⟩]
def F7o13 : List AOper := [
  ⟨(some 44), .t (.bin .add (.t 29) (.c (.int .i64 1))), none⟩,
  ⟨(some 29), .t (.mv (.t 44)), none⟩]
def F7b14 : ACode :=
  (.seq (.ops F7o8 [1, 4, 5, 27, 28, 29, 30])
  ((.seq (.cond (.t 30)
    (.skip)
    (.exit 0))
   ((.seq (.block 1 ((.seq (.ops F7o9 [1, 4, 5, 7, 27, 28, 29])
     ((.seq ((.seq (.ops F7o10 [1, 4, 5, 7, 27, 28, 29, 38])
      (.cond (.t 38)
        (.ops F7o11 [1, 4, 5, 7, 27, 28, 29])
        (.skip))))
      (.ops F7o12 [1, 4, 5, 27, 28, 29]))))))
    (.ops F7o13 [1, 4, 5, 27, 28, 29]))))))
def F7o15 : List AOper := [
  ⟨(some 45), .call (.c (.clo 14 [] [])) [], none⟩,
  ⟨(some 46), .t (.mv (.t 45)), none⟩,
  ⟨(some 47), .t (.faddr 0 (.t 1)), (some (46, true))⟩,
  ⟨(some 48), .m (.load false 1 (.t 47)), (some (46, true))⟩,
  ⟨(some 49), .call (.c (.clo 32 [] [])) [(.t 48)], (some (46, true))⟩,
  ⟨(some 50), .t (.mv (.t 4)), (some (46, true))⟩,
  ⟨(some 51), .t (.bin .eql (.t 49) (.t 50)), (some (46, true))⟩,
  ⟨(some 52), .t (.pick (.t 46) (.t 51) (.c (.bool false))), none⟩,
  ⟨(some 53), .t (.mv (.t 52)), none⟩,
  ⟨(some 54), .m (.load true 4 (.t 1)), (some (53, true))⟩,
  ⟨(some 55), .call (.c (.clo 33 [] [])) [(.t 54)], (some (53, true))⟩,
  ⟨(some 56), .t (.mv (.t 5)), (some (53, true))⟩,
  ⟨(some 57), .t (.bin .eql (.t 55) (.t 56)), (some (53, true))⟩,
  ⟨(some 58), .t (.pick (.t 53) (.t 57) (.c (.bool false))), none⟩,
  ⟨(some 2), .t (.mv (.t 58)), none⟩]
def F7c : ACode :=
  (.seq (.ops F7o0 [1])
  ((.seq (.ops F7o1 [1])
   ((.seq (.ops F7o2 [1, 3])
    ((.seq (.ops F7o3 [1, 3, 4])
     ((.seq ((.seq (.ops F7o4 [1, 3, 4, 13])
      (.cond (.t 13)
        (.ops F7o5 [1, 4])
        (.skip))))
      ((.seq (.ops F7o6 [1, 4, 5])
       ((.seq ((.seq (.draw F7A7 F7o7 F7p7 [1, 4, 5, 27, 28, 29])
        (.block 0 (.loop [1, 4, 5, 27, 28, 29] F7b14))))
        ((.seq (.ops F7o15 [2])
         (.ret))))))))))))))))
def F7 : AFn := ⟨59, [.tmp 2], F7c⟩
theorem F7_ok : cFn Tryd.prog [] 7 = some F7 := by kernel_rfl

/- manifold/manifoldlaw23.ResolveOrders -/
def F8o0 : List AOper := [
  ⟨(some 3), .m (.box 63 (.t 0)), none⟩,
  ⟨(some 4), .m (.box 63 (.t 1)), none⟩,
  ⟨(some 5), .m (.box 63 (.t 2)), none⟩,
  ⟨(some 6), .t (.mv (.c (.bool false))), none⟩]
def F8o1 : List AOper := [
  ⟨(some 10), .m (.load true 4 (.t 3)), none⟩,
  ⟨(some 11), .call (.c (.clo 30 [] [])) [(.t 10)], none⟩,
  ⟨(some 12), .m (.load true 4 (.t 4)), none⟩,
  ⟨(some 13), .call (.c (.clo 30 [] [])) [(.t 12)], none⟩,
  ⟨(some 14), .m (.load true 4 (.t 5)), none⟩]
def F8p1 : List AOper := [
  ⟨(some 15), .call (.c (.clo 30 [] [])) [(.t 14)], none⟩,
  ⟨none, .m (.store 4 (.t 3) (.t 11)), none⟩,
  ⟨none, .m (.store 4 (.t 4) (.t 13)), none⟩,
  ⟨none, .m (.store 4 (.t 5) (.t 15)), none⟩]
def F8A1 : List (List Nat) := [[], [0], [], [2, 1, 0], [], [4, 3, 2, 1, 0], [5, 4, 3, 2, 1, 0], [6, 5, 4, 3, 2, 1, 0], [7, 6, 5, 4, 3, 2, 1, 0]]
def F8o2 : List AOper := [
  ⟨(some 16), .m (.load true 4 (.t 3)), none⟩,
  ⟨(some 17), .m (.load true 4 (.t 4)), none⟩,
  ⟨(some 18), .call (.c (.clo 34 [] [])) [(.t 16), (.t 17)], none⟩,
  ⟨(some 19), .m (.load true 4 (.t 4)), none⟩,
  ⟨(some 20), .m (.load true 4 (.t 5)), none⟩,
  ⟨(some 21), .call (.c (.clo 34 [] [])) [(.t 19), (.t 20)], none⟩,
  ⟨(some 22), .m (.load true 4 (.t 3)), none⟩,
  ⟨(some 23), .m (.load true 4 (.t 5)), none⟩]
def F8p2 : List AOper := [
  ⟨(some 24), .call (.c (.clo 34 [] [])) [(.t 22), (.t 23)], none⟩,
  ⟨(some 7), .t (.mv (.t 18)), none⟩,
  ⟨(some 8), .t (.mv (.t 21)), none⟩,
  ⟨(some 9), .t (.mv (.t 24)), none⟩]
def F8A2 : List (List Nat) := [[], [], [0, 1], [], [], [3, 4, 2, 0, 1], [], [], [6, 7, 5, 3, 4, 2, 0, 1], [8, 6, 7, 5, 3, 4, 2, 0, 1], [9, 8, 6, 7, 5, 3, 4, 2, 0, 1], [10, 9, 8, 6, 7, 5, 3, 4, 2, 0, 1]]
def F8o3 : List AOper := [
  ⟨(some 25), .call (.c (.clo 14 [] [])) [], none⟩,
  ⟨(some 26), .t (.mv (.t 25)), none⟩,
  ⟨(some 27), .t (.mv (.t 7)), (some (26, true))⟩,
  ⟨(some 28), .m (.load true 4 (.t 3)), (some (26, true))⟩,
  ⟨(some 29), .m (.load true 4 (.t 4)), (some (26, true))⟩,
  ⟨(some 30), .call (.c (.clo 35 [] [])) [(.t 28), (.t 29)], (some (26, true))⟩,
  ⟨(some 31), .t (.bin .eql (.t 27) (.t 30)), (some (26, true))⟩,
  ⟨(some 32), .t (.pick (.t 26) (.t 31) (.c (.bool false))), none⟩,
  ⟨(some 33), .t (.mv (.t 32)), none⟩,
  ⟨(some 34), .m (.load true 4 (.t 4)), (some (33, true))⟩,
  ⟨(some 35), .m (.load true 4 (.t 3)), (some (33, true))⟩,
  ⟨(some 36), .call (.c (.clo 34 [] [])) [(.t 34), (.t 35)], (some (33, true))⟩,
  ⟨(some 37), .t (.mv (.t 7)), (some (33, true))⟩,
  ⟨(some 38), .t (.neg (.t 37)), (some (33, true))⟩,
  ⟨(some 39), .t (.bin .eql (.t 36) (.t 38)), (some (33, true))⟩,
  ⟨(some 40), .t (.pick (.t 33) (.t 39) (.c (.bool false))), none⟩,
  ⟨(some 41), .t (.mv (.t 40)), none⟩,
  ⟨(some 42), .t (.mv (.t 7)), (some (41, true))⟩,
  ⟨(some 43), .t (.bin .gtr (.t 42) (.c (.int .i64 0))), (some (41, true))⟩,
  ⟨(some 44), .t (.mv (.t 43)), (some (41, true))⟩,
  ⟨(some 45), .t (.mv (.t 8)), (some (44, false))⟩,
  ⟨(some 46), .t (.bin .gtr (.t 45) (.c (.int .i64 0))), (some (44, false))⟩,
  ⟨(some 47), .t (.pick (.t 44) (.c (.bool true)) (.t 46)), (some (41, true))⟩,
  ⟨(some 48), .t (.mv (.t 47)), (some (41, true))⟩,
  ⟨(some 49), .t (.mv (.t 9)), (some (48, false))⟩,
  ⟨(some 50), .t (.bin .leq (.t 49) (.c (.int .i64 0))), (some (48, false))⟩,
  ⟨(some 51), .t (.pick (.t 48) (.c (.bool true)) (.t 50)), (some (41, true))⟩,
  ⟨(some 52), .t (.pick (.t 41) (.t 51) (.c (.bool false))), none⟩,
  ⟨(some 53), .t (.mv (.t 52)), none⟩,
  ⟨(some 54), .m (.load true 4 (.t 3)), (some (53, true))⟩,
  ⟨(some 55), .m (.load true 4 (.t 3)), (some (53, true))⟩,
  ⟨(some 56), .call (.c (.clo 34 [] [])) [(.t 54), (.t 55)], (some (53, true))⟩,
  ⟨(some 57), .t (.bin .eql (.t 56) (.c (.int .i64 0))), (some (53, true))⟩,
  ⟨(some 58), .t (.pick (.t 53) (.t 57) (.c (.bool false))), none⟩,
  ⟨(some 6), .t (.mv (.t 58)), none⟩]
def F8c : ACode :=
  (.seq (.ops F8o0 [3, 4, 5])
  ((.seq (.draw F8A1 F8o1 F8p1 [3, 4, 5])
   ((.seq (.draw F8A2 F8o2 F8p2 [3, 4, 7, 8, 9])
    ((.seq (.ops F8o3 [6])
     (.ret))))))))
def F8 : AFn := ⟨59, [.tmp 6], F8c⟩
theorem F8_ok : cFn Tryd.prog [] 8 = some F8 := by kernel_rfl

/- manifold/manifoldlaw23.shortSteps -/
def F11o0 : List AOper := [
  ⟨(some 4), .t (.mv (.c .nils)), none⟩]
def F11o1 : List AOper := [
  ⟨(some 5), .t (.mv (.c .nils)), none⟩]
def F11o2 : List AOper := [
  ⟨(some 6), .t (.mv (.c (.int .i64 0))), none⟩]
def F11o3 : List AOper := [
  ⟨(some 11), .t (.mv (.t 6)), none⟩,
  ⟨(some 12), .t (.mv (.t 0)), none⟩,
  ⟨(some 13), .t (.len false (.t 12)), none⟩,
  ⟨(some 14), .t (.bin .lss (.t 11) (.t 13)), none⟩,
  ⟨(some 15), .t (.mv (.t 14)), none⟩,
  ⟨(some 16), .t (.mv (.t 6)), (some (15, true))⟩,
  ⟨(some 17), .t (.bin .lss (.t 16) (.c (.int .i64 8))), (some (15, true))⟩,
  ⟨(some 18), .t (.pick (.t 15) (.t 17) (.c (.bool false))), none⟩]
def F11o4 : List AOper := [
  ⟨(some 21), .t (.mv (.t 0)), none⟩,
  ⟨(some 22), .t (.mv (.t 6)), none⟩,
  ⟨(some 23), .t (.iaddr 11 (.t 21) (.t 22)), none⟩,
  ⟨(some 24), .m (.load true 11 (.t 23)), none⟩,
  ⟨(some 7), .m (.alloc 32 [(.str []), (.int .i64 0), (.int .i64 0), (.int .i64 0), (.int .i64 0), (.str []), (.str []), .nils, .nils, .nils, .nils]), none⟩,
  ⟨none, .m (.store 11 (.t 7) (.t 24)), none⟩]
def F11o5 : List AOper := [
  ⟨(some 25), .t (.faddr 0 (.t 7)), none⟩,
  ⟨(some 26), .m (.load false 1 (.t 25)), none⟩,
  ⟨(some 27), .call (.c (.clo 22 [] [])) [(.t 26)], none⟩,
  ⟨(some 28), .t (.faddr 5 (.t 7)), none⟩,
  ⟨(some 29), .m (.load false 1 (.t 28)), none⟩,
  ⟨(some 30), .call (.c (.clo 22 [] [])) [(.t 29)], none⟩,
  ⟨(some 31), .t (.faddr 6 (.t 7)), none⟩,
  ⟨(some 32), .m (.load false 1 (.t 31)), none⟩,
  ⟨(some 33), .call (.c (.clo 22 [] [])) [(.t 32)], none⟩,
  ⟨(some 34), .t (.faddr 0 (.t 7)), none⟩]
def F11p5 : List AOper := [
  ⟨none, .m (.store 1 (.t 34) (.t 27)), none⟩,
  ⟨(some 35), .t (.faddr 5 (.t 7)), none⟩,
  ⟨none, .m (.store 1 (.t 35) (.t 30)), none⟩,
  ⟨(some 36), .t (.faddr 6 (.t 7)), none⟩,
  ⟨none, .m (.store 1 (.t 36) (.t 33)), none⟩]
def F11A5 : List (List Nat) := [[], [0], [1, 0], [], [3], [4, 2, 3, 1, 0], [], [6], [7, 5, 6, 4, 2, 3, 1, 0], [2, 4, 7, 1, 0, 3, 6], [9, 8, 7, 5, 4, 2, 1, 0, 3, 6], [10, 9, 8, 7, 5, 4, 2, 1, 0, 3, 6], [11, 10, 9, 8, 7, 5, 4, 2, 1, 0, 3, 6], [12, 11, 10, 9, 8, 7, 5, 4, 2, 1, 0, 3, 6], [13, 12, 11, 10, 9, 8, 7, 5, 4, 2, 1, 0, 3, 6]]
def F11o6 : List AOper := [
  ⟨(some 37), .t (.faddr 7 (.t 7)), none⟩,
  ⟨(some 38), .m (.load false 1 (.t 37)), none⟩,
  ⟨(some 39), .t (.faddr 7 (.t 7)), none⟩,
  ⟨(some 40), .m (.load false 1 (.t 39)), none⟩,
  ⟨(some 41), .t (.len false (.t 40)), none⟩,
  ⟨(some 42), .t (.imin (.t 41) (.c (.int .i64 3))), none⟩,
  ⟨(some 43), .t (.sliceL 5 (.t 38) none (some (.t 42))), none⟩,
  ⟨(some 44), .m (.bslice true 87 2 0 []), none⟩,
  ⟨(some 45), .t (.faddr 9 (.t 7)), none⟩,
  ⟨(some 46), .m (.load false 1 (.t 45)), none⟩,
  ⟨(some 47), .t (.faddr 9 (.t 7)), none⟩,
  ⟨(some 48), .m (.load false 1 (.t 47)), none⟩,
  ⟨(some 49), .t (.len false (.t 48)), none⟩,
  ⟨(some 50), .t (.imin (.t 49) (.c (.int .i64 18))), none⟩,
  ⟨(some 51), .t (.sliceL 2 (.t 46) none (some (.t 50))), none⟩,
  ⟨(some 52), .m (.append true 87 2 40 (.t 44) (.t 51)), none⟩,
  ⟨(some 53), .t (.faddr 8 (.t 7)), none⟩,
  ⟨(some 54), .t (.faddr 0 (.t 53)), none⟩,
  ⟨(some 55), .m (.load false 1 (.t 54)), none⟩,
  ⟨(some 56), .t (.faddr 8 (.t 7)), none⟩,
  ⟨(some 57), .t (.faddr 0 (.t 56)), none⟩,
  ⟨(some 58), .m (.load false 1 (.t 57)), none⟩,
  ⟨(some 59), .t (.len false (.t 58)), none⟩,
  ⟨(some 60), .t (.imin (.t 59) (.c (.int .i64 4))), none⟩,
  ⟨(some 61), .t (.sliceL 6 (.t 55) none (some (.t 60))), none⟩,
  ⟨(some 62), .t (.faddr 7 (.t 7)), none⟩,
  ⟨none, .m (.store 1 (.t 62) (.t 43)), none⟩,
  ⟨(some 63), .t (.faddr 9 (.t 7)), none⟩,
  ⟨none, .m (.store 1 (.t 63) (.t 52)), none⟩]
def F11p6 : List AOper := [
  ⟨(some 64), .t (.faddr 8 (.t 7)), none⟩,
  ⟨(some 65), .t (.faddr 0 (.t 64)), none⟩,
  ⟨none, .m (.store 1 (.t 65) (.t 61)), none⟩]
def F11A6 : List (List Nat) := [[], [0], [], [2], [3, 2], [4, 3, 2], [1, 5, 0, 4, 3, 2], [], [], [8], [], [10], [11, 10], [12, 11, 10], [9, 13, 8, 12, 11, 10], [7, 14, 9, 13, 8, 12, 11, 10], [], [16], [17, 16], [], [19], [20, 19], [21, 20, 19], [22, 21, 20, 19], [18, 23, 17, 16, 22, 21, 20, 19], [6, 9, 11, 18, 21, 1, 5, 0, 4, 3, 2, 8, 10, 17, 16, 20, 19], [25, 15, 6, 18, 21, 7, 14, 9, 13, 12, 11, 1, 5, 0, 4, 3, 2, 8, 10, 17, 16, 20, 19], [26, 25, 15, 6, 18, 21, 7, 14, 9, 13, 12, 11, 1, 5, 0, 4, 3, 2, 8, 10, 17, 16, 20, 19], [27, 26, 25, 15, 6, 18, 21, 7, 14, 9, 13, 12, 11, 1, 5, 0, 4, 3, 2, 8, 10, 17, 16, 20, 19], [24, 28, 23, 22, 27, 26, 25, 15, 6, 18, 21, 7, 14, 9, 13, 12, 11, 1, 5, 0, 4, 3, 2, 8, 10, 17, 16, 20, 19], [29, 24, 28, 23, 22, 27, 26, 25, 15, 6, 18, 21, 7, 14, 9, 13, 12, 11, 1, 5, 0, 4, 3, 2, 8, 10, 17, 16, 20, 19], [30, 29, 24, 28, 23, 22, 27, 26, 25, 15, 6, 18, 21, 7, 14, 9, 13, 12, 11, 1, 5, 0, 4, 3, 2, 8, 10, 17, 16, 20, 19]]
def F11o7 : List AOper := [
  ⟨(some 8), .t (.mv (.c (.int .i64 0))), none⟩]
def F11o8 : List AOper := [
  ⟨(some 66), .t (.mv (.t 8)), none⟩,
  ⟨(some 67), .t (.faddr 9 (.t 7)), none⟩,
  ⟨(some 68), .m (.load false 1 (.t 67)), none⟩,
  ⟨(some 69), .t (.len false (.t 68)), none⟩,
  ⟨(some 70), .t (.bin .lss (.t 66) (.t 69)), none⟩]
def F11o9 : List AOper := [
  ⟨(some 73), .t (.faddr 9 (.t 7)), none⟩,
  ⟨(some 74), .m (.load false 1 (.t 73)), none⟩,
  ⟨(some 75), .t (.mv (.t 8)), none⟩,
  ⟨(some 76), .t (.faddr 9 (.t 7)), none⟩,
  ⟨(some 77), .m (.load false 1 (.t 76)), none⟩,
  ⟨(some 78), .t (.mv (.t 8)), none⟩,
  ⟨(some 79), .t (.iaddr 2 (.t 77) (.t 78)), none⟩,
  ⟨(some 80), .t (.faddr 0 (.t 79)), none⟩,
  ⟨(some 81), .m (.load false 1 (.t 80)), none⟩,
  ⟨(some 82), .call (.c (.clo 22 [] [])) [(.t 81)], none⟩]
def F11p9 : List AOper := [
  ⟨(some 83), .t (.iaddr 2 (.t 74) (.t 75)), none⟩,
  ⟨(some 84), .t (.faddr 0 (.t 83)), none⟩,
  ⟨none, .m (.store 1 (.t 84) (.t 82)), none⟩]
def F11A9 : List (List Nat) := [[], [0], [], [], [3], [], [4, 5, 3], [6, 4, 5, 3], [7, 6, 4, 5, 3], [8, 7, 6, 4, 5, 3], [1, 2, 9, 0, 8, 7, 6, 4, 5, 3], [10, 1, 2, 9, 0, 8, 7, 6, 4, 5, 3], [11, 10, 1, 2, 9, 0, 8, 7, 6, 4, 5, 3]]
def F11o10 : List AOper := [
  ⟨(some 71), .t (.mv (.t 8)), none⟩,
  ⟨(some 72), .t (.bin .add (.t 71) (.c (.int .i64 1))), none⟩,
  ⟨(some 8), .t (.mv (.t 72)), none⟩]
def F11b11 : ACode :=
  (.seq ((.seq (.ops F11o8 [0, 1, 5, 6, 7, 8, 70])
  (.cond (.t 70)
    (.skip)
    (.exit 2))))
  ((.seq (.block 3 (.draw F11A9 F11o9 F11p9 [0, 1, 5, 6, 7, 8]))
   (.ops F11o10 [0, 1, 5, 6, 7, 8]))))
def F11o12 : List AOper := [
  ⟨(some 85), .t (.faddr 10 (.t 7)), none⟩,
  ⟨none, .m (.store 1 (.t 85) (.c .nils)), none⟩]
def F11o13 : List AOper := [
  ⟨(some 9), .t (.mv (.c (.int .i64 0))), none⟩]
def F11o14 : List AOper := [
  ⟨(some 86), .t (.mv (.t 9)), none⟩,
  ⟨(some 87), .t (.mv (.t 0)), none⟩,
  ⟨(some 88), .t (.mv (.t 6)), none⟩,
  ⟨(some 89), .t (.iaddr 11 (.t 87) (.t 88)), none⟩,
  ⟨(some 90), .t (.faddr 10 (.t 89)), none⟩,
  ⟨(some 91), .m (.load false 1 (.t 90)), none⟩,
  ⟨(some 92), .t (.len false (.t 91)), none⟩,
  ⟨(some 93), .t (.bin .lss (.t 86) (.t 92)), none⟩,
  ⟨(some 94), .t (.mv (.t 93)), none⟩,
  ⟨(some 95), .t (.mv (.t 9)), (some (94, true))⟩,
  ⟨(some 96), .t (.bin .lss (.t 95) (.c (.int .i64 4))), (some (94, true))⟩,
  ⟨(some 97), .t (.pick (.t 94) (.t 96) (.c (.bool false))), none⟩,
  ⟨(some 98), .t (.mv (.t 97)), none⟩,
  ⟨(some 99), .t (.mv (.t 1)), (some (98, true))⟩,
  ⟨(some 100), .t (.bin .gtr (.t 99) (.c (.int .i64 0))), (some (98, true))⟩,
  ⟨(some 101), .t (.pick (.t 98) (.t 100) (.c (.bool false))), none⟩]
def F11o15 : List AOper := [
  ⟨(some 104), .t (.mv (.t 0)), none⟩,
  ⟨(some 105), .t (.mv (.t 6)), none⟩,
  ⟨(some 106), .t (.iaddr 11 (.t 104) (.t 105)), none⟩,
  ⟨(some 107), .t (.faddr 10 (.t 106)), none⟩,
  ⟨(some 108), .m (.load false 1 (.t 107)), none⟩,
  ⟨(some 109), .t (.mv (.t 9)), none⟩,
  ⟨(some 110), .t (.iaddr 2 (.t 108) (.t 109)), none⟩,
  ⟨(some 111), .m (.load true 2 (.t 110)), none⟩,
  ⟨(some 10), .m (.alloc 89 [.nils, .nils]), none⟩,
  ⟨none, .m (.store 2 (.t 10) (.t 111)), none⟩]
def F11o16 : List AOper := [
  ⟨(some 112), .t (.faddr 10 (.t 7)), none⟩,
  ⟨(some 113), .m (.load false 1 (.t 112)), none⟩,
  ⟨(some 114), .t (.faddr 0 (.t 10)), none⟩,
  ⟨(some 115), .m (.load false 1 (.t 114)), none⟩,
  ⟨(some 116), .t (.faddr 0 (.t 10)), none⟩,
  ⟨(some 117), .m (.load false 1 (.t 116)), none⟩,
  ⟨(some 118), .t (.len false (.t 117)), none⟩,
  ⟨(some 119), .t (.imin (.t 118) (.c (.int .i64 2))), none⟩,
  ⟨(some 120), .t (.sliceL 5 (.t 115) none (some (.t 119))), none⟩,
  ⟨(some 121), .t (.faddr 1 (.t 10)), none⟩,
  ⟨(some 122), .m (.load false 1 (.t 121)), none⟩,
  ⟨(some 123), .t (.mv (.t 1)), none⟩,
  ⟨(some 124), .t (.bin .sub (.t 123) (.c (.int .i64 1))), none⟩,
  ⟨(some 125), .call (.c (.clo 11 [] [])) [(.t 122), (.t 124)], none⟩,
  ⟨(some 126), .t (.build [.nils, .nils] [(0, 1, (.t 120)), (1, 1, (.t 125))]), none⟩,
  ⟨(some 127), .m (.bslice false 89 2 1 [(.t 126)]), none⟩]
def F11p16 : List AOper := [
  ⟨(some 128), .m (.append false 89 2 48 (.t 113) (.t 127)), none⟩,
  ⟨(some 129), .t (.faddr 10 (.t 7)), none⟩,
  ⟨none, .m (.store 1 (.t 129) (.t 128)), none⟩]
def F11A16 : List (List Nat) := [[], [0], [], [2], [], [4], [5, 4], [6, 5, 4], [3, 7, 2, 6, 5, 4], [], [9], [], [11], [10, 12, 9, 11], [8, 13, 3, 7, 2, 6, 5, 4, 10, 12, 9, 11], [14, 8, 13, 3, 7, 2, 6, 5, 4, 10, 12, 9, 11], [1, 15, 0, 14, 8, 13, 3, 7, 2, 6, 5, 4, 10, 12, 9, 11], [16, 1, 15, 0, 14, 8, 13, 3, 7, 2, 6, 5, 4, 10, 12, 9, 11], [17, 16, 1, 15, 0, 14, 8, 13, 3, 7, 2, 6, 5, 4, 10, 12, 9, 11]]
def F11o17 : List AOper := [
  ⟨(some 102), .t (.mv (.t 9)), none⟩,
  ⟨(some 103), .t (.bin .add (.t 102) (.c (.int .i64 1))), none⟩,
  ⟨(some 9), .t (.mv (.t 103)), none⟩]
def F11b18 : ACode :=
  (.seq ((.seq (.ops F11o14 [0, 1, 5, 6, 7, 9, 101])
  (.cond (.t 101)
    (.skip)
    (.exit 4))))
  ((.seq (.block 5 ((.seq (.ops F11o15 [0, 1, 5, 6, 7, 9, 10])
    (.draw F11A16 F11o16 F11p16 [0, 1, 5, 6, 7, 9]))))
   (.ops F11o17 [0, 1, 5, 6, 7, 9]))))
def F11o19 : List AOper := [
  ⟨(some 130), .t (.mv (.t 5)), none⟩,
  ⟨(some 131), .fz (some (true, 11)) (.t 7), none⟩,
  ⟨(some 132), .m (.bslice false 32 11 1 [(.t 131)]), none⟩,
  ⟨(some 133), .m (.append false 32 11 176 (.t 130) (.t 132)), none⟩,
  ⟨(some 5), .t (.mv (.t 133)), none⟩]
def F11o20 : List AOper := [
  ⟨(some 19), .t (.mv (.t 6)), none⟩,
  ⟨(some 20), .t (.bin .add (.t 19) (.c (.int .i64 1))), none⟩,
  ⟨(some 6), .t (.mv (.t 20)), none⟩]
def F11b21 : ACode :=
  (.seq ((.seq (.ops F11o3 [0, 1, 5, 6, 18])
  (.cond (.t 18)
    (.skip)
    (.exit 0))))
  ((.seq (.block 1 ((.seq (.ops F11o4 [0, 1, 5, 6, 7])
    ((.seq (.draw F11A5 F11o5 F11p5 [0, 1, 5, 6, 7])
     ((.seq (.draw F11A6 F11o6 F11p6 [0, 1, 5, 6, 7])
      ((.seq ((.seq (.ops F11o7 [0, 1, 5, 6, 7, 8])
       (.block 2 (.loop [0, 1, 5, 6, 7, 8] F11b11))))
       ((.seq (.ops F11o12 [0, 1, 5, 6, 7])
        ((.seq ((.seq (.ops F11o13 [0, 1, 5, 6, 7, 9])
         (.block 4 (.loop [0, 1, 5, 6, 7, 9] F11b18))))
         (.ops F11o19 [0, 1, 5, 6]))))))))))))))
   (.ops F11o20 [0, 1, 5, 6]))))
def F11o22 : List AOper := [
  ⟨(some 134), .t (.mv (.t 5)), none⟩,
  ⟨(some 4), .t (.mv (.t 134)), none⟩]
def F11c : ACode :=
  (.seq (.ops F11o0 [0, 1])
  ((.seq (.ops F11o1 [0, 1, 5])
   ((.seq ((.seq (.ops F11o2 [0, 1, 5, 6])
    (.block 0 (.loop [0, 1, 5, 6] F11b21))))
    ((.seq (.ops F11o22 [4])
     (.ret))))))))
def F11 : AFn := ⟨135, [.tmp 4], F11c⟩
theorem F11_ok : cFn Tryd.prog [44, 52, 1000131] 11 = some F11 := by kernel_rfl

/- manifold/resolve.Ends -/
def F12o0 : List AOper := [
  ⟨(some 1), .m (.cbox 32 (.t 0)), none⟩,
  ⟨(some 2), .t (.mv (.c (.bool false))), none⟩]
def F12o1 : List AOper := [
  ⟨(some 3), .t (.faddr 1 (.t 1)), none⟩,
  ⟨(some 4), .m (.load false 1 (.t 3)), none⟩]
def F12o2 : List AOper := [
  ⟨(some 6), .t (.bin .eql (.t 4) (.c (.int .i64 13))), none⟩,
  ⟨(some 5), .t (.mv (.t 6)), none⟩]
def F12o3 : List AOper := [
  ⟨(some 7), .t (.bin .eql (.t 4) (.c (.int .i64 14))), none⟩,
  ⟨(some 5), .t (.mv (.t 7)), none⟩]
def F12o4 : List AOper := [
  ⟨(some 2), .t (.mv (.c (.bool true))), none⟩]
def F12o5 : List AOper := [
  ⟨(some 9), .t (.bin .eql (.t 4) (.c (.int .i64 11))), none⟩,
  ⟨(some 8), .t (.mv (.t 9)), none⟩]
def F12o6 : List AOper := [
  ⟨(some 10), .t (.bin .eql (.t 4) (.c (.int .i64 12))), none⟩,
  ⟨(some 8), .t (.mv (.t 10)), none⟩]
def F12o7 : List AOper := [
  ⟨(some 11), .t (.faddr 10 (.t 1)), none⟩,
  ⟨(some 12), .m (.load false 1 (.t 11)), none⟩,
  ⟨(some 13), .t (.len false (.t 12)), none⟩,
  ⟨(some 14), .t (.bin .gtr (.t 13) (.c (.int .i64 0))), none⟩,
  ⟨(some 15), .t (.mv (.t 14)), none⟩,
  ⟨(some 16), .t (.faddr 10 (.t 1)), (some (15, true))⟩,
  ⟨(some 17), .m (.load false 1 (.t 16)), (some (15, true))⟩,
  ⟨(some 18), .call (.c (.clo 45 [] [])) [(.t 17), (.c (.clo 46 [] []))], (some (15, true))⟩,
  ⟨(some 19), .t (.not (.t 18)), (some (15, true))⟩,
  ⟨(some 20), .t (.pick (.t 15) (.t 19) (.c (.bool false))), none⟩,
  ⟨(some 2), .t (.mv (.t 20)), none⟩]
def F12o8 : List AOper := [
  ⟨(some 2), .t (.mv (.c (.bool false))), none⟩]
def F12c : ACode :=
  (.seq (.ops F12o0 [1])
  ((.seq ((.seq (.ops F12o1 [1, 4])
   (.block 0 ((.seq ((.seq (.ops F12o2 [1, 4, 5])
     (.cond (.t 5)
       (.skip)
       (.ops F12o3 [1, 4, 5]))))
     (.cond (.t 5)
       ((.seq (.ops F12o4 [2])
        (.ret)))
       ((.seq ((.seq (.ops F12o5 [1, 4, 8])
        (.cond (.t 8)
          (.skip)
          (.ops F12o6 [1, 8]))))
        (.cond (.t 8)
          ((.seq (.ops F12o7 [2])
           (.ret)))
          (.skip))))))))))
   ((.seq (.ops F12o8 [2])
    (.ret))))))
def F12 : AFn := ⟨21, [.tmp 2], F12c⟩
theorem F12_ok : cFn Tryd.prog [1] 12 = some F12 := by kernel_rfl

/- manifold/manifoldlaw23.known -/
def F14o0 : List AOper := [
  ⟨(some 0), .t (.mv (.c (.bool false))), none⟩]
def F14o1 : List AOper := [
  ⟨(some 3), .call (.c (.clo 48 [] [])) [(.c (.str [97]))], none⟩,
  ⟨(some 4), .m (.bslice false 32 11 1 [(.t 3)]), none⟩,
  ⟨(some 5), .call (.c (.clo 48 [] [])) [(.c (.str [98]))], none⟩,
  ⟨(some 6), .m (.bslice false 32 11 1 [(.t 5)]), none⟩,
  ⟨(some 7), .m (.bslice false 22 1 2 [(.t 4), (.t 6)]), none⟩,
  ⟨(some 8), .call (.c (.clo 47 [] [])) [(.t 7)], none⟩,
  ⟨(some 9), .m (.bslice false 32 11 1 [(.t 8)]), none⟩,
  ⟨(some 10), .t (.build [(.str []), (.str []), .nils] [(0, 1, (.c (.str [114]))), (2, 1, (.t 9))]), none⟩,
  ⟨(some 11), .m (.bslice false 56 3 1 [(.t 10)]), none⟩,
  ⟨(some 12), .t (.build [(.int .i64 0), .nils, .nils, .nils, .nils] [(4, 1, (.t 11))]), none⟩,
  ⟨(some 1), .m (.alloc 44 [(.int .i64 0), .nils, .nils, .nils, .nils]), none⟩,
  ⟨none, .m (.store 5 (.t 1) (.t 12)), none⟩]
def F14o2 : List AOper := [
  ⟨(some 13), .m (.load true 5 (.t 1)), none⟩,
  ⟨(some 14), .call (.c (.clo 37 [] [])) [(.t 13)], none⟩,
  ⟨(some 2), .t (.mv (.t 14)), none⟩]
def F14o3 : List AOper := [
  ⟨(some 15), .t (.mv (.t 2)), none⟩,
  ⟨(some 16), .t (.len false (.t 15)), none⟩,
  ⟨(some 17), .t (.bin .eql (.t 16) (.c (.int .i64 3))), none⟩,
  ⟨(some 18), .t (.mv (.t 17)), none⟩,
  ⟨(some 19), .t (.mv (.t 2)), (some (18, true))⟩,
  ⟨(some 20), .t (.iaddr 13 (.t 19) (.c (.int .i64 2))), (some (18, true))⟩,
  ⟨(some 21), .t (.faddr 1 (.t 20)), (some (18, true))⟩,
  ⟨(some 22), .m (.load false 1 (.t 21)), (some (18, true))⟩,
  ⟨(some 23), .m (.bslice false 3 1 3 [(.c (.int .i64 0)), (.c (.int .i64 1)), (.c (.int .i64 0))]), (some (18, true))⟩,
  ⟨(some 24), .call (.c (.clo 40 [] [])) [(.t 22), (.t 23)], (some (18, true))⟩,
  ⟨(some 25), .t (.pick (.t 18) (.t 24) (.c (.bool false))), none⟩,
  ⟨(some 26), .t (.mv (.t 25)), none⟩,
  ⟨(some 27), .t (.mv (.t 2)), (some (26, true))⟩,
  ⟨(some 28), .t (.iaddr 13 (.t 27) (.c (.int .i64 2))), (some (26, true))⟩,
  ⟨(some 29), .t (.faddr 1 (.t 28)), (some (26, true))⟩,
  ⟨(some 30), .m (.load false 1 (.t 29)), (some (26, true))⟩,
  ⟨(some 31), .call (.c (.clo 17 [] [])) [(.c (.int .i64 0)), (.t 30)], (some (26, true))⟩,
  ⟨(some 32), .t (.bin .eql (.t 31) (.c (.str [115, 48, 95, 48, 95, 49, 95, 48]))), (some (26, true))⟩,
  ⟨(some 33), .t (.pick (.t 26) (.t 32) (.c (.bool false))), none⟩,
  ⟨(some 34), .t (.mv (.t 33)), none⟩,
  ⟨(some 35), .t (.faddr 4 (.t 1)), (some (34, true))⟩,
  ⟨(some 36), .m (.load false 1 (.t 35)), (some (34, true))⟩,
  ⟨(some 37), .t (.iaddr 3 (.t 36) (.c (.int .i64 0))), (some (34, true))⟩,
  ⟨(some 38), .t (.faddr 2 (.t 37)), (some (34, true))⟩,
  ⟨(some 39), .m (.load false 1 (.t 38)), (some (34, true))⟩,
  ⟨(some 40), .call (.c (.clo 15 [] [])) [(.t 39)], (some (34, true))⟩,
  ⟨(some 41), .t (.pick (.t 34) (.t 40) (.c (.bool false))), none⟩,
  ⟨(some 42), .t (.mv (.t 41)), none⟩,
  ⟨(some 43), .call (.c (.clo 48 [] [])) [(.c (.str [97]))], (some (42, true))⟩,
  ⟨(some 44), .m (.bslice false 32 11 1 [(.t 43)]), (some (42, true))⟩,
  ⟨(some 45), .m (.bslice false 22 1 2 [(.t 44), (.c .nils)]), (some (42, true))⟩,
  ⟨(some 46), .call (.c (.clo 47 [] [])) [(.t 45)], (some (42, true))⟩,
  ⟨(some 47), .call (.c (.clo 12 [] [])) [(.t 46)], (some (42, true))⟩,
  ⟨(some 48), .t (.not (.t 47)), (some (42, true))⟩,
  ⟨(some 49), .t (.pick (.t 42) (.t 48) (.c (.bool false))), none⟩,
  ⟨(some 0), .t (.mv (.t 49)), none⟩]
def F14c : ACode :=
  (.seq (.ops F14o0 [])
  ((.seq (.ops F14o1 [1])
   ((.seq (.ops F14o2 [1, 2])
    ((.seq (.ops F14o3 [0])
     (.ret))))))))
def F14 : AFn := ⟨50, [.tmp 0], F14c⟩
theorem F14_ok : cFn Tryd.prog [] 14 = some F14 := by kernel_rfl

/- manifold/resolve.Finished -/
def F15o0 : List AOper := [
  ⟨(some 2), .t (.mv (.c (.bool false))), none⟩]
def F15o1 : List AOper := [
  ⟨(some 3), .t (.mv (.t 0)), none⟩,
  ⟨(some 4), .t (.len false (.t 3)), none⟩,
  ⟨(some 5), .t (.bin .gtr (.t 4) (.c (.int .i64 0))), none⟩,
  ⟨(some 6), .t (.mv (.t 5)), none⟩,
  ⟨(some 7), .t (.mv (.t 0)), (some (6, true))⟩,
  ⟨(some 8), .t (.mv (.t 0)), (some (6, true))⟩,
  ⟨(some 9), .t (.len false (.t 8)), (some (6, true))⟩,
  ⟨(some 10), .t (.bin .sub (.t 9) (.c (.int .i64 1))), (some (6, true))⟩,
  ⟨(some 11), .t (.iaddr 11 (.t 7) (.t 10)), (some (6, true))⟩,
  ⟨(some 12), .m (.load true 11 (.t 11)), (some (6, true))⟩,
  ⟨(some 13), .call (.c (.clo 12 [] [])) [(.t 12)], (some (6, true))⟩,
  ⟨(some 14), .t (.pick (.t 6) (.t 13) (.c (.bool false))), none⟩,
  ⟨(some 2), .t (.mv (.t 14)), none⟩]
def F15c : ACode :=
  (.seq (.ops F15o0 [0])
  ((.seq (.ops F15o1 [2])
   (.ret))))
def F15 : AFn := ⟨15, [.tmp 2], F15c⟩
theorem F15_ok : cFn Tryd.prog [] 15 = some F15 := by kernel_rfl

/- manifold/resolve.AutoName -/
def F17o0 : List AOper := [
  ⟨(some 4), .t (.mv (.c (.str []))), none⟩]
def F17o1 : List AOper := [
  ⟨(some 5), .t (.mv (.t 0)), none⟩,
  ⟨(some 6), .m (.bslice false 3 1 1 [(.t 5)]), none⟩,
  ⟨(some 7), .t (.mv (.t 1)), none⟩,
  ⟨(some 8), .m (.append false 3 1 8 (.t 6) (.t 7)), none⟩,
  ⟨(some 9), .call (.c (.clo 49 [] [])) [(.t 8), (.c (.str [95]))], none⟩,
  ⟨(some 10), .t (.bin .add (.c (.str [115])) (.t 9)), none⟩,
  ⟨(some 4), .t (.mv (.t 10)), none⟩]
def F17c : ACode :=
  (.seq (.ops F17o0 [0, 1])
  ((.seq (.ops F17o1 [4])
   (.ret))))
def F17 : AFn := ⟨11, [.tmp 4], F17c⟩
theorem F17_ok : cFn Tryd.prog [] 17 = some F17 := by kernel_rfl

/- manifold/manifoldlaw23.auto -/
def F18o0 : List AOper := [
  ⟨(some 4), .t (.mv (.c (.str []))), none⟩]
def F18o1 : List AOper := [
  ⟨(some 7), .t (.mv (.t 0)), none⟩,
  ⟨(some 8), .call (.c (.clo 50 [] [])) [(.t 7)], none⟩,
  ⟨(some 9), .t (.bin .add (.c (.str [115])) (.t 8)), none⟩,
  ⟨(some 5), .t (.mv (.t 9)), none⟩]
def F18o2 : List AOper := [
  ⟨(some 6), .t (.mv (.c (.int .i64 0))), none⟩]
def F18o3 : List AOper := [
  ⟨(some 10), .t (.mv (.t 6)), none⟩,
  ⟨(some 11), .t (.mv (.t 1)), none⟩,
  ⟨(some 12), .t (.len false (.t 11)), none⟩,
  ⟨(some 13), .t (.bin .lss (.t 10) (.t 12)), none⟩]
def F18o4 : List AOper := [
  ⟨(some 16), .t (.mv (.t 5)), none⟩,
  ⟨(some 17), .t (.bin .add (.t 16) (.c (.str [95]))), none⟩,
  ⟨(some 18), .t (.mv (.t 1)), none⟩,
  ⟨(some 19), .t (.mv (.t 6)), none⟩,
  ⟨(some 20), .t (.iaddr 1 (.t 18) (.t 19)), none⟩,
  ⟨(some 21), .m (.load false 1 (.t 20)), none⟩,
  ⟨(some 22), .call (.c (.clo 50 [] [])) [(.t 21)], none⟩,
  ⟨(some 23), .t (.bin .add (.t 17) (.t 22)), none⟩,
  ⟨(some 5), .t (.mv (.t 23)), none⟩]
def F18o5 : List AOper := [
  ⟨(some 14), .t (.mv (.t 6)), none⟩,
  ⟨(some 15), .t (.bin .add (.t 14) (.c (.int .i64 1))), none⟩,
  ⟨(some 6), .t (.mv (.t 15)), none⟩]
def F18b6 : ACode :=
  (.seq ((.seq (.ops F18o3 [1, 5, 6, 13])
  (.cond (.t 13)
    (.skip)
    (.exit 0))))
  ((.seq (.block 1 (.ops F18o4 [1, 5, 6]))
   (.ops F18o5 [1, 5, 6]))))
def F18o7 : List AOper := [
  ⟨(some 24), .t (.mv (.t 5)), none⟩,
  ⟨(some 4), .t (.mv (.t 24)), none⟩]
def F18c : ACode :=
  (.seq (.ops F18o0 [0, 1])
  ((.seq (.ops F18o1 [1, 5])
   ((.seq ((.seq (.ops F18o2 [1, 5, 6])
    (.block 0 (.loop [1, 5, 6] F18b6))))
    ((.seq (.ops F18o7 [4])
     (.ret))))))))
def F18 : AFn := ⟨25, [.tmp 4], F18c⟩
theorem F18_ok : cFn Tryd.prog [] 18 = some F18 := by kernel_rfl

/- manifold/resolve.PlaceText -/
def F19o0 : List AOper := [
  ⟨(some 2), .t (.mv (.c (.str []))), none⟩]
def F19o1 : List AOper := [
  ⟨(some 3), .t (.mv (.t 0)), none⟩,
  ⟨(some 4), .call (.c (.clo 49 [] [])) [(.t 3), (.c (.str [46]))], none⟩,
  ⟨(some 2), .t (.mv (.t 4)), none⟩]
def F19c : ACode :=
  (.seq (.ops F19o0 [0])
  ((.seq (.ops F19o1 [2])
   (.ret))))
def F19 : AFn := ⟨5, [.tmp 2], F19c⟩
theorem F19_ok : cFn Tryd.prog [] 19 = some F19 := by kernel_rfl

/- manifold/manifoldlaw23.placeText -/
def F20o0 : List AOper := [
  ⟨(some 2), .t (.mv (.c (.str []))), none⟩]
def F20o1 : List AOper := [
  ⟨(some 3), .t (.mv (.c (.str []))), none⟩]
def F20o2 : List AOper := [
  ⟨(some 4), .t (.mv (.c (.int .i64 0))), none⟩]
def F20o3 : List AOper := [
  ⟨(some 5), .t (.mv (.t 4)), none⟩,
  ⟨(some 6), .t (.mv (.t 0)), none⟩,
  ⟨(some 7), .t (.len false (.t 6)), none⟩,
  ⟨(some 8), .t (.bin .lss (.t 5) (.t 7)), none⟩]
def F20o4 : List AOper := [
  ⟨(some 11), .t (.mv (.t 4)), none⟩,
  ⟨(some 12), .t (.bin .gtr (.t 11) (.c (.int .i64 0))), none⟩]
def F20o5 : List AOper := [
  ⟨(some 13), .t (.mv (.t 3)), none⟩,
  ⟨(some 14), .t (.bin .add (.t 13) (.c (.str [46]))), none⟩,
  ⟨(some 3), .t (.mv (.t 14)), none⟩]
def F20o6 : List AOper := [
  ⟨(some 15), .t (.mv (.t 3)), none⟩,
  ⟨(some 16), .t (.mv (.t 0)), none⟩,
  ⟨(some 17), .t (.mv (.t 4)), none⟩,
  ⟨(some 18), .t (.iaddr 1 (.t 16) (.t 17)), none⟩,
  ⟨(some 19), .m (.load false 1 (.t 18)), none⟩,
  ⟨(some 20), .call (.c (.clo 50 [] [])) [(.t 19)], none⟩,
  ⟨(some 21), .t (.bin .add (.t 15) (.t 20)), none⟩,
  ⟨(some 3), .t (.mv (.t 21)), none⟩]
def F20o7 : List AOper := [
  ⟨(some 9), .t (.mv (.t 4)), none⟩,
  ⟨(some 10), .t (.bin .add (.t 9) (.c (.int .i64 1))), none⟩,
  ⟨(some 4), .t (.mv (.t 10)), none⟩]
def F20b8 : ACode :=
  (.seq ((.seq (.ops F20o3 [0, 3, 4, 8])
  (.cond (.t 8)
    (.skip)
    (.exit 0))))
  ((.seq (.block 1 ((.seq ((.seq (.ops F20o4 [0, 3, 4, 12])
    (.cond (.t 12)
      (.ops F20o5 [0, 3, 4])
      (.skip))))
    (.ops F20o6 [0, 3, 4]))))
   (.ops F20o7 [0, 3, 4]))))
def F20o9 : List AOper := [
  ⟨(some 22), .t (.mv (.t 3)), none⟩,
  ⟨(some 2), .t (.mv (.t 22)), none⟩]
def F20c : ACode :=
  (.seq (.ops F20o0 [0])
  ((.seq (.ops F20o1 [0, 3])
   ((.seq ((.seq (.ops F20o2 [0, 3, 4])
    (.block 0 (.loop [0, 3, 4] F20b8))))
    ((.seq (.ops F20o9 [2])
     (.ret))))))))
def F20 : AFn := ⟨23, [.tmp 2], F20c⟩
theorem F20_ok : cFn Tryd.prog [] 20 = some F20 := by kernel_rfl

/- manifold/manifoldlaw23.cut -/
def F22o0 : List AOper := [
  ⟨(some 2), .t (.mv (.c (.str []))), none⟩]
def F22o1 : List AOper := [
  ⟨(some 3), .t (.mv (.t 0)), none⟩,
  ⟨(some 4), .t (.mv (.t 0)), none⟩,
  ⟨(some 5), .t (.len true (.t 4)), none⟩,
  ⟨(some 6), .t (.imin (.t 5) (.c (.int .i64 70))), none⟩,
  ⟨(some 7), .t (.sliceS (.t 3) none (some (.t 6))), none⟩,
  ⟨(some 2), .t (.mv (.t 7)), none⟩]
def F22c : ACode :=
  (.seq (.ops F22o0 [0])
  ((.seq (.ops F22o1 [2])
   (.ret))))
def F22 : AFn := ⟨8, [.tmp 2], F22c⟩
theorem F22_ok : cFn Tryd.prog [] 22 = some F22 := by kernel_rfl

/- manifold/manifoldlaw23.short -/
def F30o0 : List AOper := [
  ⟨(some 1), .m (.box 63 (.t 0)), none⟩,
  ⟨(some 2), .m (.alloc 63 [(.int .i64 0), (.str []), .nils, (.str [])]), none⟩]
def F30o1 : List AOper := [
  ⟨(some 3), .t (.faddr 1 (.t 1)), none⟩,
  ⟨(some 4), .m (.load false 1 (.t 3)), none⟩,
  ⟨(some 5), .call (.c (.clo 22 [] [])) [(.t 4)], none⟩,
  ⟨(some 6), .t (.faddr 3 (.t 1)), none⟩,
  ⟨(some 7), .m (.load false 1 (.t 6)), none⟩,
  ⟨(some 8), .call (.c (.clo 22 [] [])) [(.t 7)], none⟩,
  ⟨(some 9), .t (.faddr 2 (.t 1)), none⟩,
  ⟨(some 10), .m (.load false 1 (.t 9)), none⟩,
  ⟨(some 11), .t (.faddr 2 (.t 1)), none⟩,
  ⟨(some 12), .m (.load false 1 (.t 11)), none⟩,
  ⟨(some 13), .t (.len false (.t 12)), none⟩,
  ⟨(some 14), .t (.imin (.t 13) (.c (.int .i64 12))), none⟩,
  ⟨(some 15), .t (.sliceL 1 (.t 10) none (some (.t 14))), none⟩,
  ⟨(some 16), .t (.faddr 1 (.t 1)), none⟩,
  ⟨none, .m (.store 1 (.t 16) (.t 5)), none⟩,
  ⟨(some 17), .t (.faddr 3 (.t 1)), none⟩,
  ⟨none, .m (.store 1 (.t 17) (.t 8)), none⟩]
def F30p1 : List AOper := [
  ⟨(some 18), .t (.faddr 2 (.t 1)), none⟩,
  ⟨none, .m (.store 1 (.t 18) (.t 15)), none⟩]
def F30A1 : List (List Nat) := [[], [0], [1, 0], [], [3], [4, 2, 3, 1, 0], [], [6], [], [8], [9, 8], [10, 9, 8], [7, 11, 6, 10, 9, 8], [2, 4, 7, 9, 1, 0, 3, 6, 8], [13, 5, 7, 9, 4, 2, 1, 0, 3, 6, 8], [14, 13, 5, 7, 9, 4, 2, 1, 0, 3, 6, 8], [15, 14, 13, 5, 7, 9, 4, 2, 1, 0, 3, 6, 8], [12, 16, 11, 10, 15, 14, 13, 5, 7, 9, 4, 2, 1, 0, 3, 6, 8], [17, 12, 16, 11, 10, 15, 14, 13, 5, 7, 9, 4, 2, 1, 0, 3, 6, 8]]
def F30o2 : List AOper := [
  ⟨(some 19), .m (.load true 4 (.t 1)), none⟩,
  ⟨none, .m (.store 4 (.t 2) (.t 19)), none⟩]
def F30c : ACode :=
  (.seq (.ops F30o0 [1, 2])
  ((.seq (.draw F30A1 F30o1 F30p1 [1, 2])
   ((.seq (.ops F30o2 [2])
    (.ret))))))
def F30 : AFn := ⟨20, [.cell 2 true 4], F30c⟩
theorem F30_ok : cFn Tryd.prog [] 30 = some F30 := by kernel_rfl

/- manifold/manifoldlaw23.in -/
def F31o0 : List AOper := [
  ⟨(some 6), .t (.mv (.c (.bool false))), none⟩]
def F31o1 : List AOper := [
  ⟨(some 7), .t (.mv (.t 0)), none⟩,
  ⟨(some 8), .t (.mv (.t 1)), none⟩,
  ⟨(some 9), .t (.bin .geq (.t 7) (.t 8)), none⟩,
  ⟨(some 10), .t (.mv (.t 9)), none⟩,
  ⟨(some 11), .t (.mv (.t 0)), (some (10, true))⟩,
  ⟨(some 12), .t (.mv (.t 2)), (some (10, true))⟩,
  ⟨(some 13), .t (.bin .leq (.t 11) (.t 12)), (some (10, true))⟩,
  ⟨(some 14), .t (.pick (.t 10) (.t 13) (.c (.bool false))), none⟩,
  ⟨(some 6), .t (.mv (.t 14)), none⟩]
def F31c : ACode :=
  (.seq (.ops F31o0 [0, 1, 2])
  ((.seq (.ops F31o1 [6])
   (.ret))))
def F31 : AFn := ⟨15, [.tmp 6], F31c⟩
theorem F31_ok : cFn Tryd.prog [] 31 = some F31 := by kernel_rfl

/- manifold/resolve.Word -/
def F32o0 : List AOper := [
  ⟨(some 2), .t (.mv (.c (.str []))), none⟩]
def F32o1 : List AOper := [
  ⟨(some 4), .t (.build [(.str []), (.str []), (.str []), (.str []), (.str []), (.str []), (.str []), (.str []), (.str []), (.str []), (.str []), (.str []), (.str []), (.str []), (.str []), (.str []), (.str [])] [(0, 1, (.c (.str []))), (1, 1, (.c (.str [110, 97, 109, 101]))), (2, 1, (.c (.str [100, 117, 112, 108, 105, 99, 97, 116, 101]))), (3, 1, (.c (.str [117, 110, 107, 110, 111, 119, 110]))), (4, 1, (.c (.str [107, 105, 110, 100]))), (5, 1, (.c (.str [102, 111, 114, 109]))), (6, 1, (.c (.str [101, 110, 100]))), (7, 1, (.c (.str [98, 101, 104, 105, 110, 100]))), (8, 1, (.c (.str [101, 120, 112, 114, 101, 115, 115, 105, 111, 110]))), (9, 1, (.c (.str [109, 97, 112, 112, 105, 110, 103]))), (10, 1, (.c (.str [115, 99, 104, 101, 109, 97]))), (11, 1, (.c (.str [102, 111, 114, 109, 97, 116]))), (12, 1, (.c (.str [117, 110, 100, 111]))), (13, 1, (.c (.str [117, 110, 114, 101, 97, 99, 104, 97, 98, 108, 101]))), (14, 1, (.c (.str [99, 121, 99, 108, 101]))), (15, 1, (.c (.str [99, 111, 109, 112, 108, 101, 116, 105, 111, 110]))), (16, 1, (.c (.str [108, 105, 109, 105, 116])))]), none⟩,
  ⟨(some 3), .m (.alloc 110 [(.str []), (.str []), (.str []), (.str []), (.str []), (.str []), (.str []), (.str []), (.str []), (.str []), (.str []), (.str []), (.str []), (.str []), (.str []), (.str []), (.str [])]), none⟩,
  ⟨none, .m (.store 17 (.t 3) (.t 4)), none⟩]
def F32o2 : List AOper := [
  ⟨(some 5), .t (.mv (.t 0)), none⟩,
  ⟨(some 6), .t (.bin .lss (.t 5) (.c (.int .i64 0))), none⟩,
  ⟨(some 7), .t (.mv (.t 6)), none⟩,
  ⟨(some 8), .t (.mv (.t 0)), (some (7, false))⟩,
  ⟨(some 9), .t (.bin .geq (.t 8) (.c (.int .i64 17))), (some (7, false))⟩,
  ⟨(some 10), .t (.pick (.t 7) (.c (.bool true)) (.t 9)), none⟩]
def F32o3 : List AOper := [
  ⟨(some 2), .t (.mv (.c (.str []))), none⟩]
def F32o4 : List AOper := [
  ⟨(some 11), .t (.mv (.t 0)), none⟩,
  ⟨(some 12), .t (.iaddrA 17 1 (.t 3) (.t 11)), none⟩,
  ⟨(some 13), .m (.load false 1 (.t 12)), none⟩,
  ⟨(some 2), .t (.mv (.t 13)), none⟩]
def F32c : ACode :=
  (.seq (.ops F32o0 [0])
  ((.seq (.ops F32o1 [0, 3])
   ((.seq ((.seq (.ops F32o2 [0, 3, 10])
    (.cond (.t 10)
      ((.seq (.ops F32o3 [2])
       (.ret)))
      (.skip))))
    ((.seq (.ops F32o4 [2])
     (.ret))))))))
def F32 : AFn := ⟨14, [.tmp 2], F32c⟩
theorem F32_ok : cFn Tryd.prog [] 32 = some F32 := by kernel_rfl

/- manifold/resolve.Text -/
def F33o0 : List AOper := [
  ⟨(some 1), .m (.cbox 63 (.t 0)), none⟩,
  ⟨(some 2), .t (.mv (.c (.str []))), none⟩]
def F33o1 : List AOper := [
  ⟨(some 4), .t (.faddr 1 (.t 1)), none⟩,
  ⟨(some 5), .m (.load false 1 (.t 4)), none⟩,
  ⟨(some 6), .t (.faddr 2 (.t 1)), none⟩,
  ⟨(some 7), .m (.load false 1 (.t 6)), none⟩,
  ⟨(some 8), .call (.c (.clo 19 [] [])) [(.t 7)], none⟩,
  ⟨(some 9), .t (.faddr 0 (.t 1)), none⟩,
  ⟨(some 10), .m (.load false 1 (.t 9)), none⟩,
  ⟨(some 11), .call (.c (.clo 32 [] [])) [(.t 10)], none⟩,
  ⟨(some 12), .t (.faddr 3 (.t 1)), none⟩,
  ⟨(some 13), .m (.load false 1 (.t 12)), none⟩]
def F33p1 : List AOper := [
  ⟨(some 14), .m (.bslice true 9 1 4 [(.t 5), (.t 8), (.t 11), (.t 13)]), none⟩,
  ⟨(some 3), .t (.mv (.t 14)), none⟩]
def F33A1 : List (List Nat) := [[], [0], [], [2], [3, 2], [], [5], [6, 4, 5, 3, 2], [], [8], [1, 7, 9, 0, 6, 4, 5, 3, 2, 8], [10, 1, 7, 9, 0, 6, 4, 5, 3, 2, 8]]
def F33o2 : List AOper := [
  ⟨(some 15), .t (.mv (.t 3)), none⟩,
  ⟨(some 16), .call (.c (.clo 61 [] [])) [(.t 15), (.c (.clo 62 [] []))], none⟩,
  ⟨(some 17), .call (.c (.clo 60 [] [])) [(.t 16), (.c (.str [32]))], none⟩,
  ⟨(some 2), .t (.mv (.t 17)), none⟩]
def F33c : ACode :=
  (.seq (.ops F33o0 [1])
  ((.seq (.draw F33A1 F33o1 F33p1 [3])
   ((.seq (.ops F33o2 [2])
    (.ret))))))
def F33 : AFn := ⟨18, [.tmp 2], F33c⟩
theorem F33_ok : cFn Tryd.prog [1, 14] 33 = some F33 := by kernel_rfl

/- manifold/resolve.Compare -/
def F34o0 : List AOper := [
  ⟨(some 2), .m (.cbox 63 (.t 0)), none⟩,
  ⟨(some 3), .m (.cbox 63 (.t 1)), none⟩,
  ⟨(some 4), .t (.mv (.c (.int .i64 0))), none⟩]
def F34o1 : List AOper := [
  ⟨(some 5), .t (.faddr 1 (.t 2)), none⟩,
  ⟨(some 6), .m (.load false 1 (.t 5)), none⟩,
  ⟨(some 7), .t (.faddr 1 (.t 3)), none⟩,
  ⟨(some 8), .m (.load false 1 (.t 7)), none⟩,
  ⟨(some 9), .call (.c (.clo 64 [] [])) [(.t 6), (.t 8)], none⟩,
  ⟨(some 10), .t (.faddr 2 (.t 2)), none⟩,
  ⟨(some 11), .m (.load false 1 (.t 10)), none⟩,
  ⟨(some 12), .t (.faddr 2 (.t 3)), none⟩,
  ⟨(some 13), .m (.load false 1 (.t 12)), none⟩,
  ⟨(some 14), .call (.c (.clo 65 [] [])) [(.t 11), (.t 13)], none⟩,
  ⟨(some 15), .t (.faddr 0 (.t 2)), none⟩,
  ⟨(some 16), .m (.load false 1 (.t 15)), none⟩,
  ⟨(some 17), .t (.faddr 0 (.t 3)), none⟩,
  ⟨(some 18), .m (.load false 1 (.t 17)), none⟩,
  ⟨(some 19), .call (.c (.clo 66 [] [])) [(.t 16), (.t 18)], none⟩,
  ⟨(some 20), .t (.faddr 3 (.t 2)), none⟩,
  ⟨(some 21), .m (.load false 1 (.t 20)), none⟩,
  ⟨(some 22), .t (.faddr 3 (.t 3)), none⟩,
  ⟨(some 23), .m (.load false 1 (.t 22)), none⟩]
def F34p1 : List AOper := [
  ⟨(some 24), .call (.c (.clo 64 [] [])) [(.t 21), (.t 23)], none⟩,
  ⟨(some 25), .m (.bslice false 3 1 4 [(.t 9), (.t 14), (.t 19), (.t 24)]), none⟩,
  ⟨(some 26), .call (.c (.clo 63 [] [])) [(.t 25)], none⟩,
  ⟨(some 4), .t (.mv (.t 26)), none⟩]
def F34A1 : List (List Nat) := [[], [0], [], [2], [1, 3, 0, 2], [], [5], [], [7], [6, 8, 4, 5, 7, 1, 3, 0, 2], [], [10], [], [12], [11, 13, 9, 10, 12, 6, 8, 4, 5, 7, 1, 3, 0, 2], [], [15], [], [17], [16, 18, 14, 15, 17, 11, 13, 9, 10, 12, 6, 8, 4, 5, 7, 1, 3, 0, 2], [19, 16, 18, 14, 15, 17, 11, 13, 9, 10, 12, 6, 8, 4, 5, 7, 1, 3, 0, 2], [20, 19, 16, 18, 14, 15, 17, 11, 13, 9, 10, 12, 6, 8, 4, 5, 7, 1, 3, 0, 2], [21, 20, 19, 16, 18, 14, 15, 17, 11, 13, 9, 10, 12, 6, 8, 4, 5, 7, 1, 3, 0, 2]]
def F34c : ACode :=
  (.seq (.ops F34o0 [2, 3])
  ((.seq (.draw F34A1 F34o1 F34p1 [4])
   (.ret))))
def F34 : AFn := ⟨27, [.tmp 4], F34c⟩
theorem F34_ok : cFn Tryd.prog [2, 3] 34 = some F34 := by kernel_rfl

/- manifold/manifoldlaw23.compare -/
def F35o0 : List AOper := [
  ⟨(some 2), .m (.cbox 63 (.t 0)), none⟩,
  ⟨(some 3), .m (.cbox 63 (.t 1)), none⟩,
  ⟨(some 4), .t (.mv (.c (.int .i64 0))), none⟩]
def F35o1 : List AOper := [
  ⟨(some 6), .t (.faddr 1 (.t 2)), none⟩,
  ⟨(some 7), .m (.load false 1 (.t 6)), none⟩,
  ⟨(some 8), .t (.faddr 1 (.t 3)), none⟩,
  ⟨(some 9), .m (.load false 1 (.t 8)), none⟩,
  ⟨(some 10), .t (.bin .neq (.t 7) (.t 9)), none⟩]
def F35o2 : List AOper := [
  ⟨(some 11), .t (.faddr 1 (.t 2)), none⟩,
  ⟨(some 12), .m (.load false 1 (.t 11)), none⟩,
  ⟨(some 13), .t (.faddr 1 (.t 3)), none⟩,
  ⟨(some 14), .m (.load false 1 (.t 13)), none⟩,
  ⟨(some 15), .t (.bin .lss (.t 12) (.t 14)), none⟩,
  ⟨(some 16), .call (.c (.clo 67 [] [])) [(.t 15)], none⟩,
  ⟨(some 4), .t (.mv (.t 16)), none⟩]
def F35o3 : List AOper := [
  ⟨(some 5), .t (.mv (.c (.int .i64 0))), none⟩]
def F35o4 : List AOper := [
  ⟨(some 17), .t (.mv (.t 5)), none⟩,
  ⟨(some 18), .t (.faddr 2 (.t 2)), none⟩,
  ⟨(some 19), .m (.load false 1 (.t 18)), none⟩,
  ⟨(some 20), .t (.len false (.t 19)), none⟩,
  ⟨(some 21), .t (.bin .lss (.t 17) (.t 20)), none⟩,
  ⟨(some 22), .t (.mv (.t 21)), none⟩,
  ⟨(some 23), .t (.mv (.t 5)), (some (22, true))⟩,
  ⟨(some 24), .t (.faddr 2 (.t 3)), (some (22, true))⟩,
  ⟨(some 25), .m (.load false 1 (.t 24)), (some (22, true))⟩,
  ⟨(some 26), .t (.len false (.t 25)), (some (22, true))⟩,
  ⟨(some 27), .t (.bin .lss (.t 23) (.t 26)), (some (22, true))⟩,
  ⟨(some 28), .t (.pick (.t 22) (.t 27) (.c (.bool false))), none⟩]
def F35o5 : List AOper := [
  ⟨(some 31), .t (.faddr 2 (.t 2)), none⟩,
  ⟨(some 32), .m (.load false 1 (.t 31)), none⟩,
  ⟨(some 33), .t (.mv (.t 5)), none⟩,
  ⟨(some 34), .t (.iaddr 1 (.t 32) (.t 33)), none⟩,
  ⟨(some 35), .m (.load false 1 (.t 34)), none⟩,
  ⟨(some 36), .t (.faddr 2 (.t 3)), none⟩,
  ⟨(some 37), .m (.load false 1 (.t 36)), none⟩,
  ⟨(some 38), .t (.mv (.t 5)), none⟩,
  ⟨(some 39), .t (.iaddr 1 (.t 37) (.t 38)), none⟩,
  ⟨(some 40), .m (.load false 1 (.t 39)), none⟩]
def F35p5 : List AOper := [
  ⟨(some 41), .t (.bin .neq (.t 35) (.t 40)), none⟩]
def F35A5 : List (List Nat) := [[], [0], [], [1, 2, 0], [3, 1, 2, 0], [], [5], [], [6, 7, 5], [8, 6, 7, 5], [4, 9, 3, 1, 2, 0, 8, 6, 7, 5]]
def F35o6 : List AOper := [
  ⟨(some 42), .t (.faddr 2 (.t 2)), none⟩,
  ⟨(some 43), .m (.load false 1 (.t 42)), none⟩,
  ⟨(some 44), .t (.mv (.t 5)), none⟩,
  ⟨(some 45), .t (.iaddr 1 (.t 43) (.t 44)), none⟩,
  ⟨(some 46), .m (.load false 1 (.t 45)), none⟩,
  ⟨(some 47), .t (.faddr 2 (.t 3)), none⟩,
  ⟨(some 48), .m (.load false 1 (.t 47)), none⟩,
  ⟨(some 49), .t (.mv (.t 5)), none⟩,
  ⟨(some 50), .t (.iaddr 1 (.t 48) (.t 49)), none⟩,
  ⟨(some 51), .m (.load false 1 (.t 50)), none⟩]
def F35p6 : List AOper := [
  ⟨(some 52), .t (.bin .lss (.t 46) (.t 51)), none⟩,
  ⟨(some 53), .call (.c (.clo 67 [] [])) [(.t 52)], none⟩,
  ⟨(some 4), .t (.mv (.t 53)), none⟩]
def F35A6 : List (List Nat) := [[], [0], [], [1, 2, 0], [3, 1, 2, 0], [], [5], [], [6, 7, 5], [8, 6, 7, 5], [4, 9, 3, 1, 2, 0, 8, 6, 7, 5], [10, 4, 9, 3, 1, 2, 0, 8, 6, 7, 5], [11, 10, 4, 9, 3, 1, 2, 0, 8, 6, 7, 5]]
def F35o7 : List AOper := [
  ⟨(some 29), .t (.mv (.t 5)), none⟩,
  ⟨(some 30), .t (.bin .add (.t 29) (.c (.int .i64 1))), none⟩,
  ⟨(some 5), .t (.mv (.t 30)), none⟩]
def F35b8 : ACode :=
  (.seq ((.seq (.ops F35o4 [2, 3, 5, 28])
  (.cond (.t 28)
    (.skip)
    (.exit 0))))
  ((.seq (.block 1 ((.seq (.draw F35A5 F35o5 F35p5 [2, 3, 5, 41])
    (.cond (.t 41)
      ((.seq (.draw F35A6 F35o6 F35p6 [4])
       (.ret)))
      (.skip)))))
   (.ops F35o7 [2, 3, 5]))))
def F35o9 : List AOper := [
  ⟨(some 55), .t (.faddr 2 (.t 2)), none⟩,
  ⟨(some 56), .m (.load false 1 (.t 55)), none⟩,
  ⟨(some 57), .t (.len false (.t 56)), none⟩,
  ⟨(some 58), .t (.faddr 2 (.t 3)), none⟩,
  ⟨(some 59), .m (.load false 1 (.t 58)), none⟩,
  ⟨(some 60), .t (.len false (.t 59)), none⟩,
  ⟨(some 61), .t (.bin .neq (.t 57) (.t 60)), none⟩,
  ⟨(some 54), .t (.mv (.t 61)), none⟩]
def F35o10 : List AOper := [
  ⟨(some 62), .t (.faddr 2 (.t 2)), none⟩,
  ⟨(some 63), .m (.load false 1 (.t 62)), none⟩,
  ⟨(some 64), .t (.len false (.t 63)), none⟩,
  ⟨(some 65), .t (.faddr 2 (.t 3)), none⟩,
  ⟨(some 66), .m (.load false 1 (.t 65)), none⟩,
  ⟨(some 67), .t (.len false (.t 66)), none⟩,
  ⟨(some 68), .t (.bin .lss (.t 64) (.t 67)), none⟩,
  ⟨(some 69), .call (.c (.clo 67 [] [])) [(.t 68)], none⟩,
  ⟨(some 4), .t (.mv (.t 69)), none⟩]
def F35o11 : List AOper := [
  ⟨(some 71), .t (.faddr 0 (.t 2)), none⟩,
  ⟨(some 72), .m (.load false 1 (.t 71)), none⟩,
  ⟨(some 73), .t (.faddr 0 (.t 3)), none⟩,
  ⟨(some 74), .m (.load false 1 (.t 73)), none⟩,
  ⟨(some 75), .t (.bin .neq (.t 72) (.t 74)), none⟩,
  ⟨(some 70), .t (.mv (.t 75)), none⟩]
def F35o12 : List AOper := [
  ⟨(some 76), .t (.faddr 0 (.t 2)), none⟩,
  ⟨(some 77), .m (.load false 1 (.t 76)), none⟩,
  ⟨(some 78), .t (.faddr 0 (.t 3)), none⟩,
  ⟨(some 79), .m (.load false 1 (.t 78)), none⟩,
  ⟨(some 80), .t (.bin .lss (.t 77) (.t 79)), none⟩,
  ⟨(some 81), .call (.c (.clo 67 [] [])) [(.t 80)], none⟩,
  ⟨(some 4), .t (.mv (.t 81)), none⟩]
def F35o13 : List AOper := [
  ⟨(some 83), .t (.faddr 3 (.t 2)), none⟩,
  ⟨(some 84), .m (.load false 1 (.t 83)), none⟩,
  ⟨(some 85), .t (.faddr 3 (.t 3)), none⟩,
  ⟨(some 86), .m (.load false 1 (.t 85)), none⟩,
  ⟨(some 87), .t (.bin .neq (.t 84) (.t 86)), none⟩,
  ⟨(some 82), .t (.mv (.t 87)), none⟩]
def F35o14 : List AOper := [
  ⟨(some 88), .t (.faddr 3 (.t 2)), none⟩,
  ⟨(some 89), .m (.load false 1 (.t 88)), none⟩,
  ⟨(some 90), .t (.faddr 3 (.t 3)), none⟩,
  ⟨(some 91), .m (.load false 1 (.t 90)), none⟩,
  ⟨(some 92), .t (.bin .lss (.t 89) (.t 91)), none⟩,
  ⟨(some 93), .call (.c (.clo 67 [] [])) [(.t 92)], none⟩,
  ⟨(some 4), .t (.mv (.t 93)), none⟩]
def F35o15 : List AOper := [
  ⟨(some 4), .t (.mv (.c (.int .i64 0))), none⟩]
def F35c : ACode :=
  (.seq (.ops F35o0 [2, 3])
  ((.seq ((.seq (.ops F35o1 [2, 3, 10])
   (.cond (.t 10)
     ((.seq (.ops F35o2 [4])
      (.ret)))
     (.skip))))
   ((.seq ((.seq (.ops F35o3 [2, 3, 5])
    (.block 0 (.loop [2, 3, 5] F35b8))))
    ((.seq (.block 2 ((.seq (.ops F35o9 [2, 3, 54])
      (.cond (.t 54)
        ((.seq (.ops F35o10 [4])
         (.ret)))
        ((.seq (.ops F35o11 [2, 3, 70])
         (.cond (.t 70)
           ((.seq (.ops F35o12 [4])
            (.ret)))
           ((.seq (.ops F35o13 [2, 3, 82])
            (.cond (.t 82)
              ((.seq (.ops F35o14 [4])
               (.ret)))
              (.skip)))))))))))
     ((.seq (.ops F35o15 [4])
      (.ret))))))))))
def F35 : AFn := ⟨94, [.tmp 4], F35c⟩
theorem F35_ok : cFn Tryd.prog [2, 3] 35 = some F35 := by kernel_rfl

/- manifold/resolve.Walk -/
def F37o0 : List AOper := [
  ⟨(some 1), .m (.cbox 44 (.t 0)), none⟩,
  ⟨(some 2), .t (.mv (.c .nils)), none⟩]
def F37o1 : List AOper := [
  ⟨(some 3), .t (.mv (.c .nils)), none⟩]
def F37o2 : List AOper := [
  ⟨(some 5), .t (.faddr 4 (.t 1)), none⟩,
  ⟨(some 6), .m (.load false 1 (.t 5)), none⟩,
  ⟨(some 7), .t (.len false (.t 6)), none⟩,
  ⟨(some 8), .t (.mv (.c (.int .i64 0))), none⟩]
def F37o3 : List AOper := [
  ⟨(some 9), .t (.bin .lss (.t 8) (.t 7)), none⟩]
def F37o4 : List AOper := [
  ⟨(some 10), .t (.mv (.t 8)), none⟩,
  ⟨(some 4), .t (.mv (.t 10)), none⟩]
def F37o5 : List AOper := [
  ⟨(some 11), .t (.mv (.t 3)), none⟩,
  ⟨(some 12), .m (.load true 5 (.t 1)), none⟩,
  ⟨(some 13), .t (.mv (.t 4)), none⟩,
  ⟨(some 14), .call (.c (.clo 68 [] [])) [(.t 12), (.t 13)], none⟩,
  ⟨(some 15), .m (.append false 79 13 208 (.t 11) (.t 14)), none⟩,
  ⟨(some 3), .t (.mv (.t 15)), none⟩]
def F37o6 : List AOper := [
  ⟨(some 16), .t (.bin .add (.t 8) (.c (.int .i64 1))), none⟩,
  ⟨(some 8), .t (.mv (.t 16)), none⟩]
def F37b7 : ACode :=
  (.seq (.ops F37o3 [1, 3, 7, 8, 9])
  ((.seq (.cond (.t 9)
    (.skip)
    (.exit 0))
   ((.seq (.block 1 ((.seq (.ops F37o4 [1, 3, 4, 7, 8])
     (.ops F37o5 [1, 3, 7, 8]))))
    (.ops F37o6 [1, 3, 7, 8]))))))
def F37o8 : List AOper := [
  ⟨(some 17), .t (.mv (.t 3)), none⟩,
  ⟨(some 2), .t (.mv (.t 17)), none⟩]
def F37c : ACode :=
  (.seq (.ops F37o0 [1])
  ((.seq (.ops F37o1 [1, 3])
   ((.seq ((.seq (.ops F37o2 [1, 3, 7, 8])
    (.block 0 (.loop [1, 3, 7, 8] F37b7))))
    ((.seq (.ops F37o8 [2])
     (.ret))))))))
def F37 : AFn := ⟨18, [.tmp 2], F37c⟩
theorem F37_ok : cFn Tryd.prog [1] 37 = some F37 := by kernel_rfl

/- manifold/manifoldlaw23.samePlace -/
def F40o0 : List AOper := [
  ⟨(some 4), .t (.mv (.c (.bool false))), none⟩]
def F40o1 : List AOper := [
  ⟨(some 6), .t (.mv (.t 0)), none⟩,
  ⟨(some 7), .t (.len false (.t 6)), none⟩,
  ⟨(some 8), .t (.mv (.t 1)), none⟩,
  ⟨(some 9), .t (.len false (.t 8)), none⟩,
  ⟨(some 10), .t (.bin .neq (.t 7) (.t 9)), none⟩]
def F40o2 : List AOper := [
  ⟨(some 4), .t (.mv (.c (.bool false))), none⟩]
def F40o3 : List AOper := [
  ⟨(some 5), .t (.mv (.c (.int .i64 0))), none⟩]
def F40o4 : List AOper := [
  ⟨(some 11), .t (.mv (.t 5)), none⟩,
  ⟨(some 12), .t (.mv (.t 0)), none⟩,
  ⟨(some 13), .t (.len false (.t 12)), none⟩,
  ⟨(some 14), .t (.bin .lss (.t 11) (.t 13)), none⟩]
def F40o5 : List AOper := [
  ⟨(some 17), .t (.mv (.t 0)), none⟩,
  ⟨(some 18), .t (.mv (.t 5)), none⟩,
  ⟨(some 19), .t (.iaddr 1 (.t 17) (.t 18)), none⟩,
  ⟨(some 20), .m (.load false 1 (.t 19)), none⟩,
  ⟨(some 21), .t (.mv (.t 1)), none⟩,
  ⟨(some 22), .t (.mv (.t 5)), none⟩,
  ⟨(some 23), .t (.iaddr 1 (.t 21) (.t 22)), none⟩,
  ⟨(some 24), .m (.load false 1 (.t 23)), none⟩]
def F40p5 : List AOper := [
  ⟨(some 25), .t (.bin .neq (.t 20) (.t 24)), none⟩]
def F40A5 : List (List Nat) := [[], [], [0, 1], [2, 0, 1], [], [], [4, 5], [6, 4, 5], [3, 7, 2, 0, 1, 6, 4, 5]]
def F40o6 : List AOper := [
  ⟨(some 4), .t (.mv (.c (.bool false))), none⟩]
def F40o7 : List AOper := [
  ⟨(some 15), .t (.mv (.t 5)), none⟩,
  ⟨(some 16), .t (.bin .add (.t 15) (.c (.int .i64 1))), none⟩,
  ⟨(some 5), .t (.mv (.t 16)), none⟩]
def F40b8 : ACode :=
  (.seq ((.seq (.ops F40o4 [0, 1, 5, 14])
  (.cond (.t 14)
    (.skip)
    (.exit 0))))
  ((.seq (.block 1 ((.seq (.draw F40A5 F40o5 F40p5 [0, 1, 5, 25])
    (.cond (.t 25)
      ((.seq (.ops F40o6 [4])
       (.ret)))
      (.skip)))))
   (.ops F40o7 [0, 1, 5]))))
def F40o9 : List AOper := [
  ⟨(some 4), .t (.mv (.c (.bool true))), none⟩]
def F40c : ACode :=
  (.seq (.ops F40o0 [0, 1])
  ((.seq ((.seq (.ops F40o1 [0, 1, 10])
   (.cond (.t 10)
     ((.seq (.ops F40o2 [4])
      (.ret)))
     (.skip))))
   ((.seq ((.seq (.ops F40o3 [0, 1, 5])
    (.block 0 (.loop [0, 1, 5] F40b8))))
    ((.seq (.ops F40o9 [4])
     (.ret))))))))
def F40 : AFn := ⟨26, [.tmp 4], F40c⟩
theorem F40_ok : cFn Tryd.prog [] 40 = some F40 := by kernel_rfl

/- slices.ContainsFunc[[]manifold/api.Branch,manifold/api.Branch] -/
def F45o0 : List AOper := [
  ⟨(some 4), .t (.mv (.c (.bool false))), none⟩]
def F45o1 : List AOper := [
  ⟨(some 5), .t (.mv (.t 0)), none⟩,
  ⟨(some 6), .t (.mv (.t 1)), none⟩,
  ⟨(some 7), .call (.c (.clo 79 [] [])) [(.t 5), (.t 6)], none⟩,
  ⟨(some 8), .t (.bin .geq (.t 7) (.c (.int .i64 0))), none⟩,
  ⟨(some 4), .t (.mv (.t 8)), none⟩]
def F45c : ACode :=
  (.seq (.ops F45o0 [0, 1])
  ((.seq (.ops F45o1 [4])
   (.ret))))
def F45 : AFn := ⟨9, [.tmp 4], F45c⟩
theorem F45_ok : cFn Tryd.prog [] 45 = some F45 := by kernel_rfl

/- manifold/resolve.Ends$1 -/
def F46o0 : List AOper := [
  ⟨(some 1), .m (.cbox 89 (.t 0)), none⟩,
  ⟨(some 2), .t (.mv (.c (.bool false))), none⟩]
def F46o1 : List AOper := [
  ⟨(some 3), .t (.faddr 1 (.t 1)), none⟩,
  ⟨(some 4), .m (.load false 1 (.t 3)), none⟩,
  ⟨(some 5), .call (.c (.clo 15 [] [])) [(.t 4)], none⟩,
  ⟨(some 6), .t (.not (.t 5)), none⟩,
  ⟨(some 2), .t (.mv (.t 6)), none⟩]
def F46c : ACode :=
  (.seq (.ops F46o0 [1])
  ((.seq (.ops F46o1 [2])
   (.ret))))
def F46 : AFn := ⟨7, [.tmp 2], F46c⟩
theorem F46_ok : cFn Tryd.prog [1] 46 = some F46 := by kernel_rfl

/- manifold/manifoldlaw23.choose -/
def F47o0 : List AOper := [
  ⟨(some 2), .m (.alloc 32 [(.str []), (.int .i64 0), (.int .i64 0), (.int .i64 0), (.int .i64 0), (.str []), (.str []), .nils, .nils, .nils, .nils]), none⟩]
def F47o1 : List AOper := [
  ⟨(some 5), .t (.build [(.str []), (.int .i64 0), (.int .i64 0), (.int .i64 0), (.int .i64 0), (.str []), (.str []), .nils, .nils, .nils, .nils] [(1, 1, (.c (.int .i64 11)))]), none⟩,
  ⟨(some 3), .m (.alloc 32 [(.str []), (.int .i64 0), (.int .i64 0), (.int .i64 0), (.int .i64 0), (.str []), (.str []), .nils, .nils, .nils, .nils]), none⟩,
  ⟨none, .m (.store 11 (.t 3) (.t 5)), none⟩]
def F47o2 : List AOper := [
  ⟨(some 4), .t (.mv (.c (.int .i64 0))), none⟩]
def F47o3 : List AOper := [
  ⟨(some 6), .t (.mv (.t 4)), none⟩,
  ⟨(some 7), .t (.mv (.t 0)), none⟩,
  ⟨(some 8), .t (.len false (.t 7)), none⟩,
  ⟨(some 9), .t (.bin .lss (.t 6) (.t 8)), none⟩]
def F47o4 : List AOper := [
  ⟨(some 12), .t (.faddr 10 (.t 3)), none⟩,
  ⟨(some 13), .m (.load false 1 (.t 12)), none⟩,
  ⟨(some 14), .t (.mv (.t 0)), none⟩,
  ⟨(some 15), .t (.mv (.t 4)), none⟩,
  ⟨(some 16), .t (.iaddr 1 (.t 14) (.t 15)), none⟩,
  ⟨(some 17), .m (.load false 1 (.t 16)), none⟩,
  ⟨(some 18), .t (.build [.nils, .nils] [(1, 1, (.t 17))]), none⟩,
  ⟨(some 19), .m (.bslice false 89 2 1 [(.t 18)]), none⟩]
def F47p4 : List AOper := [
  ⟨(some 20), .m (.append false 89 2 48 (.t 13) (.t 19)), none⟩,
  ⟨(some 21), .t (.faddr 10 (.t 3)), none⟩,
  ⟨none, .m (.store 1 (.t 21) (.t 20)), none⟩]
def F47A4 : List (List Nat) := [[], [0], [], [], [2, 3], [4, 2, 3], [5, 4, 2, 3], [6, 5, 4, 2, 3], [1, 7, 0, 6, 5, 4, 2, 3], [8, 1, 7, 0, 6, 5, 4, 2, 3], [9, 8, 1, 7, 0, 6, 5, 4, 2, 3]]
def F47o5 : List AOper := [
  ⟨(some 10), .t (.mv (.t 4)), none⟩,
  ⟨(some 11), .t (.bin .add (.t 10) (.c (.int .i64 1))), none⟩,
  ⟨(some 4), .t (.mv (.t 11)), none⟩]
def F47b6 : ACode :=
  (.seq ((.seq (.ops F47o3 [0, 2, 3, 4, 9])
  (.cond (.t 9)
    (.skip)
    (.exit 0))))
  ((.seq (.block 1 (.draw F47A4 F47o4 F47p4 [0, 2, 3, 4]))
   (.ops F47o5 [0, 2, 3, 4]))))
def F47o7 : List AOper := [
  ⟨(some 22), .m (.load true 11 (.t 3)), none⟩,
  ⟨none, .m (.store 11 (.t 2) (.t 22)), none⟩]
def F47c : ACode :=
  (.seq (.ops F47o0 [0, 2])
  ((.seq (.ops F47o1 [0, 2, 3])
   ((.seq ((.seq (.ops F47o2 [0, 2, 3, 4])
    (.block 0 (.loop [0, 2, 3, 4] F47b6))))
    ((.seq (.ops F47o7 [2])
     (.ret))))))))
def F47 : AFn := ⟨23, [.cell 2 true 11], F47c⟩
theorem F47_ok : cFn Tryd.prog [] 47 = some F47 := by kernel_rfl

/- manifold/manifoldlaw23.to -/
def F48o0 : List AOper := [
  ⟨(some 2), .m (.alloc 32 [(.str []), (.int .i64 0), (.int .i64 0), (.int .i64 0), (.int .i64 0), (.str []), (.str []), .nils, .nils, .nils, .nils]), none⟩]
def F48o1 : List AOper := [
  ⟨(some 3), .t (.mv (.t 0)), none⟩,
  ⟨(some 4), .t (.build [(.str []), (.int .i64 0), (.int .i64 0), (.int .i64 0), (.int .i64 0), (.str []), (.str []), .nils, .nils, .nils, .nils] [(1, 1, (.c (.int .i64 13))), (5, 1, (.t 3))]), none⟩,
  ⟨none, .m (.store 11 (.t 2) (.t 4)), none⟩]
def F48c : ACode :=
  (.seq (.ops F48o0 [0, 2])
  ((.seq (.ops F48o1 [2])
   (.ret))))
def F48 : AFn := ⟨5, [.cell 2 true 11], F48c⟩
theorem F48_ok : cFn Tryd.prog [] 48 = some F48 := by kernel_rfl

/- manifold/resolve.joined -/
def F49o0 : List AOper := [
  ⟨(some 4), .t (.mv (.c (.str []))), none⟩]
def F49o1 : List AOper := [
  ⟨(some 5), .t (.mv (.c .nils)), none⟩]
def F49o2 : List AOper := [
  ⟨(some 8), .t (.mv (.t 0)), none⟩,
  ⟨(some 9), .t (.len false (.t 8)), none⟩,
  ⟨(some 10), .t (.mv (.c (.int .i64 0))), none⟩]
def F49o3 : List AOper := [
  ⟨(some 11), .t (.bin .lss (.t 10) (.t 9)), none⟩]
def F49o4 : List AOper := [
  ⟨(some 12), .t (.iaddr 1 (.t 8) (.t 10)), none⟩,
  ⟨(some 13), .m (.load false 1 (.t 12)), none⟩,
  ⟨(some 7), .t (.mv (.t 13)), none⟩]
def F49o5 : List AOper := [
  ⟨(some 14), .t (.mv (.t 5)), none⟩,
  ⟨(some 15), .t (.mv (.t 7)), none⟩,
  ⟨(some 16), .call (.c (.clo 80 [] [])) [(.t 15)], none⟩,
  ⟨(some 17), .m (.bslice false 9 1 1 [(.t 16)]), none⟩,
  ⟨(some 18), .m (.append false 9 1 16 (.t 14) (.t 17)), none⟩,
  ⟨(some 5), .t (.mv (.t 18)), none⟩]
def F49o6 : List AOper := [
  ⟨(some 19), .t (.bin .add (.t 10) (.c (.int .i64 1))), none⟩,
  ⟨(some 10), .t (.mv (.t 19)), none⟩]
def F49b7 : ACode :=
  (.seq (.ops F49o3 [1, 5, 8, 9, 10, 11])
  ((.seq (.cond (.t 11)
    (.skip)
    (.exit 0))
   ((.seq (.block 1 ((.seq (.ops F49o4 [1, 5, 7, 8, 9, 10])
     (.ops F49o5 [1, 5, 8, 9, 10]))))
    (.ops F49o6 [1, 5, 8, 9, 10]))))))
def F49o8 : List AOper := [
  ⟨(some 20), .t (.mv (.t 5)), none⟩,
  ⟨(some 21), .t (.mv (.t 1)), none⟩,
  ⟨(some 22), .call (.c (.clo 60 [] [])) [(.t 20), (.t 21)], none⟩,
  ⟨(some 4), .t (.mv (.t 22)), none⟩]
def F49c : ACode :=
  (.seq (.ops F49o0 [0, 1])
  ((.seq (.ops F49o1 [0, 1, 5])
   ((.seq ((.seq (.ops F49o2 [1, 5, 8, 9, 10])
    (.block 0 (.loop [1, 5, 8, 9, 10] F49b7))))
    ((.seq (.ops F49o8 [4])
     (.ret))))))))
def F49 : AFn := ⟨23, [.tmp 4], F49c⟩
theorem F49_ok : cFn Tryd.prog [] 49 = some F49 := by kernel_rfl

/- manifold/manifoldlaw23.decimal -/
def F50o0 : List AOper := [
  ⟨(some 2), .t (.mv (.c (.str []))), none⟩]
def F50o1 : List AOper := [
  ⟨(some 4), .t (.mv (.t 0)), none⟩,
  ⟨(some 5), .t (.bin .lss (.t 4) (.c (.int .i64 0))), none⟩]
def F50o2 : List AOper := [
  ⟨(some 6), .t (.mv (.t 0)), none⟩,
  ⟨(some 7), .t (.bin .quo (.t 6) (.c (.int .i64 10))), none⟩,
  ⟨(some 8), .t (.bin .eql (.t 7) (.c (.int .i64 0))), none⟩]
def F50o3 : List AOper := [
  ⟨(some 9), .t (.mv (.t 0)), none⟩,
  ⟨(some 10), .t (.neg (.t 9)), none⟩,
  ⟨(some 11), .t (.mv (.t 0)), none⟩,
  ⟨(some 12), .t (.neg (.t 11)), none⟩,
  ⟨(some 13), .t (.bin .add (.t 12) (.c (.int .i64 1))), none⟩,
  ⟨(some 14), .t (.sliceS (.c (.str [48, 49, 50, 51, 52, 53, 54, 55, 56, 57])) (some (.t 10)) (some (.t 13))), none⟩,
  ⟨(some 15), .t (.bin .add (.c (.str [45])) (.t 14)), none⟩,
  ⟨(some 2), .t (.mv (.t 15)), none⟩]
def F50o4 : List AOper := [
  ⟨(some 16), .t (.mv (.t 0)), none⟩,
  ⟨(some 17), .t (.bin .quo (.t 16) (.c (.int .i64 10))), none⟩,
  ⟨(some 18), .call (.c (.clo 50 [] [])) [(.t 17)], none⟩,
  ⟨(some 19), .t (.mv (.t 0)), none⟩,
  ⟨(some 20), .t (.bin .rem (.t 19) (.c (.int .i64 10))), none⟩,
  ⟨(some 21), .t (.neg (.t 20)), none⟩,
  ⟨(some 22), .t (.mv (.t 0)), none⟩,
  ⟨(some 23), .t (.bin .rem (.t 22) (.c (.int .i64 10))), none⟩,
  ⟨(some 24), .t (.neg (.t 23)), none⟩,
  ⟨(some 25), .t (.bin .add (.t 24) (.c (.int .i64 1))), none⟩,
  ⟨(some 26), .t (.sliceS (.c (.str [48, 49, 50, 51, 52, 53, 54, 55, 56, 57])) (some (.t 21)) (some (.t 25))), none⟩]
def F50p4 : List AOper := [
  ⟨(some 27), .t (.bin .add (.t 18) (.t 26)), none⟩,
  ⟨(some 2), .t (.mv (.t 27)), none⟩]
def F50A4 : List (List Nat) := [[], [0], [1, 0], [], [3], [4, 3], [], [6], [7, 6], [8, 7, 6], [5, 9, 4, 3, 8, 7, 6], [2, 10, 1, 0, 5, 9, 4, 3, 8, 7, 6], [11, 2, 10, 1, 0, 5, 9, 4, 3, 8, 7, 6]]
def F50o5 : List AOper := [
  ⟨(some 28), .t (.mv (.t 0)), none⟩,
  ⟨(some 29), .t (.bin .rem (.t 28) (.c (.int .i64 10))), none⟩,
  ⟨(some 30), .t (.mv (.t 0)), none⟩,
  ⟨(some 31), .t (.bin .rem (.t 30) (.c (.int .i64 10))), none⟩,
  ⟨(some 32), .t (.bin .add (.t 31) (.c (.int .i64 1))), none⟩,
  ⟨(some 33), .t (.sliceS (.c (.str [48, 49, 50, 51, 52, 53, 54, 55, 56, 57])) (some (.t 29)) (some (.t 32))), none⟩,
  ⟨(some 3), .t (.mv (.t 33)), none⟩]
def F50o6 : List AOper := [
  ⟨(some 34), .t (.mv (.t 0)), none⟩,
  ⟨(some 35), .t (.bin .geq (.t 34) (.c (.int .i64 10))), none⟩]
def F50o7 : List AOper := [
  ⟨(some 36), .t (.mv (.t 0)), none⟩,
  ⟨(some 37), .t (.bin .quo (.t 36) (.c (.int .i64 10))), none⟩,
  ⟨(some 38), .call (.c (.clo 50 [] [])) [(.t 37)], none⟩,
  ⟨(some 39), .t (.mv (.t 3)), none⟩,
  ⟨(some 40), .t (.bin .add (.t 38) (.t 39)), none⟩,
  ⟨(some 3), .t (.mv (.t 40)), none⟩]
def F50o8 : List AOper := [
  ⟨(some 41), .t (.mv (.t 3)), none⟩,
  ⟨(some 2), .t (.mv (.t 41)), none⟩]
def F50c : ACode :=
  (.seq (.ops F50o0 [0])
  ((.seq ((.seq (.ops F50o1 [0, 5])
   (.cond (.t 5)
     ((.seq ((.seq (.ops F50o2 [0, 8])
      (.cond (.t 8)
        ((.seq (.ops F50o3 [2])
         (.ret)))
        (.skip))))
      ((.seq (.draw F50A4 F50o4 F50p4 [2])
       (.ret)))))
     (.skip))))
   ((.seq (.ops F50o5 [0, 3])
    ((.seq ((.seq (.ops F50o6 [0, 3, 35])
     (.cond (.t 35)
       (.ops F50o7 [3])
       (.skip))))
     ((.seq (.ops F50o8 [2])
      (.ret))))))))))
def F50 : AFn := ⟨42, [.tmp 2], F50c⟩
theorem F50_ok : cFn Tryd.prog [] 50 = some F50 := by kernel_rfl

/- slices.DeleteFunc[[]string,string] -/
def F61o0 : List AOper := [
  ⟨(some 4), .t (.mv (.c .nils)), none⟩]
def F61o1 : List AOper := [
  ⟨(some 8), .t (.mv (.t 0)), none⟩,
  ⟨(some 9), .t (.mv (.t 1)), none⟩,
  ⟨(some 10), .call (.c (.clo 89 [] [])) [(.t 8), (.t 9)], none⟩,
  ⟨(some 5), .t (.mv (.t 10)), none⟩]
def F61o2 : List AOper := [
  ⟨(some 11), .t (.mv (.t 5)), none⟩,
  ⟨(some 12), .t (.bin .eql (.t 11) (.c (.int .i64 (-1)))), none⟩]
def F61o3 : List AOper := [
  ⟨(some 13), .t (.mv (.t 0)), none⟩,
  ⟨(some 4), .t (.mv (.t 13)), none⟩]
def F61o4 : List AOper := [
  ⟨(some 14), .t (.mv (.t 5)), none⟩,
  ⟨(some 15), .t (.bin .add (.t 14) (.c (.int .i64 1))), none⟩,
  ⟨(some 6), .t (.mv (.t 15)), none⟩]
def F61o5 : List AOper := [
  ⟨(some 16), .t (.mv (.t 6)), none⟩,
  ⟨(some 17), .t (.mv (.t 0)), none⟩,
  ⟨(some 18), .t (.len false (.t 17)), none⟩,
  ⟨(some 19), .t (.bin .lss (.t 16) (.t 18)), none⟩]
def F61o6 : List AOper := [
  ⟨(some 22), .t (.mv (.t 0)), none⟩,
  ⟨(some 23), .t (.mv (.t 6)), none⟩,
  ⟨(some 24), .t (.iaddr 1 (.t 22) (.t 23)), none⟩,
  ⟨(some 25), .m (.load false 1 (.t 24)), none⟩,
  ⟨(some 7), .t (.mv (.t 25)), none⟩]
def F61o7 : List AOper := [
  ⟨(some 26), .t (.mv (.t 1)), none⟩,
  ⟨(some 27), .t (.mv (.t 7)), none⟩,
  ⟨(some 28), .call (.t 26) [(.t 27)], none⟩,
  ⟨(some 29), .t (.not (.t 28)), none⟩]
def F61o8 : List AOper := [
  ⟨(some 30), .t (.mv (.t 0)), none⟩,
  ⟨(some 31), .t (.mv (.t 5)), none⟩,
  ⟨(some 32), .t (.mv (.t 7)), none⟩,
  ⟨(some 33), .t (.iaddr 1 (.t 30) (.t 31)), none⟩,
  ⟨none, .m (.store 1 (.t 33) (.t 32)), none⟩]
def F61o9 : List AOper := [
  ⟨(some 34), .t (.mv (.t 5)), none⟩,
  ⟨(some 35), .t (.bin .add (.t 34) (.c (.int .i64 1))), none⟩,
  ⟨(some 5), .t (.mv (.t 35)), none⟩]
def F61o10 : List AOper := [
  ⟨(some 20), .t (.mv (.t 6)), none⟩,
  ⟨(some 21), .t (.bin .add (.t 20) (.c (.int .i64 1))), none⟩,
  ⟨(some 6), .t (.mv (.t 21)), none⟩]
def F61b11 : ACode :=
  (.seq ((.seq (.ops F61o5 [0, 1, 5, 6, 19])
  (.cond (.t 19)
    (.skip)
    (.exit 0))))
  ((.seq (.block 1 ((.seq (.ops F61o6 [0, 1, 5, 6, 7])
    ((.seq (.ops F61o7 [0, 1, 5, 6, 7, 29])
     (.cond (.t 29)
       ((.seq (.ops F61o8 [0, 1, 5, 6])
        (.ops F61o9 [0, 1, 5, 6])))
       (.skip)))))))
   (.ops F61o10 [0, 1, 5, 6]))))
def F61o12 : List AOper := [
  ⟨(some 36), .t (.mv (.t 0)), none⟩,
  ⟨(some 37), .t (.mv (.t 5)), none⟩,
  ⟨(some 38), .t (.sliceL 1 (.t 36) (some (.t 37)) none), none⟩,
  ⟨none, .m (.clear 1 [(.str [])] (.t 38)), none⟩]
def F61o13 : List AOper := [
  ⟨(some 39), .t (.mv (.t 0)), none⟩,
  ⟨(some 40), .t (.mv (.t 5)), none⟩,
  ⟨(some 41), .t (.sliceL 1 (.t 39) none (some (.t 40))), none⟩,
  ⟨(some 4), .t (.mv (.t 41)), none⟩]
def F61c : ACode :=
  (.seq (.ops F61o0 [0, 1])
  ((.seq (.ops F61o1 [0, 1, 5])
   ((.seq ((.seq (.ops F61o2 [0, 1, 5, 12])
    (.cond (.t 12)
      ((.seq (.ops F61o3 [4])
       (.ret)))
      (.skip))))
    ((.seq ((.seq (.ops F61o4 [0, 1, 5, 6])
     (.block 0 (.loop [0, 1, 5, 6] F61b11))))
     ((.seq (.ops F61o12 [0, 5])
      ((.seq (.ops F61o13 [4])
       (.ret))))))))))))
def F61 : AFn := ⟨42, [.tmp 4], F61c⟩
theorem F61_ok : cFn Tryd.prog [] 61 = some F61 := by kernel_rfl

/- manifold/resolve.Text$1 -/
def F62o0 : List AOper := [
  ⟨(some 2), .t (.mv (.c (.bool false))), none⟩]
def F62o1 : List AOper := [
  ⟨(some 3), .t (.mv (.t 0)), none⟩,
  ⟨(some 4), .t (.bin .eql (.t 3) (.c (.str []))), none⟩,
  ⟨(some 2), .t (.mv (.t 4)), none⟩]
def F62c : ACode :=
  (.seq (.ops F62o0 [0])
  ((.seq (.ops F62o1 [2])
   (.ret))))
def F62 : AFn := ⟨5, [.tmp 2], F62c⟩
theorem F62_ok : cFn Tryd.prog [] 62 = some F62 := by kernel_rfl

/- cmp.Or[int] -/
def F63o0 : List AOper := [
  ⟨(some 2), .t (.mv (.c (.int .i64 0))), none⟩]
def F63o1 : List AOper := [
  ⟨(some 3), .t (.mv (.c (.int .i64 0))), none⟩]
def F63o2 : List AOper := [
  ⟨(some 6), .t (.mv (.t 0)), none⟩,
  ⟨(some 7), .t (.len false (.t 6)), none⟩,
  ⟨(some 8), .t (.mv (.c (.int .i64 0))), none⟩]
def F63o3 : List AOper := [
  ⟨(some 9), .t (.bin .lss (.t 8) (.t 7)), none⟩]
def F63o4 : List AOper := [
  ⟨(some 10), .t (.iaddr 1 (.t 6) (.t 8)), none⟩,
  ⟨(some 11), .m (.load false 1 (.t 10)), none⟩,
  ⟨(some 5), .t (.mv (.t 11)), none⟩]
def F63o5 : List AOper := [
  ⟨(some 12), .t (.mv (.t 5)), none⟩,
  ⟨(some 13), .t (.mv (.t 3)), none⟩,
  ⟨(some 14), .t (.bin .neq (.t 12) (.t 13)), none⟩]
def F63o6 : List AOper := [
  ⟨(some 15), .t (.mv (.t 5)), none⟩,
  ⟨(some 2), .t (.mv (.t 15)), none⟩]
def F63o7 : List AOper := [
  ⟨(some 16), .t (.bin .add (.t 8) (.c (.int .i64 1))), none⟩,
  ⟨(some 8), .t (.mv (.t 16)), none⟩]
def F63b8 : ACode :=
  (.seq (.ops F63o3 [3, 6, 7, 8, 9])
  ((.seq (.cond (.t 9)
    (.skip)
    (.exit 0))
   ((.seq (.block 1 ((.seq (.ops F63o4 [3, 5, 6, 7, 8])
     ((.seq (.ops F63o5 [3, 5, 6, 7, 8, 14])
      (.cond (.t 14)
        ((.seq (.ops F63o6 [2])
         (.ret)))
        (.skip)))))))
    (.ops F63o7 [3, 6, 7, 8]))))))
def F63o9 : List AOper := [
  ⟨(some 17), .t (.mv (.t 3)), none⟩,
  ⟨(some 2), .t (.mv (.t 17)), none⟩]
def F63c : ACode :=
  (.seq (.ops F63o0 [0])
  ((.seq (.ops F63o1 [0, 3])
   ((.seq ((.seq (.ops F63o2 [3, 6, 7, 8])
    (.block 0 (.loop [3, 6, 7, 8] F63b8))))
    ((.seq (.ops F63o9 [2])
     (.ret))))))))
def F63 : AFn := ⟨18, [.tmp 2], F63c⟩
theorem F63_ok : cFn Tryd.prog [] 63 = some F63 := by kernel_rfl

/- slices.Compare[[]int,int] -/
def F65o0 : List AOper := [
  ⟨(some 4), .t (.mv (.c (.int .i64 0))), none⟩]
def F65o1 : List AOper := [
  ⟨(some 9), .t (.mv (.t 0)), none⟩,
  ⟨(some 10), .t (.len false (.t 9)), none⟩,
  ⟨(some 11), .t (.mv (.c (.int .i64 0))), none⟩]
def F65o2 : List AOper := [
  ⟨(some 12), .t (.bin .lss (.t 11) (.t 10)), none⟩]
def F65o3 : List AOper := [
  ⟨(some 13), .t (.mv (.t 11)), none⟩,
  ⟨(some 14), .t (.iaddr 1 (.t 9) (.t 11)), none⟩,
  ⟨(some 15), .m (.load false 1 (.t 14)), none⟩,
  ⟨(some 5), .t (.mv (.t 13)), none⟩,
  ⟨(some 6), .t (.mv (.t 15)), none⟩]
def F65o4 : List AOper := [
  ⟨(some 16), .t (.mv (.t 5)), none⟩,
  ⟨(some 17), .t (.mv (.t 1)), none⟩,
  ⟨(some 18), .t (.len false (.t 17)), none⟩,
  ⟨(some 19), .t (.bin .geq (.t 16) (.t 18)), none⟩]
def F65o5 : List AOper := [
  ⟨(some 4), .t (.mv (.c (.int .i64 1))), none⟩]
def F65o6 : List AOper := [
  ⟨(some 20), .t (.mv (.t 1)), none⟩,
  ⟨(some 21), .t (.mv (.t 5)), none⟩,
  ⟨(some 22), .t (.iaddr 1 (.t 20) (.t 21)), none⟩,
  ⟨(some 23), .m (.load false 1 (.t 22)), none⟩,
  ⟨(some 7), .t (.mv (.t 23)), none⟩]
def F65o7 : List AOper := [
  ⟨(some 24), .t (.mv (.t 6)), none⟩,
  ⟨(some 25), .t (.mv (.t 7)), none⟩,
  ⟨(some 26), .call (.c (.clo 66 [] [])) [(.t 24), (.t 25)], none⟩,
  ⟨(some 8), .t (.mv (.t 26)), none⟩]
def F65o8 : List AOper := [
  ⟨(some 27), .t (.mv (.t 8)), none⟩,
  ⟨(some 28), .t (.bin .neq (.t 27) (.c (.int .i64 0))), none⟩]
def F65o9 : List AOper := [
  ⟨(some 29), .t (.mv (.t 8)), none⟩,
  ⟨(some 4), .t (.mv (.t 29)), none⟩]
def F65o10 : List AOper := [
  ⟨(some 30), .t (.bin .add (.t 11) (.c (.int .i64 1))), none⟩,
  ⟨(some 11), .t (.mv (.t 30)), none⟩]
def F65b11 : ACode :=
  (.seq (.ops F65o2 [0, 1, 9, 10, 11, 12])
  ((.seq (.cond (.t 12)
    (.skip)
    (.exit 0))
   ((.seq (.block 1 ((.seq (.ops F65o3 [0, 1, 5, 6, 9, 10, 11])
     ((.seq ((.seq (.ops F65o4 [0, 1, 5, 6, 9, 10, 11, 19])
      (.cond (.t 19)
        ((.seq (.ops F65o5 [4])
         (.ret)))
        (.skip))))
      ((.seq (.ops F65o6 [0, 1, 6, 7, 9, 10, 11])
       ((.seq (.ops F65o7 [0, 1, 8, 9, 10, 11])
        ((.seq (.ops F65o8 [0, 1, 8, 9, 10, 11, 28])
         (.cond (.t 28)
           ((.seq (.ops F65o9 [4])
            (.ret)))
           (.skip)))))))))))))
    (.ops F65o10 [0, 1, 9, 10, 11]))))))
def F65o12 : List AOper := [
  ⟨(some 31), .t (.mv (.t 0)), none⟩,
  ⟨(some 32), .t (.len false (.t 31)), none⟩,
  ⟨(some 33), .t (.mv (.t 1)), none⟩,
  ⟨(some 34), .t (.len false (.t 33)), none⟩,
  ⟨(some 35), .t (.bin .lss (.t 32) (.t 34)), none⟩]
def F65o13 : List AOper := [
  ⟨(some 4), .t (.mv (.c (.int .i64 (-1)))), none⟩]
def F65o14 : List AOper := [
  ⟨(some 4), .t (.mv (.c (.int .i64 0))), none⟩]
def F65c : ACode :=
  (.seq (.ops F65o0 [0, 1])
  ((.seq ((.seq (.ops F65o1 [0, 1, 9, 10, 11])
   (.block 0 (.loop [0, 1, 9, 10, 11] F65b11))))
   ((.seq ((.seq (.ops F65o12 [35])
    (.cond (.t 35)
      ((.seq (.ops F65o13 [4])
       (.ret)))
      (.skip))))
    ((.seq (.ops F65o14 [4])
     (.ret))))))))
def F65 : AFn := ⟨36, [.tmp 4], F65c⟩
theorem F65_ok : cFn Tryd.prog [] 65 = some F65 := by kernel_rfl

/- cmp.Compare[int] -/
def F66o0 : List AOper := [
  ⟨(some 4), .t (.mv (.c (.int .i64 0))), none⟩]
def F66o1 : List AOper := [
  ⟨(some 7), .t (.mv (.t 0)), none⟩,
  ⟨(some 8), .call (.c (.clo 91 [] [])) [(.t 7)], none⟩,
  ⟨(some 5), .t (.mv (.t 8)), none⟩]
def F66o2 : List AOper := [
  ⟨(some 9), .t (.mv (.t 1)), none⟩,
  ⟨(some 10), .call (.c (.clo 91 [] [])) [(.t 9)], none⟩,
  ⟨(some 6), .t (.mv (.t 10)), none⟩]
def F66o3 : List AOper := [
  ⟨(some 11), .t (.mv (.t 5)), none⟩]
def F66o4 : List AOper := [
  ⟨(some 12), .t (.mv (.t 6)), none⟩]
def F66o5 : List AOper := [
  ⟨(some 4), .t (.mv (.c (.int .i64 0))), none⟩]
def F66o6 : List AOper := [
  ⟨(some 4), .t (.mv (.c (.int .i64 (-1)))), none⟩]
def F66o7 : List AOper := [
  ⟨(some 13), .t (.mv (.t 6)), none⟩]
def F66o8 : List AOper := [
  ⟨(some 4), .t (.mv (.c (.int .i64 1))), none⟩]
def F66o9 : List AOper := [
  ⟨(some 14), .t (.mv (.t 0)), none⟩,
  ⟨(some 15), .t (.mv (.t 1)), none⟩,
  ⟨(some 16), .t (.bin .lss (.t 14) (.t 15)), none⟩]
def F66o10 : List AOper := [
  ⟨(some 4), .t (.mv (.c (.int .i64 (-1)))), none⟩]
def F66o11 : List AOper := [
  ⟨(some 17), .t (.mv (.t 0)), none⟩,
  ⟨(some 18), .t (.mv (.t 1)), none⟩,
  ⟨(some 19), .t (.bin .gtr (.t 17) (.t 18)), none⟩]
def F66o12 : List AOper := [
  ⟨(some 4), .t (.mv (.c (.int .i64 1))), none⟩]
def F66o13 : List AOper := [
  ⟨(some 4), .t (.mv (.c (.int .i64 0))), none⟩]
def F66c : ACode :=
  (.seq (.ops F66o0 [0, 1])
  ((.seq (.ops F66o1 [0, 1, 5])
   ((.seq (.ops F66o2 [0, 1, 5, 6])
    ((.seq ((.seq (.ops F66o3 [0, 1, 6, 11])
     (.cond (.t 11)
       ((.seq ((.seq (.ops F66o4 [12])
        (.cond (.t 12)
          ((.seq (.ops F66o5 [4])
           (.ret)))
          (.skip))))
        ((.seq (.ops F66o6 [4])
         (.ret)))))
       (.skip))))
     ((.seq ((.seq (.ops F66o7 [0, 1, 13])
      (.cond (.t 13)
        ((.seq (.ops F66o8 [4])
         (.ret)))
        (.skip))))
      ((.seq ((.seq (.ops F66o9 [0, 1, 16])
       (.cond (.t 16)
         ((.seq (.ops F66o10 [4])
          (.ret)))
         (.skip))))
       ((.seq ((.seq (.ops F66o11 [19])
        (.cond (.t 19)
          ((.seq (.ops F66o12 [4])
           (.ret)))
          (.skip))))
        ((.seq (.ops F66o13 [4])
         (.ret))))))))))))))))
def F66 : AFn := ⟨20, [.tmp 4], F66c⟩
theorem F66_ok : cFn Tryd.prog [] 66 = some F66 := by kernel_rfl

/- manifold/manifoldlaw23.sign -/
def F67o0 : List AOper := [
  ⟨(some 2), .t (.mv (.c (.int .i64 0))), none⟩]
def F67o1 : List AOper := [
  ⟨(some 3), .t (.mv (.t 0)), none⟩]
def F67o2 : List AOper := [
  ⟨(some 2), .t (.mv (.c (.int .i64 (-1)))), none⟩]
def F67o3 : List AOper := [
  ⟨(some 2), .t (.mv (.c (.int .i64 1))), none⟩]
def F67c : ACode :=
  (.seq (.ops F67o0 [0])
  ((.seq ((.seq (.ops F67o1 [3])
   (.cond (.t 3)
     ((.seq (.ops F67o2 [2])
      (.ret)))
     (.skip))))
   ((.seq (.ops F67o3 [2])
    (.ret))))))
def F67 : AFn := ⟨4, [.tmp 2], F67c⟩
theorem F67_ok : cFn Tryd.prog [] 67 = some F67 := by kernel_rfl

/- manifold/resolve.walk -/
def F68o0 : List AOper := [
  ⟨(some 2), .m (.cbox 44 (.t 0)), none⟩,
  ⟨(some 3), .m (.cbox 3 (.t 1)), none⟩,
  ⟨(some 4), .t (.mv (.c .nils)), none⟩]
def F68o1 : List AOper := [
  ⟨(some 5), .m (.alloc 73 [.nils]), none⟩]
def F68o2 : List AOper := [
  ⟨(some 6), .t (.faddr 4 (.t 2)), none⟩,
  ⟨(some 7), .m (.load false 1 (.t 6)), none⟩,
  ⟨(some 8), .m (.load false 1 (.t 3)), none⟩,
  ⟨(some 9), .t (.iaddr 3 (.t 7) (.t 8)), none⟩,
  ⟨(some 10), .t (.faddr 2 (.t 9)), none⟩,
  ⟨(some 11), .m (.load false 1 (.t 10)), none⟩,
  ⟨(some 12), .t (.clo 92 [] [(.t 5), (.t 3)]), none⟩,
  ⟨(some 13), .call (.c (.clo 75 [] [])) [(.t 11), (.t 12)], none⟩]
def F68o3 : List AOper := [
  ⟨(some 14), .m (.load false 1 (.t 5)), none⟩,
  ⟨(some 4), .t (.mv (.t 14)), none⟩]
def F68c : ACode :=
  (.seq (.ops F68o0 [2, 3])
  ((.seq (.ops F68o1 [2, 3, 5])
   ((.seq (.ops F68o2 [5])
    ((.seq (.ops F68o3 [4])
     (.ret))))))))
def F68 : AFn := ⟨15, [.tmp 4], F68c⟩
theorem F68_ok : cFn Tryd.prog [2, 3] 68 = some F68 := by kernel_rfl

/- manifold/resolve.cloned -/
def F70o0 : List AOper := [
  ⟨(some 1), .m (.box 32 (.t 0)), none⟩,
  ⟨(some 2), .m (.alloc 32 [(.str []), (.int .i64 0), (.int .i64 0), (.int .i64 0), (.int .i64 0), (.str []), (.str []), .nils, .nils, .nils, .nils]), none⟩]
def F70o1 : List AOper := [
  ⟨(some 3), .t (.faddr 7 (.t 1)), none⟩,
  ⟨(some 4), .m (.load false 1 (.t 3)), none⟩,
  ⟨(some 5), .call (.c (.clo 94 [] [])) [(.t 4), (.c (.clo 95 [] []))], none⟩,
  ⟨(some 6), .t (.faddr 7 (.t 1)), none⟩,
  ⟨none, .m (.store 1 (.t 6) (.t 5)), none⟩]
def F70o2 : List AOper := [
  ⟨(some 7), .t (.faddr 8 (.t 1)), none⟩,
  ⟨(some 8), .m (.load true 1 (.t 7)), none⟩,
  ⟨(some 9), .call (.c (.clo 96 [] [])) [(.t 8)], none⟩,
  ⟨(some 10), .t (.faddr 8 (.t 1)), none⟩,
  ⟨none, .m (.store 1 (.t 10) (.t 9)), none⟩]
def F70o3 : List AOper := [
  ⟨(some 11), .t (.faddr 9 (.t 1)), none⟩,
  ⟨(some 12), .m (.load false 1 (.t 11)), none⟩,
  ⟨(some 13), .call (.c (.clo 97 [] [])) [(.t 12), (.c (.clo 98 [] []))], none⟩,
  ⟨(some 14), .t (.faddr 9 (.t 1)), none⟩,
  ⟨none, .m (.store 1 (.t 14) (.t 13)), none⟩]
def F70o4 : List AOper := [
  ⟨(some 15), .t (.faddr 10 (.t 1)), none⟩,
  ⟨(some 16), .m (.load false 1 (.t 15)), none⟩,
  ⟨(some 17), .call (.c (.clo 99 [] [])) [(.t 16), (.c (.clo 100 [] []))], none⟩,
  ⟨(some 18), .t (.faddr 10 (.t 1)), none⟩,
  ⟨none, .m (.store 1 (.t 18) (.t 17)), none⟩]
def F70o5 : List AOper := [
  ⟨(some 19), .m (.load true 11 (.t 1)), none⟩,
  ⟨none, .m (.store 11 (.t 2) (.t 19)), none⟩]
def F70c : ACode :=
  (.seq (.ops F70o0 [1, 2])
  ((.seq (.ops F70o1 [1, 2])
   ((.seq (.ops F70o2 [1, 2])
    ((.seq (.ops F70o3 [1, 2])
     ((.seq (.ops F70o4 [1, 2])
      ((.seq (.ops F70o5 [2])
       (.ret))))))))))))
def F70 : AFn := ⟨20, [.cell 2 true 11], F70c⟩
theorem F70_ok : cFn Tryd.prog [] 70 = some F70 := by kernel_rfl

/- manifold/resolve.each[manifold/api.Step] -/
def F74o0 : List AOper := [
  ⟨(some 4), .t (.mv (.c .nils)), none⟩]
def F74o1 : List AOper := [
  ⟨(some 5), .t (.mv (.c .nils)), none⟩]
def F74o2 : List AOper := [
  ⟨(some 8), .t (.mv (.t 0)), none⟩,
  ⟨(some 9), .t (.len false (.t 8)), none⟩,
  ⟨(some 10), .t (.mv (.c (.int .i64 0))), none⟩]
def F74o3 : List AOper := [
  ⟨(some 11), .t (.bin .lss (.t 10) (.t 9)), none⟩]
def F74o4 : List AOper := [
  ⟨(some 12), .t (.iaddr 11 (.t 8) (.t 10)), none⟩,
  ⟨(some 13), .m (.load true 11 (.t 12)), none⟩,
  ⟨(some 7), .m (.alloc 32 [(.str []), (.int .i64 0), (.int .i64 0), (.int .i64 0), (.int .i64 0), (.str []), (.str []), .nils, .nils, .nils, .nils]), none⟩,
  ⟨none, .m (.store 11 (.t 7) (.t 13)), none⟩]
def F74o5 : List AOper := [
  ⟨(some 14), .t (.mv (.t 5)), none⟩,
  ⟨(some 15), .t (.mv (.t 1)), none⟩,
  ⟨(some 16), .m (.load true 11 (.t 7)), none⟩,
  ⟨(some 17), .call (.t 15) [(.t 16)], none⟩,
  ⟨(some 18), .m (.bslice false 32 11 1 [(.t 17)]), none⟩,
  ⟨(some 19), .m (.append false 32 11 176 (.t 14) (.t 18)), none⟩,
  ⟨(some 5), .t (.mv (.t 19)), none⟩]
def F74o6 : List AOper := [
  ⟨(some 20), .t (.bin .add (.t 10) (.c (.int .i64 1))), none⟩,
  ⟨(some 10), .t (.mv (.t 20)), none⟩]
def F74b7 : ACode :=
  (.seq (.ops F74o3 [1, 5, 8, 9, 10, 11])
  ((.seq (.cond (.t 11)
    (.skip)
    (.exit 0))
   ((.seq (.block 1 ((.seq (.ops F74o4 [1, 5, 7, 8, 9, 10])
     (.ops F74o5 [1, 5, 8, 9, 10]))))
    (.ops F74o6 [1, 5, 8, 9, 10]))))))
def F74o8 : List AOper := [
  ⟨(some 21), .t (.mv (.t 5)), none⟩,
  ⟨(some 4), .t (.mv (.t 21)), none⟩]
def F74c : ACode :=
  (.seq (.ops F74o0 [0, 1])
  ((.seq (.ops F74o1 [0, 1, 5])
   ((.seq ((.seq (.ops F74o2 [1, 5, 8, 9, 10])
    (.block 0 (.loop [1, 5, 8, 9, 10] F74b7))))
    ((.seq (.ops F74o8 [4])
     (.ret))))))))
def F74 : AFn := ⟨22, [.tmp 4], F74c⟩
theorem F74_ok : cFn Tryd.prog [] 74 = some F74 := by kernel_rfl

/- manifold/resolve.visit -/
def F75o0 : List AOper := [
  ⟨(some 3), .m (.box 129 (.t 1)), none⟩]
def F75o1 : List AOper := [
  ⟨(some 4), .m (.alloc 35 [.nils]), none⟩]
def F75o2 : List AOper := [
  ⟨(some 5), .m (.alloc 168 [.nilf]), none⟩]
def F75o3 : List AOper := [
  ⟨(some 6), .t (.clo 102 [] [(.t 4), (.t 3), (.t 5)]), none⟩,
  ⟨none, .m (.store 1 (.t 5) (.t 6)), none⟩]
def F75o4 : List AOper := [
  ⟨(some 7), .m (.load false 1 (.t 5)), none⟩,
  ⟨(some 8), .t (.mv (.t 0)), none⟩,
  ⟨(some 9), .call (.t 7) [(.t 8)], none⟩]
def F75c : ACode :=
  (.seq (.ops F75o0 [0, 3])
  ((.seq (.ops F75o1 [0, 3, 4])
   ((.seq (.ops F75o2 [0, 3, 4, 5])
    ((.seq (.ops F75o3 [0, 5])
     (.ops F75o4 []))))))))
def F75 : AFn := ⟨10, [], F75c⟩
theorem F75_ok : cFn Tryd.prog [] 75 = some F75 := by kernel_rfl

/- slices.IndexFunc[[]manifold/api.Branch,manifold/api.Branch] -/
def F79o0 : List AOper := [
  ⟨(some 4), .t (.mv (.c (.int .i64 0))), none⟩]
def F79o1 : List AOper := [
  ⟨(some 6), .t (.mv (.t 0)), none⟩,
  ⟨(some 7), .t (.len false (.t 6)), none⟩,
  ⟨(some 8), .t (.mv (.c (.int .i64 0))), none⟩]
def F79o2 : List AOper := [
  ⟨(some 9), .t (.bin .lss (.t 8) (.t 7)), none⟩]
def F79o3 : List AOper := [
  ⟨(some 10), .t (.mv (.t 8)), none⟩,
  ⟨(some 5), .t (.mv (.t 10)), none⟩]
def F79o4 : List AOper := [
  ⟨(some 11), .t (.mv (.t 1)), none⟩,
  ⟨(some 12), .t (.mv (.t 0)), none⟩,
  ⟨(some 13), .t (.mv (.t 5)), none⟩,
  ⟨(some 14), .t (.iaddr 2 (.t 12) (.t 13)), none⟩,
  ⟨(some 15), .m (.load true 2 (.t 14)), none⟩,
  ⟨(some 16), .call (.t 11) [(.t 15)], none⟩]
def F79o5 : List AOper := [
  ⟨(some 17), .t (.mv (.t 5)), none⟩,
  ⟨(some 4), .t (.mv (.t 17)), none⟩]
def F79o6 : List AOper := [
  ⟨(some 18), .t (.bin .add (.t 8) (.c (.int .i64 1))), none⟩,
  ⟨(some 8), .t (.mv (.t 18)), none⟩]
def F79b7 : ACode :=
  (.seq (.ops F79o2 [0, 1, 7, 8, 9])
  ((.seq (.cond (.t 9)
    (.skip)
    (.exit 0))
   ((.seq (.block 1 ((.seq (.ops F79o3 [0, 1, 5, 7, 8])
     ((.seq (.ops F79o4 [0, 1, 5, 7, 8, 16])
      (.cond (.t 16)
        ((.seq (.ops F79o5 [4])
         (.ret)))
        (.skip)))))))
    (.ops F79o6 [0, 1, 7, 8]))))))
def F79o8 : List AOper := [
  ⟨(some 4), .t (.mv (.c (.int .i64 (-1)))), none⟩]
def F79c : ACode :=
  (.seq (.ops F79o0 [0, 1])
  ((.seq ((.seq (.ops F79o1 [0, 1, 7, 8])
   (.block 0 (.loop [0, 1, 7, 8] F79b7))))
   ((.seq (.ops F79o8 [4])
    (.ret))))))
def F79 : AFn := ⟨19, [.tmp 4], F79c⟩
theorem F79_ok : cFn Tryd.prog [] 79 = some F79 := by kernel_rfl

/- slices.IndexFunc[[]string,string] -/
def F89o0 : List AOper := [
  ⟨(some 4), .t (.mv (.c (.int .i64 0))), none⟩]
def F89o1 : List AOper := [
  ⟨(some 6), .t (.mv (.t 0)), none⟩,
  ⟨(some 7), .t (.len false (.t 6)), none⟩,
  ⟨(some 8), .t (.mv (.c (.int .i64 0))), none⟩]
def F89o2 : List AOper := [
  ⟨(some 9), .t (.bin .lss (.t 8) (.t 7)), none⟩]
def F89o3 : List AOper := [
  ⟨(some 10), .t (.mv (.t 8)), none⟩,
  ⟨(some 5), .t (.mv (.t 10)), none⟩]
def F89o4 : List AOper := [
  ⟨(some 11), .t (.mv (.t 1)), none⟩,
  ⟨(some 12), .t (.mv (.t 0)), none⟩,
  ⟨(some 13), .t (.mv (.t 5)), none⟩,
  ⟨(some 14), .t (.iaddr 1 (.t 12) (.t 13)), none⟩,
  ⟨(some 15), .m (.load false 1 (.t 14)), none⟩,
  ⟨(some 16), .call (.t 11) [(.t 15)], none⟩]
def F89o5 : List AOper := [
  ⟨(some 17), .t (.mv (.t 5)), none⟩,
  ⟨(some 4), .t (.mv (.t 17)), none⟩]
def F89o6 : List AOper := [
  ⟨(some 18), .t (.bin .add (.t 8) (.c (.int .i64 1))), none⟩,
  ⟨(some 8), .t (.mv (.t 18)), none⟩]
def F89b7 : ACode :=
  (.seq (.ops F89o2 [0, 1, 7, 8, 9])
  ((.seq (.cond (.t 9)
    (.skip)
    (.exit 0))
   ((.seq (.block 1 ((.seq (.ops F89o3 [0, 1, 5, 7, 8])
     ((.seq (.ops F89o4 [0, 1, 5, 7, 8, 16])
      (.cond (.t 16)
        ((.seq (.ops F89o5 [4])
         (.ret)))
        (.skip)))))))
    (.ops F89o6 [0, 1, 7, 8]))))))
def F89o8 : List AOper := [
  ⟨(some 4), .t (.mv (.c (.int .i64 (-1)))), none⟩]
def F89c : ACode :=
  (.seq (.ops F89o0 [0, 1])
  ((.seq ((.seq (.ops F89o1 [0, 1, 7, 8])
   (.block 0 (.loop [0, 1, 7, 8] F89b7))))
   ((.seq (.ops F89o8 [4])
    (.ret))))))
def F89 : AFn := ⟨19, [.tmp 4], F89c⟩
theorem F89_ok : cFn Tryd.prog [] 89 = some F89 := by kernel_rfl

/- cmp.isNaN[int] -/
def F91o0 : List AOper := [
  ⟨(some 2), .t (.mv (.c (.bool false))), none⟩]
def F91o1 : List AOper := [
  ⟨(some 3), .t (.mv (.t 0)), none⟩,
  ⟨(some 4), .t (.mv (.t 0)), none⟩,
  ⟨(some 5), .t (.bin .neq (.t 3) (.t 4)), none⟩,
  ⟨(some 2), .t (.mv (.t 5)), none⟩]
def F91c : ACode :=
  (.seq (.ops F91o0 [0])
  ((.seq (.ops F91o1 [2])
   (.ret))))
def F91 : AFn := ⟨6, [.tmp 2], F91c⟩
theorem F91_ok : cFn Tryd.prog [] 91 = some F91 := by kernel_rfl

/- manifold/resolve.walk$1 -/
def F92o0 : List AOper := [
  ⟨(some 6), .m (.load false 1 (.t 2)), none⟩,
  ⟨(some 7), .m (.load false 1 (.t 3)), none⟩,
  ⟨(some 8), .t (.mv (.t 0)), none⟩,
  ⟨(some 9), .call (.c (.clo 93 [] [])) [(.t 8)], none⟩,
  ⟨(some 10), .t (.mv (.t 1)), none⟩,
  ⟨(some 11), .t (.nilck (.t 10)), none⟩,
  ⟨(some 12), .m (.load true 11 (.t 11)), none⟩,
  ⟨(some 13), .call (.c (.clo 70 [] [])) [(.t 12)], none⟩,
  ⟨(some 14), .t (.build [(.int .i64 0), .nils, (.str []), (.int .i64 0), (.int .i64 0), (.int .i64 0), (.int .i64 0), (.str []), (.str []), .nils, .nils, .nils, .nils] [(0, 1, (.t 7)), (1, 1, (.t 9)), (2, 11, (.t 13))]), none⟩,
  ⟨(some 15), .m (.bslice false 79 13 1 [(.t 14)]), none⟩]
def F92p0 : List AOper := [
  ⟨(some 16), .m (.append false 79 13 208 (.t 6) (.t 15)), none⟩,
  ⟨none, .m (.store 1 (.t 2) (.t 16)), none⟩]
def F92A0 : List (List Nat) := [[], [], [], [2], [], [4], [5, 4], [6, 3, 5, 4, 2], [1, 7, 6, 3, 5, 4, 2], [8, 1, 7, 6, 3, 5, 4, 2], [0, 9, 8, 1, 7, 6, 3, 5, 4, 2], [10, 0, 9, 8, 1, 7, 6, 3, 5, 4, 2]]
def F92c : ACode :=
  .draw F92A0 F92o0 F92p0 []
def F92 : AFn := ⟨17, [], F92c⟩
theorem F92_ok : cFn Tryd.prog [] 92 = some F92 := by kernel_rfl

/- slices.Clone[[]int,int] -/
def F93o0 : List AOper := [
  ⟨(some 2), .t (.mv (.c .nils)), none⟩]
def F93o1 : List AOper := [
  ⟨(some 3), .t (.mv (.t 0)), none⟩,
  ⟨(some 4), .t (.beq 2 false (.t 3) (.c .nils)), none⟩]
def F93o2 : List AOper := [
  ⟨(some 2), .t (.mv (.c .nils)), none⟩]
def F93o3 : List AOper := [
  ⟨(some 5), .m (.bslice false 3 1 0 []), none⟩,
  ⟨(some 6), .t (.mv (.t 0)), none⟩,
  ⟨(some 7), .m (.append false 3 1 8 (.t 5) (.t 6)), none⟩,
  ⟨(some 2), .t (.mv (.t 7)), none⟩]
def F93c : ACode :=
  (.seq (.ops F93o0 [0])
  ((.seq ((.seq (.ops F93o1 [0, 4])
   (.cond (.t 4)
     ((.seq (.ops F93o2 [2])
      (.ret)))
     (.skip))))
   ((.seq (.ops F93o3 [2])
    (.ret))))))
def F93 : AFn := ⟨8, [.tmp 2], F93c⟩
theorem F93_ok : cFn Tryd.prog [] 93 = some F93 := by kernel_rfl

/- manifold/resolve.each[manifold/api.Expr] -/
def F94o0 : List AOper := [
  ⟨(some 4), .t (.mv (.c .nils)), none⟩]
def F94o1 : List AOper := [
  ⟨(some 5), .t (.mv (.c .nils)), none⟩]
def F94o2 : List AOper := [
  ⟨(some 8), .t (.mv (.t 0)), none⟩,
  ⟨(some 9), .t (.len false (.t 8)), none⟩,
  ⟨(some 10), .t (.mv (.c (.int .i64 0))), none⟩]
def F94o3 : List AOper := [
  ⟨(some 11), .t (.bin .lss (.t 10) (.t 9)), none⟩]
def F94o4 : List AOper := [
  ⟨(some 12), .t (.iaddr 5 (.t 8) (.t 10)), none⟩,
  ⟨(some 13), .m (.load true 5 (.t 12)), none⟩,
  ⟨(some 7), .m (.alloc 158 [(.int .i64 0), (.int .i64 0), (.str []), .nils, .nils]), none⟩,
  ⟨none, .m (.store 5 (.t 7) (.t 13)), none⟩]
def F94o5 : List AOper := [
  ⟨(some 14), .t (.mv (.t 5)), none⟩,
  ⟨(some 15), .t (.mv (.t 1)), none⟩,
  ⟨(some 16), .m (.load true 5 (.t 7)), none⟩,
  ⟨(some 17), .call (.t 15) [(.t 16)], none⟩,
  ⟨(some 18), .m (.bslice false 158 5 1 [(.t 17)]), none⟩,
  ⟨(some 19), .m (.append false 158 5 80 (.t 14) (.t 18)), none⟩,
  ⟨(some 5), .t (.mv (.t 19)), none⟩]
def F94o6 : List AOper := [
  ⟨(some 20), .t (.bin .add (.t 10) (.c (.int .i64 1))), none⟩,
  ⟨(some 10), .t (.mv (.t 20)), none⟩]
def F94b7 : ACode :=
  (.seq (.ops F94o3 [1, 5, 8, 9, 10, 11])
  ((.seq (.cond (.t 11)
    (.skip)
    (.exit 0))
   ((.seq (.block 1 ((.seq (.ops F94o4 [1, 5, 7, 8, 9, 10])
     (.ops F94o5 [1, 5, 8, 9, 10]))))
    (.ops F94o6 [1, 5, 8, 9, 10]))))))
def F94o8 : List AOper := [
  ⟨(some 21), .t (.mv (.t 5)), none⟩,
  ⟨(some 4), .t (.mv (.t 21)), none⟩]
def F94c : ACode :=
  (.seq (.ops F94o0 [0, 1])
  ((.seq (.ops F94o1 [0, 1, 5])
   ((.seq ((.seq (.ops F94o2 [1, 5, 8, 9, 10])
    (.block 0 (.loop [1, 5, 8, 9, 10] F94b7))))
    ((.seq (.ops F94o8 [4])
     (.ret))))))))
def F94 : AFn := ⟨22, [.tmp 4], F94c⟩
theorem F94_ok : cFn Tryd.prog [] 94 = some F94 := by kernel_rfl

/- manifold/expr.Clone -/
def F95o0 : List AOper := [
  ⟨(some 1), .m (.cbox 158 (.t 0)), none⟩,
  ⟨(some 2), .m (.alloc 158 [(.int .i64 0), (.int .i64 0), (.str []), .nils, .nils]), none⟩]
def F95o1 : List AOper := [
  ⟨(some 8), .t (.faddr 0 (.t 1)), none⟩,
  ⟨(some 9), .m (.load false 1 (.t 8)), none⟩,
  ⟨(some 10), .t (.faddr 1 (.t 1)), none⟩,
  ⟨(some 11), .m (.load false 1 (.t 10)), none⟩,
  ⟨(some 12), .t (.faddr 2 (.t 1)), none⟩,
  ⟨(some 13), .m (.load false 1 (.t 12)), none⟩,
  ⟨(some 14), .t (.build [(.int .i64 0), (.int .i64 0), (.str []), .nils, .nils] [(0, 1, (.t 9)), (1, 1, (.t 11)), (2, 1, (.t 13))]), none⟩,
  ⟨(some 3), .m (.alloc 158 [(.int .i64 0), (.int .i64 0), (.str []), .nils, .nils]), none⟩,
  ⟨none, .m (.store 5 (.t 3) (.t 14)), none⟩]
def F95o2 : List AOper := [
  ⟨(some 15), .t (.faddr 3 (.t 1)), none⟩,
  ⟨(some 16), .m (.load false 1 (.t 15)), none⟩,
  ⟨(some 17), .t (.len false (.t 16)), none⟩,
  ⟨(some 18), .t (.mv (.c (.int .i64 0))), none⟩]
def F95o3 : List AOper := [
  ⟨(some 19), .t (.bin .lss (.t 18) (.t 17)), none⟩]
def F95o4 : List AOper := [
  ⟨(some 20), .t (.iaddr 6 (.t 16) (.t 18)), none⟩,
  ⟨(some 21), .m (.load true 6 (.t 20)), none⟩,
  ⟨(some 5), .m (.alloc 137 [(.int .i64 0), (.int .i64 0), (.int .i64 0), (.str []), .nils, .nils]), none⟩,
  ⟨none, .m (.store 6 (.t 5) (.t 21)), none⟩]
def F95o5 : List AOper := [
  ⟨(some 22), .t (.faddr 3 (.t 3)), none⟩,
  ⟨(some 23), .m (.load false 1 (.t 22)), none⟩,
  ⟨(some 24), .m (.load true 6 (.t 5)), none⟩,
  ⟨(some 25), .call (.c (.clo 107 [] [])) [(.t 24)], none⟩,
  ⟨(some 26), .m (.bslice false 137 6 1 [(.t 25)]), none⟩]
def F95p5 : List AOper := [
  ⟨(some 27), .m (.append false 137 6 88 (.t 23) (.t 26)), none⟩,
  ⟨(some 28), .t (.faddr 3 (.t 3)), none⟩,
  ⟨none, .m (.store 1 (.t 28) (.t 27)), none⟩]
def F95A5 : List (List Nat) := [[], [0], [], [2], [3, 2], [1, 4, 0, 3, 2], [5, 1, 4, 0, 3, 2], [6, 5, 1, 4, 0, 3, 2]]
def F95o6 : List AOper := [
  ⟨(some 29), .t (.bin .add (.t 18) (.c (.int .i64 1))), none⟩,
  ⟨(some 18), .t (.mv (.t 29)), none⟩]
def F95b7 : ACode :=
  (.seq (.ops F95o3 [1, 2, 3, 16, 17, 18, 19])
  ((.seq (.cond (.t 19)
    (.skip)
    (.exit 0))
   ((.seq (.block 1 ((.seq (.ops F95o4 [1, 2, 3, 5, 16, 17, 18])
     (.draw F95A5 F95o5 F95p5 [1, 2, 3, 16, 17, 18]))))
    (.ops F95o6 [1, 2, 3, 16, 17, 18]))))))
def F95o8 : List AOper := [
  ⟨(some 30), .t (.faddr 4 (.t 1)), none⟩,
  ⟨(some 31), .m (.load false 1 (.t 30)), none⟩,
  ⟨(some 32), .t (.len false (.t 31)), none⟩,
  ⟨(some 33), .t (.mv (.c (.int .i64 0))), none⟩]
def F95o9 : List AOper := [
  ⟨(some 34), .t (.bin .lss (.t 33) (.t 32)), none⟩]
def F95o10 : List AOper := [
  ⟨(some 35), .t (.iaddr 5 (.t 31) (.t 33)), none⟩,
  ⟨(some 36), .m (.load true 5 (.t 35)), none⟩,
  ⟨(some 7), .m (.alloc 158 [(.int .i64 0), (.int .i64 0), (.str []), .nils, .nils]), none⟩,
  ⟨none, .m (.store 5 (.t 7) (.t 36)), none⟩]
def F95o11 : List AOper := [
  ⟨(some 37), .t (.faddr 4 (.t 3)), none⟩,
  ⟨(some 38), .m (.load false 1 (.t 37)), none⟩,
  ⟨(some 39), .m (.load true 5 (.t 7)), none⟩,
  ⟨(some 40), .call (.c (.clo 95 [] [])) [(.t 39)], none⟩,
  ⟨(some 41), .m (.bslice false 158 5 1 [(.t 40)]), none⟩]
def F95p11 : List AOper := [
  ⟨(some 42), .m (.append false 158 5 80 (.t 38) (.t 41)), none⟩,
  ⟨(some 43), .t (.faddr 4 (.t 3)), none⟩,
  ⟨none, .m (.store 1 (.t 43) (.t 42)), none⟩]
def F95A11 : List (List Nat) := [[], [0], [], [2], [3, 2], [1, 4, 0, 3, 2], [5, 1, 4, 0, 3, 2], [6, 5, 1, 4, 0, 3, 2]]
def F95o12 : List AOper := [
  ⟨(some 44), .t (.bin .add (.t 33) (.c (.int .i64 1))), none⟩,
  ⟨(some 33), .t (.mv (.t 44)), none⟩]
def F95b13 : ACode :=
  (.seq (.ops F95o9 [2, 3, 31, 32, 33, 34])
  ((.seq (.cond (.t 34)
    (.skip)
    (.exit 2))
   ((.seq (.block 3 ((.seq (.ops F95o10 [2, 3, 7, 31, 32, 33])
     (.draw F95A11 F95o11 F95p11 [2, 3, 31, 32, 33]))))
    (.ops F95o12 [2, 3, 31, 32, 33]))))))
def F95o14 : List AOper := [
  ⟨(some 45), .m (.load true 5 (.t 3)), none⟩,
  ⟨none, .m (.store 5 (.t 2) (.t 45)), none⟩]
def F95c : ACode :=
  (.seq (.ops F95o0 [1, 2])
  ((.seq (.ops F95o1 [1, 2, 3])
   ((.seq ((.seq (.ops F95o2 [1, 2, 3, 16, 17, 18])
    (.block 0 (.loop [1, 2, 3, 16, 17, 18] F95b7))))
    ((.seq ((.seq (.ops F95o8 [2, 3, 31, 32, 33])
     (.block 2 (.loop [2, 3, 31, 32, 33] F95b13))))
     ((.seq (.ops F95o14 [2])
      (.ret))))))))))
def F95 : AFn := ⟨46, [.cell 2 true 5], F95c⟩
theorem F95_ok : cFn Tryd.prog [1] 95 = some F95 := by kernel_rfl

/- manifold/mapping.Clone -/
def F96o0 : List AOper := [
  ⟨(some 1), .m (.cbox 28 (.t 0)), none⟩,
  ⟨(some 2), .m (.alloc 28 [.nils]), none⟩]
def F96o1 : List AOper := [
  ⟨(some 6), .t (.faddr 0 (.t 1)), none⟩,
  ⟨(some 7), .m (.load false 1 (.t 6)), none⟩,
  ⟨(some 8), .t (.len false (.t 7)), none⟩,
  ⟨(some 9), .m (.mk false 167 6 96 [(.str []), (.int .i64 0), (.int .i64 0), (.str []), .nils, .nils] (.c (.int .i64 0)) (.t 8)), none⟩,
  ⟨(some 3), .t (.mv (.t 9)), none⟩]
def F96o2 : List AOper := [
  ⟨(some 10), .t (.faddr 0 (.t 1)), none⟩,
  ⟨(some 11), .m (.load false 1 (.t 10)), none⟩,
  ⟨(some 12), .t (.len false (.t 11)), none⟩,
  ⟨(some 13), .t (.mv (.c (.int .i64 0))), none⟩]
def F96o3 : List AOper := [
  ⟨(some 14), .t (.bin .lss (.t 13) (.t 12)), none⟩]
def F96o4 : List AOper := [
  ⟨(some 15), .t (.iaddr 6 (.t 11) (.t 13)), none⟩,
  ⟨(some 16), .m (.load true 6 (.t 15)), none⟩,
  ⟨(some 5), .m (.alloc 167 [(.str []), (.int .i64 0), (.int .i64 0), (.str []), .nils, .nils]), none⟩,
  ⟨none, .m (.store 6 (.t 5) (.t 16)), none⟩]
def F96o5 : List AOper := [
  ⟨(some 17), .t (.mv (.t 3)), none⟩,
  ⟨(some 18), .t (.faddr 0 (.t 5)), none⟩,
  ⟨(some 19), .m (.load false 1 (.t 18)), none⟩,
  ⟨(some 20), .t (.faddr 1 (.t 5)), none⟩,
  ⟨(some 21), .m (.load true 5 (.t 20)), none⟩,
  ⟨(some 22), .call (.c (.clo 95 [] [])) [(.t 21)], none⟩,
  ⟨(some 23), .t (.build [(.str []), (.int .i64 0), (.int .i64 0), (.str []), .nils, .nils] [(0, 1, (.t 19)), (1, 5, (.t 22))]), none⟩,
  ⟨(some 24), .m (.bslice false 167 6 1 [(.t 23)]), none⟩]
def F96p5 : List AOper := [
  ⟨(some 25), .m (.append false 167 6 96 (.t 17) (.t 24)), none⟩,
  ⟨(some 3), .t (.mv (.t 25)), none⟩]
def F96A5 : List (List Nat) := [[], [], [1], [], [3], [4, 3], [2, 5, 1, 4, 3], [6, 2, 5, 1, 4, 3], [0, 7, 6, 2, 5, 1, 4, 3], [8, 0, 7, 6, 2, 5, 1, 4, 3]]
def F96o6 : List AOper := [
  ⟨(some 26), .t (.bin .add (.t 13) (.c (.int .i64 1))), none⟩,
  ⟨(some 13), .t (.mv (.t 26)), none⟩]
def F96b7 : ACode :=
  (.seq (.ops F96o3 [2, 3, 11, 12, 13, 14])
  ((.seq (.cond (.t 14)
    (.skip)
    (.exit 0))
   ((.seq (.block 1 ((.seq (.ops F96o4 [2, 3, 5, 11, 12, 13])
     (.draw F96A5 F96o5 F96p5 [2, 3, 11, 12, 13]))))
    (.ops F96o6 [2, 3, 11, 12, 13]))))))
def F96o8 : List AOper := [
  ⟨(some 27), .t (.mv (.t 3)), none⟩,
  ⟨(some 28), .t (.build [.nils] [(0, 1, (.t 27))]), none⟩,
  ⟨none, .m (.store 1 (.t 2) (.t 28)), none⟩]
def F96c : ACode :=
  (.seq (.ops F96o0 [1, 2])
  ((.seq (.ops F96o1 [1, 2, 3])
   ((.seq ((.seq (.ops F96o2 [2, 3, 11, 12, 13])
    (.block 0 (.loop [2, 3, 11, 12, 13] F96b7))))
    ((.seq (.ops F96o8 [2])
     (.ret))))))))
def F96 : AFn := ⟨29, [.cell 2 true 1], F96c⟩
theorem F96_ok : cFn Tryd.prog [1] 96 = some F96 := by kernel_rfl

/- manifold/resolve.each[manifold/api.Call] -/
def F97o0 : List AOper := [
  ⟨(some 4), .t (.mv (.c .nils)), none⟩]
def F97o1 : List AOper := [
  ⟨(some 5), .t (.mv (.c .nils)), none⟩]
def F97o2 : List AOper := [
  ⟨(some 8), .t (.mv (.t 0)), none⟩,
  ⟨(some 9), .t (.len false (.t 8)), none⟩,
  ⟨(some 10), .t (.mv (.c (.int .i64 0))), none⟩]
def F97o3 : List AOper := [
  ⟨(some 11), .t (.bin .lss (.t 10) (.t 9)), none⟩]
def F97o4 : List AOper := [
  ⟨(some 12), .t (.iaddr 2 (.t 8) (.t 10)), none⟩,
  ⟨(some 13), .m (.load true 2 (.t 12)), none⟩,
  ⟨(some 7), .m (.alloc 87 [(.str []), .nils]), none⟩,
  ⟨none, .m (.store 2 (.t 7) (.t 13)), none⟩]
def F97o5 : List AOper := [
  ⟨(some 14), .t (.mv (.t 5)), none⟩,
  ⟨(some 15), .t (.mv (.t 1)), none⟩,
  ⟨(some 16), .m (.load true 2 (.t 7)), none⟩,
  ⟨(some 17), .call (.t 15) [(.t 16)], none⟩,
  ⟨(some 18), .m (.bslice false 87 2 1 [(.t 17)]), none⟩,
  ⟨(some 19), .m (.append false 87 2 40 (.t 14) (.t 18)), none⟩,
  ⟨(some 5), .t (.mv (.t 19)), none⟩]
def F97o6 : List AOper := [
  ⟨(some 20), .t (.bin .add (.t 10) (.c (.int .i64 1))), none⟩,
  ⟨(some 10), .t (.mv (.t 20)), none⟩]
def F97b7 : ACode :=
  (.seq (.ops F97o3 [1, 5, 8, 9, 10, 11])
  ((.seq (.cond (.t 11)
    (.skip)
    (.exit 0))
   ((.seq (.block 1 ((.seq (.ops F97o4 [1, 5, 7, 8, 9, 10])
     (.ops F97o5 [1, 5, 8, 9, 10]))))
    (.ops F97o6 [1, 5, 8, 9, 10]))))))
def F97o8 : List AOper := [
  ⟨(some 21), .t (.mv (.t 5)), none⟩,
  ⟨(some 4), .t (.mv (.t 21)), none⟩]
def F97c : ACode :=
  (.seq (.ops F97o0 [0, 1])
  ((.seq (.ops F97o1 [0, 1, 5])
   ((.seq ((.seq (.ops F97o2 [1, 5, 8, 9, 10])
    (.block 0 (.loop [1, 5, 8, 9, 10] F97b7))))
    ((.seq (.ops F97o8 [4])
     (.ret))))))))
def F97 : AFn := ⟨22, [.tmp 4], F97c⟩
theorem F97_ok : cFn Tryd.prog [] 97 = some F97 := by kernel_rfl

/- manifold/resolve.cloned$1 -/
def F98o0 : List AOper := [
  ⟨(some 1), .m (.box 87 (.t 0)), none⟩,
  ⟨(some 2), .m (.alloc 87 [(.str []), .nils]), none⟩]
def F98o1 : List AOper := [
  ⟨(some 3), .t (.faddr 1 (.t 1)), none⟩,
  ⟨(some 4), .m (.load true 1 (.t 3)), none⟩,
  ⟨(some 5), .call (.c (.clo 96 [] [])) [(.t 4)], none⟩,
  ⟨(some 6), .t (.faddr 1 (.t 1)), none⟩,
  ⟨none, .m (.store 1 (.t 6) (.t 5)), none⟩]
def F98o2 : List AOper := [
  ⟨(some 7), .m (.load true 2 (.t 1)), none⟩,
  ⟨none, .m (.store 2 (.t 2) (.t 7)), none⟩]
def F98c : ACode :=
  (.seq (.ops F98o0 [1, 2])
  ((.seq (.ops F98o1 [1, 2])
   ((.seq (.ops F98o2 [2])
    (.ret))))))
def F98 : AFn := ⟨8, [.cell 2 true 2], F98c⟩
theorem F98_ok : cFn Tryd.prog [] 98 = some F98 := by kernel_rfl

/- manifold/resolve.each[manifold/api.Branch] -/
def F99o0 : List AOper := [
  ⟨(some 4), .t (.mv (.c .nils)), none⟩]
def F99o1 : List AOper := [
  ⟨(some 5), .t (.mv (.c .nils)), none⟩]
def F99o2 : List AOper := [
  ⟨(some 8), .t (.mv (.t 0)), none⟩,
  ⟨(some 9), .t (.len false (.t 8)), none⟩,
  ⟨(some 10), .t (.mv (.c (.int .i64 0))), none⟩]
def F99o3 : List AOper := [
  ⟨(some 11), .t (.bin .lss (.t 10) (.t 9)), none⟩]
def F99o4 : List AOper := [
  ⟨(some 12), .t (.iaddr 2 (.t 8) (.t 10)), none⟩,
  ⟨(some 13), .m (.load true 2 (.t 12)), none⟩,
  ⟨(some 7), .m (.alloc 89 [.nils, .nils]), none⟩,
  ⟨none, .m (.store 2 (.t 7) (.t 13)), none⟩]
def F99o5 : List AOper := [
  ⟨(some 14), .t (.mv (.t 5)), none⟩,
  ⟨(some 15), .t (.mv (.t 1)), none⟩,
  ⟨(some 16), .m (.load true 2 (.t 7)), none⟩,
  ⟨(some 17), .call (.t 15) [(.t 16)], none⟩,
  ⟨(some 18), .m (.bslice false 89 2 1 [(.t 17)]), none⟩,
  ⟨(some 19), .m (.append false 89 2 48 (.t 14) (.t 18)), none⟩,
  ⟨(some 5), .t (.mv (.t 19)), none⟩]
def F99o6 : List AOper := [
  ⟨(some 20), .t (.bin .add (.t 10) (.c (.int .i64 1))), none⟩,
  ⟨(some 10), .t (.mv (.t 20)), none⟩]
def F99b7 : ACode :=
  (.seq (.ops F99o3 [1, 5, 8, 9, 10, 11])
  ((.seq (.cond (.t 11)
    (.skip)
    (.exit 0))
   ((.seq (.block 1 ((.seq (.ops F99o4 [1, 5, 7, 8, 9, 10])
     (.ops F99o5 [1, 5, 8, 9, 10]))))
    (.ops F99o6 [1, 5, 8, 9, 10]))))))
def F99o8 : List AOper := [
  ⟨(some 21), .t (.mv (.t 5)), none⟩,
  ⟨(some 4), .t (.mv (.t 21)), none⟩]
def F99c : ACode :=
  (.seq (.ops F99o0 [0, 1])
  ((.seq (.ops F99o1 [0, 1, 5])
   ((.seq ((.seq (.ops F99o2 [1, 5, 8, 9, 10])
    (.block 0 (.loop [1, 5, 8, 9, 10] F99b7))))
    ((.seq (.ops F99o8 [4])
     (.ret))))))))
def F99 : AFn := ⟨22, [.tmp 4], F99c⟩
theorem F99_ok : cFn Tryd.prog [] 99 = some F99 := by kernel_rfl

/- manifold/resolve.cloned$2 -/
def F100o0 : List AOper := [
  ⟨(some 1), .m (.cbox 89 (.t 0)), none⟩,
  ⟨(some 2), .m (.alloc 89 [.nils, .nils]), none⟩]
def F100o1 : List AOper := [
  ⟨(some 3), .t (.faddr 0 (.t 1)), none⟩,
  ⟨(some 4), .m (.load false 1 (.t 3)), none⟩,
  ⟨(some 5), .call (.c (.clo 94 [] [])) [(.t 4), (.c (.clo 95 [] []))], none⟩,
  ⟨(some 6), .t (.faddr 1 (.t 1)), none⟩,
  ⟨(some 7), .m (.load false 1 (.t 6)), none⟩]
def F100p1 : List AOper := [
  ⟨(some 8), .call (.c (.clo 74 [] [])) [(.t 7), (.c (.clo 70 [] []))], none⟩,
  ⟨(some 9), .t (.build [.nils, .nils] [(0, 1, (.t 5)), (1, 1, (.t 8))]), none⟩,
  ⟨none, .m (.store 2 (.t 2) (.t 9)), none⟩]
def F100A1 : List (List Nat) := [[], [0], [1, 0], [], [3], [4, 2, 3, 1, 0], [5, 4, 2, 3, 1, 0], [6, 5, 4, 2, 3, 1, 0]]
def F100c : ACode :=
  (.seq (.ops F100o0 [1, 2])
  ((.seq (.draw F100A1 F100o1 F100p1 [2])
   (.ret))))
def F100 : AFn := ⟨10, [.cell 2 true 2], F100c⟩
theorem F100_ok : cFn Tryd.prog [1] 100 = some F100 := by kernel_rfl

/- manifold/resolve.visit$1 -/
def F102o0 : List AOper := [
  ⟨(some 7), .t (.mv (.t 0)), none⟩,
  ⟨(some 8), .t (.len false (.t 7)), none⟩,
  ⟨(some 9), .t (.mv (.c (.int .i64 0))), none⟩]
def F102o1 : List AOper := [
  ⟨(some 10), .t (.bin .lss (.t 9) (.t 8)), none⟩]
def F102o2 : List AOper := [
  ⟨(some 11), .t (.mv (.t 9)), none⟩,
  ⟨(some 5), .t (.mv (.t 11)), none⟩]
def F102o3 : List AOper := [
  ⟨(some 12), .m (.load false 1 (.t 1)), none⟩,
  ⟨(some 13), .t (.mv (.t 5)), none⟩,
  ⟨(some 14), .m (.bslice false 3 1 1 [(.t 13)]), none⟩,
  ⟨(some 15), .m (.append true 3 1 8 (.t 12) (.t 14)), none⟩,
  ⟨none, .m (.store 1 (.t 1) (.t 15)), none⟩]
def F102o4 : List AOper := [
  ⟨(some 16), .m (.load false 1 (.t 2)), none⟩,
  ⟨(some 17), .m (.load false 1 (.t 1)), none⟩,
  ⟨(some 18), .t (.mv (.t 0)), none⟩,
  ⟨(some 19), .t (.mv (.t 5)), none⟩,
  ⟨(some 20), .t (.iaddr 11 (.t 18) (.t 19)), none⟩]
def F102p4 : List AOper := [
  ⟨(some 21), .call (.t 16) [(.t 17), (.t 20)], none⟩]
def F102A4 : List (List Nat) := [[], [], [], [], [2, 3], [0, 1, 4, 2, 3]]
def F102o5 : List AOper := [
  ⟨(some 22), .t (.mv (.t 0)), none⟩,
  ⟨(some 23), .t (.mv (.t 5)), none⟩,
  ⟨(some 24), .t (.iaddr 11 (.t 22) (.t 23)), none⟩,
  ⟨(some 25), .t (.faddr 10 (.t 24)), none⟩,
  ⟨(some 26), .m (.load false 1 (.t 25)), none⟩,
  ⟨(some 27), .t (.len false (.t 26)), none⟩,
  ⟨(some 28), .t (.mv (.c (.int .i64 0))), none⟩]
def F102o6 : List AOper := [
  ⟨(some 29), .t (.bin .lss (.t 28) (.t 27)), none⟩]
def F102o7 : List AOper := [
  ⟨(some 30), .t (.mv (.t 28)), none⟩,
  ⟨(some 6), .t (.mv (.t 30)), none⟩]
def F102o8 : List AOper := [
  ⟨(some 31), .m (.load false 1 (.t 1)), none⟩,
  ⟨(some 32), .t (.mv (.t 6)), none⟩,
  ⟨(some 33), .m (.bslice false 3 1 1 [(.t 32)]), none⟩,
  ⟨(some 34), .m (.append true 3 1 8 (.t 31) (.t 33)), none⟩,
  ⟨none, .m (.store 1 (.t 1) (.t 34)), none⟩]
def F102o9 : List AOper := [
  ⟨(some 35), .m (.load false 1 (.t 3)), none⟩,
  ⟨(some 36), .t (.mv (.t 0)), none⟩,
  ⟨(some 37), .t (.mv (.t 5)), none⟩,
  ⟨(some 38), .t (.iaddr 11 (.t 36) (.t 37)), none⟩,
  ⟨(some 39), .t (.faddr 10 (.t 38)), none⟩,
  ⟨(some 40), .m (.load false 1 (.t 39)), none⟩,
  ⟨(some 41), .t (.mv (.t 6)), none⟩,
  ⟨(some 42), .t (.iaddr 2 (.t 40) (.t 41)), none⟩,
  ⟨(some 43), .t (.faddr 1 (.t 42)), none⟩,
  ⟨(some 44), .m (.load false 1 (.t 43)), none⟩]
def F102p9 : List AOper := [
  ⟨(some 45), .call (.t 35) [(.t 44)], none⟩]
def F102A9 : List (List Nat) := [[], [], [], [1, 2], [3, 1, 2], [4, 3, 1, 2], [], [5, 6, 4, 3, 1, 2], [7, 5, 6, 4, 3, 1, 2], [8, 7, 5, 6, 4, 3, 1, 2], [0, 9, 8, 7, 5, 6, 4, 3, 1, 2]]
def F102o10 : List AOper := [
  ⟨(some 46), .m (.load false 1 (.t 1)), none⟩,
  ⟨(some 47), .m (.load false 1 (.t 1)), none⟩,
  ⟨(some 48), .t (.len false (.t 47)), none⟩,
  ⟨(some 49), .t (.bin .sub (.t 48) (.c (.int .i64 1))), none⟩,
  ⟨(some 50), .t (.sliceL 1 (.t 46) none (some (.t 49))), none⟩,
  ⟨none, .m (.store 1 (.t 1) (.t 50)), none⟩]
def F102o11 : List AOper := [
  ⟨(some 51), .t (.bin .add (.t 28) (.c (.int .i64 1))), none⟩,
  ⟨(some 28), .t (.mv (.t 51)), none⟩]
def F102b12 : ACode :=
  (.seq (.ops F102o6 [0, 1, 2, 3, 5, 8, 9, 27, 28, 29])
  ((.seq (.cond (.t 29)
    (.skip)
    (.exit 2))
   ((.seq (.block 3 ((.seq (.ops F102o7 [0, 1, 2, 3, 5, 6, 8, 9, 27, 28])
     ((.seq (.ops F102o8 [0, 1, 2, 3, 5, 6, 8, 9, 27, 28])
      ((.seq (.draw F102A9 F102o9 F102p9 [0, 1, 2, 3, 5, 8, 9, 27, 28])
       (.ops F102o10 [0, 1, 2, 3, 5, 8, 9, 27, 28]))))))))
    (.ops F102o11 [0, 1, 2, 3, 5, 8, 9, 27, 28]))))))
def F102o13 : List AOper := [
  ⟨(some 52), .m (.load false 1 (.t 1)), none⟩,
  ⟨(some 53), .m (.load false 1 (.t 1)), none⟩,
  ⟨(some 54), .t (.len false (.t 53)), none⟩,
  ⟨(some 55), .t (.bin .sub (.t 54) (.c (.int .i64 1))), none⟩,
  ⟨(some 56), .t (.sliceL 1 (.t 52) none (some (.t 55))), none⟩,
  ⟨none, .m (.store 1 (.t 1) (.t 56)), none⟩]
def F102o14 : List AOper := [
  ⟨(some 57), .t (.bin .add (.t 9) (.c (.int .i64 1))), none⟩,
  ⟨(some 9), .t (.mv (.t 57)), none⟩]
def F102b15 : ACode :=
  (.seq (.ops F102o1 [0, 1, 2, 3, 8, 9, 10])
  ((.seq (.cond (.t 10)
    (.skip)
    (.exit 0))
   ((.seq (.block 1 ((.seq (.ops F102o2 [0, 1, 2, 3, 5, 8, 9])
     ((.seq (.ops F102o3 [0, 1, 2, 3, 5, 8, 9])
      ((.seq (.draw F102A4 F102o4 F102p4 [0, 1, 2, 3, 5, 8, 9])
       ((.seq ((.seq (.ops F102o5 [0, 1, 2, 3, 5, 8, 9, 27, 28])
        (.block 2 (.loop [0, 1, 2, 3, 5, 8, 9, 27, 28] F102b12))))
        (.ops F102o13 [0, 1, 2, 3, 8, 9]))))))))))
    (.ops F102o14 [0, 1, 2, 3, 8, 9]))))))
def F102c : ACode :=
  (.seq (.ops F102o0 [0, 1, 2, 3, 8, 9])
  (.block 0 (.loop [0, 1, 2, 3, 8, 9] F102b15)))
def F102 : AFn := ⟨58, [], F102c⟩
theorem F102_ok : cFn Tryd.prog [15, 34] 102 = some F102 := by kernel_rfl

end Go.Proofs.YtfbakipopjoghaaDoor
