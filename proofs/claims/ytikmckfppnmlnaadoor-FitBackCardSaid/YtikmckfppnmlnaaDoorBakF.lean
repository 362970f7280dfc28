/- Functions of the program as the logic reads them, each with the proof that it is so read. -/
import Derived.Test.YtikmckfppnmlnaaDoorProg
import Derived.Test.YtikmckfppnmlnaaDoorCore4
import Derived.KernelRfl
set_option maxRecDepth 100000
namespace Go.Proofs.YtikmckfppnmlnaaDoor
open Go Go.Ab
def F2o0 : List AOper := [⟨some 0, .call (.c (.clo 1 [] [])) [], none⟩]
def F2c : ACode :=
  .ops F2o0 []
def F2 : AFn := ⟨1, [], F2c⟩
def F10o0 : List AOper := [⟨some 2, .m (.box 58 (.t 0)), none⟩,⟨some 3, .m (.box 62 (.t 1)), none⟩,⟨some 4, .t (.mv (.c (.bool false))), none⟩]
def F10o1 : List AOper := [⟨some 10, .m (.load true 7 (.t 2)), none⟩,⟨some 11, .m (.load true 6 (.t 3)), none⟩,⟨some 12, .call (.c (.clo 22 [] [])) [(.t 10), (.t 11)], none⟩,⟨some 9, .t (.mv (.t 12)), none⟩,⟨some 13, .t (.ext (.t 9) 0), none⟩,⟨some 14, .t (.ext (.t 9) 1), none⟩,⟨none, .m (.store 7 (.t 2) (.t 13)), none⟩,⟨none, .m (.store 6 (.t 3) (.t 14)), none⟩]
def F10o2 : List AOper := [⟨some 15, .call (.c (.clo 25 [] [])) [], none⟩,⟨some 16, .t (.not (.t 15)), none⟩,⟨some 17, .t (.mv (.t 16)), none⟩,⟨some 18, .m (.load true 7 (.t 2)), (some (17, false))⟩,
  ⟨some 19, .call (.c (.clo 34 [] [])) [(.t 18)], (some (17, false))⟩,
  ⟨some 20, .t (.not (.t 19)), (some (17, false))⟩,
  ⟨some 21, .t (.pick (.t 17) (.c (.bool true)) (.t 20)), none⟩,⟨some 22, .t (.mv (.t 21)), none⟩,⟨some 23, .m (.load true 7 (.t 2)), (some (22, false))⟩,
  ⟨some 24, .m (.load true 6 (.t 3)), (some (22, false))⟩,
  ⟨some 25, .call (.c (.clo 26 [] [])) [(.t 23), (.t 24)], (some (22, false))⟩,
  ⟨some 26, .t (.not (.t 25)), (some (22, false))⟩,
  ⟨some 27, .t (.pick (.t 22) (.c (.bool true)) (.t 26)), none⟩]
def F10o3 : List AOper := [⟨some 28, .call (.c (.clo 25 [] [])) [], none⟩,⟨some 4, .t (.mv (.t 28)), none⟩]
def F10o4 : List AOper := [⟨some 30, .m (.load true 7 (.t 2)), none⟩,⟨some 31, .m (.load true 6 (.t 3)), none⟩,⟨some 32, .call (.c (.clo 31 [] [])) [(.t 30), (.t 31)], none⟩,⟨some 29, .t (.mv (.t 32)), none⟩,⟨some 33, .t (.ext (.t 29) 0), none⟩,⟨some 34, .t (.ext (.t 29) 1), none⟩,⟨some 5, .m (.alloc 62 [(.int .i64 0), (.int .i64 0), (.int .i64 0), (.str []), .nils, .nils]), none⟩,⟨none, .m (.store 6 (.t 5) (.t 33)), none⟩,⟨some 6, .t (.mv (.t 34)), none⟩]
def F10o5 : List AOper := [⟨some 36, .m (.load true 7 (.t 2)), none⟩,⟨some 37, .m (.load true 6 (.t 5)), none⟩,⟨some 38, .call (.c (.clo 35 [] [])) [(.t 36), (.t 37)], none⟩,⟨some 35, .t (.mv (.t 38)), none⟩,⟨some 39, .t (.ext (.t 35) 0), none⟩,⟨some 40, .t (.ext (.t 35) 1), none⟩,⟨some 7, .m (.alloc 62 [(.int .i64 0), (.int .i64 0), (.int .i64 0), (.str []), .nils, .nils]), none⟩,⟨none, .m (.store 6 (.t 7) (.t 39)), none⟩,⟨some 8, .t (.mv (.t 40)), none⟩]
def F10o6 : List AOper := [⟨some 41, .t (.mv (.t 6)), none⟩,⟨some 42, .t (.bin .eql (.t 41) (.c (.int .i64 0))), none⟩,⟨some 43, .t (.mv (.t 42)), none⟩,⟨some 44, .t (.mv (.t 8)), (some (43, true))⟩,
  ⟨some 45, .t (.bin .eql (.t 44) (.c (.int .i64 0))), (some (43, true))⟩,
  ⟨some 46, .t (.pick (.t 43) (.t 45) (.c (.bool false))), none⟩,⟨some 47, .t (.mv (.t 46)), none⟩,⟨some 48, .m (.load true 6 (.t 7)), (some (47, true))⟩,
  ⟨some 49, .m (.load true 6 (.t 3)), (some (47, true))⟩,
  ⟨some 50, .call (.c (.clo 32 [] [])) [(.t 48), (.t 49)], (some (47, true))⟩,
  ⟨some 51, .t (.pick (.t 47) (.t 50) (.c (.bool false))), none⟩,⟨some 4, .t (.mv (.t 51)), none⟩]
def F10c : ACode :=
(.seq (.ops F10o0 [2, 3])
((.seq (.ops F10o1 [2, 3])
((.seq ((.seq (.ops F10o2 [2, 3, 27])
(.cond (.t 27)
((.seq (.ops F10o3 [4])
(.ret)))
(.skip))))
((.seq (.ops F10o4 [2, 3, 5, 6])
((.seq (.ops F10o5 [3, 6, 7, 8])
((.seq (.ops F10o6 [4])
(.ret))))))))))))
def F10 : AFn := ⟨52, [.tmp 4], F10c⟩
theorem F10_ok : cFn Tryd.prog [] 10 = some F10 := by kernel_rfl
def F22o0 : List AOper := [⟨some 2, .m (.cbox 58 (.t 0)), none⟩,⟨some 3, .m (.cbox 62 (.t 1)), none⟩,⟨some 4, .m (.alloc 58 [(.int .i64 0), (.int .i64 0), (.int .i64 0), (.int .i64 0), .nils, .nils, .nils]), none⟩,⟨some 5, .m (.alloc 62 [(.int .i64 0), (.int .i64 0), (.int .i64 0), (.str []), .nils, .nils]), none⟩]
def F22o1 : List AOper := [⟨some 6, .m (.load true 7 (.t 2)), none⟩,⟨some 7, .call (.c (.clo 27 [] [])) [(.t 6), (.c (.int .i64 4))], none⟩,⟨some 8, .m (.load true 6 (.t 3)), none⟩]
def F22p1 : List AOper := [⟨some 9, .call (.c (.clo 36 [] [])) [(.t 8), (.c (.int .i64 4))], none⟩,⟨none, .m (.store 7 (.t 4) (.t 7)), none⟩,⟨none, .m (.store 6 (.t 5) (.t 9)), none⟩]
def F22A1 : List (List Nat) := [[], [0], [], [2, 1, 0], [3, 2, 1, 0], [4, 3, 2, 1, 0]]
def F22c : ACode :=
(.seq (.ops F22o0 [2, 3, 4, 5])
((.seq (.draw F22A1 F22o1 F22p1 [4, 5])
(.ret))))
def F22 : AFn := ⟨10, [.cell 4 true 7, .cell 5 true 6], F22c⟩
theorem F22_ok : cFn Tryd.prog [2, 3] 22 = some F22 := by kernel_rfl
def F23o0 : List AOper := [⟨some 2, .m (.cbox 58 (.t 0)), none⟩,⟨some 3, .m (.cbox 62 (.t 1)), none⟩,⟨some 4, .t (.mv (.c .nils)), none⟩]
def F23o1 : List AOper := [⟨some 5, .m (.alloc 65 [.nils]), none⟩]
def F23o2 : List AOper := [⟨some 7, .t (.clo 55 [] [(.t 5)]), none⟩,⟨some 8, .t (.build [.nilf, (.bool false)] [(0, 1, (.t 7))]), none⟩,⟨some 6, .m (.alloc 120 [.nilf, (.bool false)]), none⟩,⟨none, .m (.store 2 (.t 6) (.t 8)), none⟩]
def F23o3 : List AOper := [⟨some 9, .m (.load true 7 (.t 2)), none⟩,⟨some 10, .m (.load true 6 (.t 3)), none⟩,⟨some 11, .call (.c (.clo 56 [] [])) [(.t 6), (.t 9), (.t 10), (.c (.str []))], none⟩]
def F23o4 : List AOper := [⟨some 12, .m (.load false 1 (.t 5)), none⟩,⟨some 4, .t (.mv (.t 12)), none⟩]
def F23c : ACode :=
(.seq (.ops F23o0 [2, 3])
((.seq (.ops F23o1 [2, 3, 5])
((.seq (.ops F23o2 [2, 3, 5, 6])
((.seq (.ops F23o3 [5])
((.seq (.ops F23o4 [4])
(.ret))))))))))
def F23 : AFn := ⟨13, [.tmp 4], F23c⟩
theorem F23_ok : cFn Tryd.prog [2, 3] 23 = some F23 := by kernel_rfl
def F25o0 : List AOper := [⟨some 0, .t (.mv (.c (.bool false))), none⟩]
def F25o1 : List AOper := [⟨some 6, .t (.build [(.int .i64 0), (.int .i64 0), (.int .i64 0), (.str []), .nils, .nils] [(0, 1, (.c (.int .i64 2))), (1, 1, (.c (.int .i64 12)))]), none⟩,⟨some 7, .t (.build [(.str []), (.int .i64 0), (.int .i64 0), (.int .i64 0), (.str []), .nils, .nils] [(0, 1, (.c (.str [105, 100]))), (1, 6, (.t 6))]), none⟩,⟨some 8, .t (.build [(.int .i64 0), (.int .i64 0), (.int .i64 0), (.str []), .nils, .nils] [(0, 1, (.c (.int .i64 1))), (1, 1, (.c (.int .i64 1)))]), none⟩,⟨some 9, .t (.build [(.str []), (.int .i64 0), (.int .i64 0), (.int .i64 0), (.str []), .nils, .nils] [(0, 1, (.c (.str [109, 111, 114, 101]))), (1, 6, (.t 8))]), none⟩,⟨some 10, .m (.bslice false 127 7 2 [(.t 7), (.t 9)]), none⟩,⟨some 11, .t (.build [(.int .i64 0), (.int .i64 0), (.int .i64 0), (.str []), .nils, .nils] [(0, 1, (.c (.int .i64 9))), (5, 1, (.t 10))]), none⟩,⟨some 1, .m (.alloc 62 [(.int .i64 0), (.int .i64 0), (.int .i64 0), (.str []), .nils, .nils]), none⟩,⟨none, .m (.store 6 (.t 1) (.t 11)), none⟩]
def F25o2 : List AOper := [⟨some 12, .call (.c (.clo 62 [] [])) [], none⟩,⟨some 13, .m (.load true 6 (.t 1)), none⟩]
def F25p2 : List AOper := [⟨some 14, .call (.c (.clo 23 [] [])) [(.t 12), (.t 13)], none⟩,⟨some 2, .t (.mv (.t 14)), none⟩]
def F25A2 : List (List Nat) := [[], [], [1, 0], [2, 1, 0]]
def F25o3 : List AOper := [⟨some 15, .t (.mv (.t 2)), none⟩,⟨some 16, .t (.len false (.t 15)), none⟩,⟨some 17, .t (.bin .neq (.t 16) (.c (.int .i64 3))), none⟩,⟨some 18, .t (.mv (.t 17)), none⟩,⟨some 19, .t (.mv (.t 2)), (some (18, false))⟩,
  ⟨some 20, .t (.iaddr 2 (.t 19) (.c (.int .i64 0))), (some (18, false))⟩,
  ⟨some 21, .m (.load true 2 (.t 20)), (some (18, false))⟩,
  ⟨some 22, .t (.build [(.str []), (.int .i64 0)] [(0, 1, (.c (.str [105, 100]))), (1, 1, (.c (.int .i64 2)))]), (some (18, false))⟩,
  ⟨some 23, .t (.beqS true [2, 1] (.t 21) (.t 22)), (some (18, false))⟩,
  ⟨some 24, .t (.pick (.t 18) (.c (.bool true)) (.t 23)), none⟩,⟨some 25, .t (.mv (.t 24)), none⟩,⟨some 26, .t (.mv (.t 2)), (some (25, false))⟩,
  ⟨some 27, .t (.iaddr 2 (.t 26) (.c (.int .i64 1))), (some (25, false))⟩,
  ⟨some 28, .m (.load true 2 (.t 27)), (some (25, false))⟩,
  ⟨some 29, .t (.build [(.str []), (.int .i64 0)] [(0, 1, (.c (.str [107, 105, 110, 100]))), (1, 1, (.c (.int .i64 5)))]), (some (25, false))⟩,
  ⟨some 30, .t (.beqS true [2, 1] (.t 28) (.t 29)), (some (25, false))⟩,
  ⟨some 31, .t (.pick (.t 25) (.c (.bool true)) (.t 30)), none⟩,⟨some 32, .t (.mv (.t 31)), none⟩,⟨some 33, .t (.mv (.t 2)), (some (32, false))⟩,
  ⟨some 34, .t (.iaddr 2 (.t 33) (.c (.int .i64 2))), (some (32, false))⟩,
  ⟨some 35, .m (.load true 2 (.t 34)), (some (32, false))⟩,
  ⟨some 36, .t (.build [(.str []), (.int .i64 0)] [(0, 1, (.c (.str [109, 111, 114, 101]))), (1, 1, (.c (.int .i64 6)))]), (some (32, false))⟩,
  ⟨some 37, .t (.beqS true [2, 1] (.t 35) (.t 36)), (some (32, false))⟩,
  ⟨some 38, .t (.pick (.t 32) (.c (.bool true)) (.t 37)), none⟩]
def F25o4 : List AOper := [⟨some 0, .t (.mv (.c (.bool false))), none⟩]
def F25o5 : List AOper := [⟨some 39, .t (.build [(.int .i64 0), (.int .i64 0), (.int .i64 0), (.str []), .nils, .nils] [(0, 1, (.c (.int .i64 2))), (1, 1, (.c (.int .i64 2)))]), none⟩,⟨some 40, .t (.build [(.str []), (.int .i64 0), (.int .i64 0), (.int .i64 0), (.str []), .nils, .nils] [(0, 1, (.c (.str [105, 100]))), (1, 6, (.t 39))]), none⟩,⟨some 41, .m (.bslice false 127 7 1 [(.t 40)]), none⟩,⟨some 42, .t (.build [(.int .i64 0), (.int .i64 0), (.int .i64 0), (.str []), .nils, .nils] [(0, 1, (.c (.int .i64 9))), (5, 1, (.t 41))]), none⟩,⟨some 3, .m (.alloc 62 [(.int .i64 0), (.int .i64 0), (.int .i64 0), (.str []), .nils, .nils]), none⟩,⟨none, .m (.store 6 (.t 3) (.t 42)), none⟩]
def F25o6 : List AOper := [⟨some 44, .call (.c (.clo 62 [] [])) [], none⟩,⟨some 45, .m (.load true 6 (.t 3)), none⟩,⟨some 46, .call (.c (.clo 35 [] [])) [(.t 44), (.t 45)], none⟩,⟨some 43, .t (.mv (.t 46)), none⟩,⟨some 47, .t (.ext (.t 43) 0), none⟩,⟨some 48, .t (.ext (.t 43) 1), none⟩,⟨some 4, .m (.alloc 62 [(.int .i64 0), (.int .i64 0), (.int .i64 0), (.str []), .nils, .nils]), none⟩,⟨none, .m (.store 6 (.t 4) (.t 47)), none⟩]
def F25p6 : List AOper := [⟨some 5, .t (.mv (.t 48)), none⟩]
def F25A6 : List (List Nat) := [[], [], [1, 0], [2, 1, 0], [3, 2, 1, 0], [3, 2, 1, 0], [], [4, 6, 3, 2, 1, 0], [5, 7, 4, 6, 3, 2, 1, 0]]
def F25o7 : List AOper := [⟨some 49, .t (.mv (.t 5)), none⟩,⟨some 50, .t (.bin .eql (.t 49) (.c (.int .i64 0))), none⟩,⟨some 51, .t (.mv (.t 50)), none⟩,⟨some 52, .t (.faddr 5 (.t 4)), (some (51, true))⟩,
  ⟨some 53, .m (.load false 1 (.t 52)), (some (51, true))⟩,
  ⟨some 54, .t (.len false (.t 53)), (some (51, true))⟩,
  ⟨some 55, .t (.bin .eql (.t 54) (.c (.int .i64 2))), (some (51, true))⟩,
  ⟨some 56, .t (.pick (.t 51) (.t 55) (.c (.bool false))), none⟩,⟨some 57, .t (.mv (.t 56)), none⟩,⟨some 58, .t (.faddr 5 (.t 4)), (some (57, true))⟩,
  ⟨some 59, .m (.load false 1 (.t 58)), (some (57, true))⟩,
  ⟨some 60, .t (.iaddr 7 (.t 59) (.c (.int .i64 1))), (some (57, true))⟩,
  ⟨some 61, .t (.faddr 1 (.t 60)), (some (57, true))⟩,
  ⟨some 62, .t (.faddr 3 (.t 61)), (some (57, true))⟩,
  ⟨some 63, .m (.load false 1 (.t 62)), (some (57, true))⟩,
  ⟨some 64, .t (.bin .eql (.t 63) (.c (.str [97]))), (some (57, true))⟩,
  ⟨some 65, .t (.pick (.t 57) (.t 64) (.c (.bool false))), none⟩,⟨some 66, .t (.mv (.t 65)), none⟩,⟨some 67, .call (.c (.clo 62 [] [])) [], (some (66, true))⟩,
  ⟨some 68, .m (.load true 6 (.t 4)), (some (66, true))⟩]
def F25p7 : List AOper := [⟨some 69, .call (.c (.clo 26 [] [])) [(.t 67), (.t 68)], (some (66, true))⟩,
  ⟨some 70, .t (.pick (.t 66) (.t 69) (.c (.bool false))), none⟩,⟨some 0, .t (.mv (.t 70)), none⟩]
def F25A7 : List (List Nat) := [[], [0], [1, 0], [2, 1, 0], [3, 2, 1, 0], [4, 3, 2, 1, 0], [5, 4, 3, 2, 1, 0], [6, 5, 4, 3, 2, 1, 0], [7, 6, 5, 4, 3, 2, 1, 0], [8, 7, 6, 5, 4, 3, 2, 1, 0], [9, 8, 7, 6, 5, 4, 3, 2, 1, 0], [10, 9, 8, 7, 6, 5, 4, 3, 2, 1, 0], [11, 10, 9, 8, 7, 6, 5, 4, 3, 2, 1, 0], [12, 11, 10, 9, 8, 7, 6, 5, 4, 3, 2, 1, 0], [13, 12, 11, 10, 9, 8, 7, 6, 5, 4, 3, 2, 1, 0], [14, 13, 12, 11, 10, 9, 8, 7, 6, 5, 4, 3, 2, 1, 0], [15, 14, 13, 12, 11, 10, 9, 8, 7, 6, 5, 4, 3, 2, 1, 0], [16, 15, 14, 13, 12, 11, 10, 9, 8, 7, 6, 5, 4, 3, 2, 1, 0], [17, 16, 15, 14, 13, 12, 11, 10, 9, 8, 7, 6, 5, 4, 3, 2, 1, 0], [17, 16, 15, 14, 13, 12, 11, 10, 9, 8, 7, 6, 5, 4, 3, 2, 1, 0], [19, 18, 17, 16, 15, 14, 13, 12, 11, 10, 9, 8, 7, 6, 5, 4, 3, 2, 1, 0], [20, 19, 18, 17, 16, 15, 14, 13, 12, 11, 10, 9, 8, 7, 6, 5, 4, 3, 2, 1, 0], [21, 20, 19, 18, 17, 16, 15, 14, 13, 12, 11, 10, 9, 8, 7, 6, 5, 4, 3, 2, 1, 0]]
def F25c : ACode :=
(.seq (.ops F25o0 [])
((.seq (.ops F25o1 [1])
((.seq (.draw F25A2 F25o2 F25p2 [2])
((.seq ((.seq (.ops F25o3 [38])
(.cond (.t 38)
((.seq (.ops F25o4 [0])
(.ret)))
(.skip))))
((.seq (.ops F25o5 [3])
((.seq (.draw F25A6 F25o6 F25p6 [4, 5])
((.seq (.draw F25A7 F25o7 F25p7 [0])
(.ret))))))))))))))
def F25 : AFn := ⟨71, [.tmp 0], F25c⟩
theorem F25_ok : cFn Tryd.prog [] 25 = some F25 := by kernel_rfl
def F26o0 : List AOper := [⟨some 2, .m (.cbox 58 (.t 0)), none⟩,⟨some 3, .m (.cbox 62 (.t 1)), none⟩,⟨some 4, .t (.mv (.c (.bool false))), none⟩]
def F26o1 : List AOper := [⟨some 5, .m (.alloc 4 [(.bool false)]), none⟩,⟨none, .m (.store 1 (.t 5) (.c (.bool true))), none⟩]
def F26o2 : List AOper := [⟨some 7, .t (.clo 63 [] [(.t 5)]), none⟩,⟨some 8, .t (.build [.nilf, (.bool false)] [(0, 1, (.t 7))]), none⟩,⟨some 6, .m (.alloc 120 [.nilf, (.bool false)]), none⟩,⟨none, .m (.store 2 (.t 6) (.t 8)), none⟩]
def F26o3 : List AOper := [⟨some 9, .m (.load true 7 (.t 2)), none⟩,⟨some 10, .m (.load true 6 (.t 3)), none⟩,⟨some 11, .call (.c (.clo 56 [] [])) [(.t 6), (.t 9), (.t 10), (.c (.str []))], none⟩]
def F26o4 : List AOper := [⟨some 12, .m (.load false 1 (.t 5)), none⟩,⟨some 4, .t (.mv (.t 12)), none⟩]
def F26c : ACode :=
(.seq (.ops F26o0 [2, 3])
((.seq (.ops F26o1 [2, 3, 5])
((.seq (.ops F26o2 [2, 3, 5, 6])
((.seq (.ops F26o3 [5])
((.seq (.ops F26o4 [4])
(.ret))))))))))
def F26 : AFn := ⟨13, [.tmp 4], F26c⟩
theorem F26_ok : cFn Tryd.prog [2, 3] 26 = some F26 := by kernel_rfl
def F27o0 : List AOper := [⟨some 2, .m (.box 58 (.t 0)), none⟩,⟨some 4, .m (.alloc 58 [(.int .i64 0), (.int .i64 0), (.int .i64 0), (.int .i64 0), .nils, .nils, .nils]), none⟩]
def F27o1 : List AOper := [⟨some 5, .t (.mv (.c .nils)), none⟩]
def F27o2 : List AOper := [⟨some 6, .t (.mv (.c .nils)), none⟩]
def F27o3 : List AOper := [⟨some 7, .t (.mv (.c .nils)), none⟩]
def F27o4 : List AOper := [⟨some 8, .t (.mv (.c (.int .i64 0))), none⟩]
def F27o5 : List AOper := [⟨some 14, .t (.mv (.t 8)), none⟩,⟨some 15, .t (.faddr 4 (.t 2)), none⟩,⟨some 16, .m (.load false 1 (.t 15)), none⟩,⟨some 17, .t (.len false (.t 16)), none⟩,⟨some 18, .t (.bin .lss (.t 14) (.t 17)), none⟩,⟨some 19, .t (.mv (.t 18)), none⟩,⟨some 20, .t (.mv (.t 8)), (some (19, true))⟩,
  ⟨some 21, .t (.bin .lss (.t 20) (.c (.int .i64 6))), (some (19, true))⟩,
  ⟨some 22, .t (.pick (.t 19) (.t 21) (.c (.bool false))), none⟩]
def F27o6 : List AOper := [⟨some 25, .t (.mv (.t 5)), none⟩,⟨some 26, .t (.faddr 4 (.t 2)), none⟩,⟨some 27, .m (.load false 1 (.t 26)), none⟩,⟨some 28, .t (.mv (.t 8)), none⟩,⟨some 29, .t (.iaddr 1 (.t 27) (.t 28)), none⟩,⟨some 30, .m (.load false 1 (.t 29)), none⟩,⟨some 31, .t (.faddr 4 (.t 2)), none⟩,⟨some 32, .m (.load false 1 (.t 31)), none⟩,⟨some 33, .t (.mv (.t 8)), none⟩,⟨some 34, .t (.iaddr 1 (.t 32) (.t 33)), none⟩,⟨some 35, .m (.load false 1 (.t 34)), none⟩,⟨some 36, .t (.len true (.t 35)), none⟩,⟨some 37, .t (.imin (.t 36) (.c (.int .i64 40))), none⟩,⟨some 38, .t (.sliceS (.t 30) none (some (.t 37))), none⟩,⟨some 39, .m (.bslice false 9 1 1 [(.t 38)]), none⟩]
def F27p6 : List AOper := [⟨some 40, .m (.append false 9 1 16 (.t 25) (.t 39)), none⟩,⟨some 5, .t (.mv (.t 40)), none⟩]
def F27A6 : List (List Nat) := [[], [], [1], [], [2, 3, 1], [4, 2, 3, 1], [], [6], [], [7, 8, 6], [9, 7, 8, 6], [10, 9, 7, 8, 6], [11, 10, 9, 7, 8, 6], [5, 12, 4, 2, 3, 1, 11, 10, 9, 7, 8, 6], [13, 5, 12, 4, 2, 3, 1, 11, 10, 9, 7, 8, 6], [0, 14, 13, 5, 12, 4, 2, 3, 1, 11, 10, 9, 7, 8, 6], [15, 0, 14, 13, 5, 12, 4, 2, 3, 1, 11, 10, 9, 7, 8, 6]]
def F27o7 : List AOper := [⟨some 23, .t (.mv (.t 8)), none⟩,⟨some 24, .t (.bin .add (.t 23) (.c (.int .i64 1))), none⟩,⟨some 8, .t (.mv (.t 24)), none⟩]
def F27b8 : ACode :=
(.seq ((.seq (.ops F27o5 [1, 2, 4, 5, 6, 7, 8, 22])
(.cond (.t 22)
(.skip)
(.exit 0))))
((.seq (.block 1 (.draw F27A6 F27o6 F27p6 [1, 2, 4, 5, 6, 7, 8]))
(.ops F27o7 [1, 2, 4, 5, 6, 7, 8]))))
def F27o9 : List AOper := [⟨some 9, .t (.mv (.c (.int .i64 0))), none⟩]
def F27o10 : List AOper := [⟨some 41, .t (.mv (.t 9)), none⟩,⟨some 42, .t (.faddr 5 (.t 2)), none⟩,⟨some 43, .m (.load false 1 (.t 42)), none⟩,⟨some 44, .t (.len false (.t 43)), none⟩,⟨some 45, .t (.bin .lss (.t 41) (.t 44)), none⟩,⟨some 46, .t (.mv (.t 45)), none⟩,⟨some 47, .t (.mv (.t 9)), (some (46, true))⟩,
  ⟨some 48, .t (.bin .lss (.t 47) (.c (.int .i64 2))), (some (46, true))⟩,
  ⟨some 49, .t (.pick (.t 46) (.t 48) (.c (.bool false))), none⟩,⟨some 50, .t (.mv (.t 49)), none⟩,⟨some 51, .t (.mv (.t 1)), (some (50, true))⟩,
  ⟨some 52, .t (.bin .gtr (.t 51) (.c (.int .i64 1))), (some (50, true))⟩,
  ⟨some 53, .t (.pick (.t 50) (.t 52) (.c (.bool false))), none⟩]
def F27o11 : List AOper := [⟨some 56, .t (.mv (.t 6)), none⟩,⟨some 57, .t (.faddr 5 (.t 2)), none⟩,⟨some 58, .m (.load false 1 (.t 57)), none⟩,⟨some 59, .t (.mv (.t 9)), none⟩,⟨some 60, .t (.iaddr 7 (.t 58) (.t 59)), none⟩,⟨some 61, .m (.load true 7 (.t 60)), none⟩,⟨some 62, .t (.mv (.t 1)), none⟩,⟨some 63, .t (.bin .sub (.t 62) (.c (.int .i64 1))), none⟩,⟨some 64, .call (.c (.clo 27 [] [])) [(.t 61), (.t 63)], none⟩,⟨some 65, .m (.bslice false 58 7 1 [(.t 64)]), none⟩,⟨some 66, .m (.append false 58 7 104 (.t 56) (.t 65)), none⟩,⟨some 6, .t (.mv (.t 66)), none⟩]
def F27o12 : List AOper := [⟨some 54, .t (.mv (.t 9)), none⟩,⟨some 55, .t (.bin .add (.t 54) (.c (.int .i64 1))), none⟩,⟨some 9, .t (.mv (.t 55)), none⟩]
def F27b13 : ACode :=
(.seq ((.seq (.ops F27o10 [1, 2, 4, 5, 6, 7, 9, 53])
(.cond (.t 53)
(.skip)
(.exit 2))))
((.seq (.block 3 (.ops F27o11 [1, 2, 4, 5, 6, 7, 9]))
(.ops F27o12 [1, 2, 4, 5, 6, 7, 9]))))
def F27o14 : List AOper := [⟨some 10, .t (.mv (.c (.int .i64 0))), none⟩]
def F27o15 : List AOper := [⟨some 67, .t (.mv (.t 10)), none⟩,⟨some 68, .t (.faddr 6 (.t 2)), none⟩,⟨some 69, .m (.load false 1 (.t 68)), none⟩,⟨some 70, .t (.len false (.t 69)), none⟩,⟨some 71, .t (.bin .lss (.t 67) (.t 70)), none⟩,⟨some 72, .t (.mv (.t 71)), none⟩,⟨some 73, .t (.mv (.t 10)), (some (72, true))⟩,
  ⟨some 74, .t (.bin .lss (.t 73) (.c (.int .i64 6))), (some (72, true))⟩,
  ⟨some 75, .t (.pick (.t 72) (.t 74) (.c (.bool false))), none⟩,⟨some 76, .t (.mv (.t 75)), none⟩,⟨some 77, .t (.mv (.t 1)), (some (76, true))⟩,
  ⟨some 78, .t (.bin .gtr (.t 77) (.c (.int .i64 1))), (some (76, true))⟩,
  ⟨some 79, .t (.pick (.t 76) (.t 78) (.c (.bool false))), none⟩]
def F27o16 : List AOper := [⟨some 82, .t (.faddr 6 (.t 2)), none⟩,⟨some 83, .m (.load false 1 (.t 82)), none⟩,⟨some 84, .t (.mv (.t 10)), none⟩,⟨some 85, .t (.iaddr 11 (.t 83) (.t 84)), none⟩,⟨some 86, .m (.load true 11 (.t 85)), none⟩,⟨some 11, .m (.alloc 79 [(.int .i64 0), (.str []), (.int .i64 0), (.int .i64 0), (.int .i64 0), (.int .i64 0), (.int .i64 0), .nils, .nils, .nils, .nils]), none⟩,⟨none, .m (.store 11 (.t 11) (.t 86)), none⟩]
def F27o17 : List AOper := [⟨some 12, .t (.mv (.c .nils)), none⟩]
def F27o18 : List AOper := [⟨some 13, .t (.mv (.c (.int .i64 0))), none⟩]
def F27o19 : List AOper := [⟨some 87, .t (.mv (.t 13)), none⟩,⟨some 88, .t (.faddr 10 (.t 11)), none⟩,⟨some 89, .m (.load false 1 (.t 88)), none⟩,⟨some 90, .t (.len false (.t 89)), none⟩,⟨some 91, .t (.bin .lss (.t 87) (.t 90)), none⟩,⟨some 92, .t (.mv (.t 91)), none⟩,⟨some 93, .t (.mv (.t 13)), (some (92, true))⟩,
  ⟨some 94, .t (.bin .lss (.t 93) (.c (.int .i64 2))), (some (92, true))⟩,
  ⟨some 95, .t (.pick (.t 92) (.t 94) (.c (.bool false))), none⟩]
def F27o20 : List AOper := [⟨some 98, .t (.mv (.t 12)), none⟩,⟨some 99, .t (.faddr 10 (.t 11)), none⟩,⟨some 100, .m (.load false 1 (.t 99)), none⟩,⟨some 101, .t (.mv (.t 13)), none⟩,⟨some 102, .t (.iaddr 6 (.t 100) (.t 101)), none⟩,⟨some 103, .m (.load true 6 (.t 102)), none⟩,⟨some 104, .call (.c (.clo 36 [] [])) [(.t 103), (.c (.int .i64 3))], none⟩,⟨some 105, .m (.bslice false 62 6 1 [(.t 104)]), none⟩,⟨some 106, .m (.append false 62 6 88 (.t 98) (.t 105)), none⟩,⟨some 12, .t (.mv (.t 106)), none⟩]
def F27o21 : List AOper := [⟨some 96, .t (.mv (.t 13)), none⟩,⟨some 97, .t (.bin .add (.t 96) (.c (.int .i64 1))), none⟩,⟨some 13, .t (.mv (.t 97)), none⟩]
def F27b22 : ACode :=
(.seq ((.seq (.ops F27o19 [1, 2, 4, 5, 6, 7, 10, 11, 12, 13, 95])
(.cond (.t 95)
(.skip)
(.exit 6))))
((.seq (.block 7 (.ops F27o20 [1, 2, 4, 5, 6, 7, 10, 11, 12, 13]))
(.ops F27o21 [1, 2, 4, 5, 6, 7, 10, 11, 12, 13]))))
def F27o23 : List AOper := [⟨some 107, .t (.faddr 1 (.t 11)), none⟩,⟨some 108, .m (.load false 1 (.t 107)), none⟩,⟨some 109, .t (.faddr 1 (.t 11)), none⟩,⟨some 110, .m (.load false 1 (.t 109)), none⟩,⟨some 111, .t (.len true (.t 110)), none⟩,⟨some 112, .t (.imin (.t 111) (.c (.int .i64 40))), none⟩,⟨some 113, .t (.sliceS (.t 108) none (some (.t 112))), none⟩,⟨some 114, .t (.faddr 3 (.t 11)), none⟩,⟨some 115, .m (.load true 7 (.t 114)), none⟩,⟨some 116, .t (.mv (.t 1)), none⟩,⟨some 117, .t (.bin .sub (.t 116) (.c (.int .i64 1))), none⟩,⟨some 118, .call (.c (.clo 27 [] [])) [(.t 115), (.t 117)], none⟩,⟨some 119, .t (.mv (.t 12)), none⟩,⟨some 120, .t (.faddr 1 (.t 11)), none⟩,⟨none, .m (.store 1 (.t 120) (.t 113)), none⟩,⟨some 121, .t (.faddr 3 (.t 11)), none⟩,⟨none, .m (.store 7 (.t 121) (.t 118)), none⟩]
def F27p23 : List AOper := [⟨some 122, .t (.faddr 10 (.t 11)), none⟩,⟨none, .m (.store 1 (.t 122) (.t 119)), none⟩]
def F27A23 : List (List Nat) := [[], [0], [], [2], [3, 2], [4, 3, 2], [1, 5, 0, 4, 3, 2], [], [7], [], [9], [8, 10, 7, 9], [], [6, 8, 1, 5, 0, 4, 3, 2, 7], [13, 11, 6, 8, 10, 9, 1, 5, 0, 4, 3, 2, 7], [14, 13, 11, 6, 8, 10, 9, 1, 5, 0, 4, 3, 2, 7], [15, 14, 13, 11, 6, 8, 10, 9, 1, 5, 0, 4, 3, 2, 7], [12, 16, 15, 14, 13, 11, 6, 8, 10, 9, 1, 5, 0, 4, 3, 2, 7], [17, 12, 16, 15, 14, 13, 11, 6, 8, 10, 9, 1, 5, 0, 4, 3, 2, 7]]
def F27o24 : List AOper := [⟨some 123, .t (.mv (.t 7)), none⟩,⟨some 124, .m (.load true 11 (.t 11)), none⟩,⟨some 125, .m (.bslice false 79 11 1 [(.t 124)]), none⟩,⟨some 126, .m (.append false 79 11 160 (.t 123) (.t 125)), none⟩,⟨some 7, .t (.mv (.t 126)), none⟩]
def F27o25 : List AOper := [⟨some 80, .t (.mv (.t 10)), none⟩,⟨some 81, .t (.bin .add (.t 80) (.c (.int .i64 1))), none⟩,⟨some 10, .t (.mv (.t 81)), none⟩]
def F27b26 : ACode :=
(.seq ((.seq (.ops F27o15 [1, 2, 4, 5, 6, 7, 10, 79])
(.cond (.t 79)
(.skip)
(.exit 4))))
((.seq (.block 5 ((.seq (.ops F27o16 [1, 2, 4, 5, 6, 7, 10, 11])
((.seq (.ops F27o17 [1, 2, 4, 5, 6, 7, 10, 11, 12])
((.seq ((.seq (.ops F27o18 [1, 2, 4, 5, 6, 7, 10, 11, 12, 13])
(.block 6 (.loop [1, 2, 4, 5, 6, 7, 10, 11, 12, 13] F27b22))))
((.seq (.draw F27A23 F27o23 F27p23 [1, 2, 4, 5, 6, 7, 10, 11])
(.ops F27o24 [1, 2, 4, 5, 6, 7, 10]))))))))))
(.ops F27o25 [1, 2, 4, 5, 6, 7, 10]))))
def F27o27 : List AOper := [⟨some 127, .t (.mv (.t 5)), none⟩,⟨some 128, .t (.mv (.t 6)), none⟩,⟨some 129, .t (.mv (.t 7)), none⟩,⟨some 130, .t (.faddr 4 (.t 2)), none⟩,⟨none, .m (.store 1 (.t 130) (.t 127)), none⟩,⟨some 131, .t (.faddr 5 (.t 2)), none⟩,⟨none, .m (.store 1 (.t 131) (.t 128)), none⟩,⟨some 132, .t (.faddr 6 (.t 2)), none⟩,⟨none, .m (.store 1 (.t 132) (.t 129)), none⟩]
def F27o28 : List AOper := [⟨some 133, .m (.load true 7 (.t 2)), none⟩,⟨none, .m (.store 7 (.t 4) (.t 133)), none⟩]
def F27c : ACode :=
(.seq (.ops F27o0 [1, 2, 4])
((.seq (.ops F27o1 [1, 2, 4, 5])
((.seq (.ops F27o2 [1, 2, 4, 5, 6])
((.seq (.ops F27o3 [1, 2, 4, 5, 6, 7])
((.seq ((.seq (.ops F27o4 [1, 2, 4, 5, 6, 7, 8])
(.block 0 (.loop [1, 2, 4, 5, 6, 7, 8] F27b8))))
((.seq ((.seq (.ops F27o9 [1, 2, 4, 5, 6, 7, 9])
(.block 2 (.loop [1, 2, 4, 5, 6, 7, 9] F27b13))))
((.seq ((.seq (.ops F27o14 [1, 2, 4, 5, 6, 7, 10])
(.block 4 (.loop [1, 2, 4, 5, 6, 7, 10] F27b26))))
((.seq (.ops F27o27 [2, 4])
((.seq (.ops F27o28 [4])
(.ret))))))))))))))))))
def F27 : AFn := ⟨134, [.cell 4 true 7], F27c⟩
theorem F27_ok : cFn Tryd.prog [] 27 = some F27 := by kernel_rfl
def F29o0 : List AOper := [⟨some 2, .t (.mv (.c (.str []))), none⟩]
def F29o1 : List AOper := [⟨some 4, .t (.build [(.str []), (.str []), (.str []), (.str []), (.str []), (.str []), (.str []), (.str []), (.str [])] [(0, 1, (.c (.str []))), (1, 1, (.c (.str [107, 105, 110, 100]))), (2, 1, (.c (.str [114, 97, 110, 103, 101]))), (3, 1, (.c (.str [115, 99, 97, 108, 101]))), (4, 1, (.c (.str [119, 111, 114, 100]))), (5, 1, (.c (.str [109, 105, 115, 115, 105, 110, 103]))), (6, 1, (.c (.str [117, 110, 107, 110, 111, 119, 110]))), (7, 1, (.c (.str [99, 97, 115, 101]))), (8, 1, (.c (.str [105, 110, 118, 97, 108, 105, 100])))]), none⟩,⟨some 3, .m (.alloc 131 [(.str []), (.str []), (.str []), (.str []), (.str []), (.str []), (.str []), (.str []), (.str [])]), none⟩,⟨none, .m (.store 9 (.t 3) (.t 4)), none⟩]
def F29o2 : List AOper := [⟨some 5, .t (.mv (.t 0)), none⟩,⟨some 6, .t (.bin .lss (.t 5) (.c (.int .i64 0))), none⟩,⟨some 7, .t (.mv (.t 6)), none⟩,⟨some 8, .t (.mv (.t 0)), (some (7, false))⟩,
  ⟨some 9, .t (.bin .geq (.t 8) (.c (.int .i64 9))), (some (7, false))⟩,
  ⟨some 10, .t (.pick (.t 7) (.c (.bool true)) (.t 9)), none⟩]
def F29o3 : List AOper := [⟨some 2, .t (.mv (.c (.str []))), none⟩]
def F29o4 : List AOper := [⟨some 11, .t (.mv (.t 0)), none⟩,⟨some 12, .t (.iaddrA 9 1 (.t 3) (.t 11)), none⟩,⟨some 13, .m (.load false 1 (.t 12)), none⟩,⟨some 2, .t (.mv (.t 13)), none⟩]
def F29c : ACode :=
(.seq (.ops F29o0 [0])
((.seq (.ops F29o1 [0, 3])
((.seq ((.seq (.ops F29o2 [0, 3, 10])
(.cond (.t 10)
((.seq (.ops F29o3 [2])
(.ret)))
(.skip))))
((.seq (.ops F29o4 [2])
(.ret))))))))
def F29 : AFn := ⟨14, [.tmp 2], F29c⟩
theorem F29_ok : cFn Tryd.prog [] 29 = some F29 := by kernel_rfl
def F30o0 : List AOper := [⟨some 1, .m (.cbox 71 (.t 0)), none⟩,⟨some 2, .t (.mv (.c (.str []))), none⟩]
def F30o1 : List AOper := [⟨some 3, .t (.faddr 0 (.t 1)), none⟩,⟨some 4, .m (.load false 1 (.t 3)), none⟩,⟨some 5, .t (.bin .eql (.t 4) (.c (.str []))), none⟩]
def F30o2 : List AOper := [⟨some 6, .t (.faddr 1 (.t 1)), none⟩,⟨some 7, .m (.load false 1 (.t 6)), none⟩,⟨some 8, .call (.c (.clo 29 [] [])) [(.t 7)], none⟩,⟨some 2, .t (.mv (.t 8)), none⟩]
def F30o3 : List AOper := [⟨some 9, .t (.faddr 0 (.t 1)), none⟩,⟨some 10, .m (.load false 1 (.t 9)), none⟩,⟨some 11, .t (.bin .add (.t 10) (.c (.str [58, 32]))), none⟩,⟨some 12, .t (.faddr 1 (.t 1)), none⟩,⟨some 13, .m (.load false 1 (.t 12)), none⟩,⟨some 14, .call (.c (.clo 29 [] [])) [(.t 13)], none⟩]
def F30p3 : List AOper := [⟨some 15, .t (.bin .add (.t 11) (.t 14)), none⟩,⟨some 2, .t (.mv (.t 15)), none⟩]
def F30A3 : List (List Nat) := [[], [0], [1, 0], [], [3], [4, 3], [2, 5, 1, 0, 4, 3], [6, 2, 5, 1, 0, 4, 3]]
def F30c : ACode :=
(.seq (.ops F30o0 [1])
((.seq ((.seq (.ops F30o1 [1, 5])
(.cond (.t 5)
((.seq (.ops F30o2 [2])
(.ret)))
(.skip))))
((.seq (.draw F30A3 F30o3 F30p3 [2])
(.ret))))))
def F30 : AFn := ⟨16, [.tmp 2], F30c⟩
theorem F30_ok : cFn Tryd.prog [1] 30 = some F30 := by kernel_rfl
def F31o0 : List AOper := [⟨some 2, .m (.cbox 58 (.t 0)), none⟩,⟨some 3, .m (.cbox 62 (.t 1)), none⟩,⟨some 4, .m (.alloc 62 [(.int .i64 0), (.int .i64 0), (.int .i64 0), (.str []), .nils, .nils]), none⟩,⟨some 5, .t (.mv (.c (.int .i64 0))), none⟩]
def F31o1 : List AOper := [⟨some 6, .m (.load true 7 (.t 2)), none⟩,⟨some 7, .m (.load true 6 (.t 3)), none⟩,⟨some 8, .call (.c (.clo 26 [] [])) [(.t 6), (.t 7)], none⟩,⟨some 9, .t (.not (.t 8)), none⟩]
def F31o2 : List AOper := [⟨some 10, .t (.build [(.int .i64 0), (.int .i64 0), (.int .i64 0), (.str []), .nils, .nils] []), none⟩,⟨none, .m (.store 6 (.t 4) (.t 10)), none⟩,⟨some 5, .t (.mv (.c (.int .i64 18))), none⟩]
def F31o3 : List AOper := [⟨some 11, .m (.load true 7 (.t 2)), none⟩,⟨some 12, .m (.load true 6 (.t 3)), none⟩,⟨some 13, .call (.c (.clo 67 [] [])) [(.t 11), (.t 12)], none⟩,⟨some 14, .call (.c (.clo 66 [] [])) [(.t 13)], none⟩,⟨none, .m (.store 6 (.t 4) (.t 14)), none⟩,⟨some 5, .t (.mv (.c (.int .i64 0))), none⟩]
def F31c : ACode :=
(.seq (.ops F31o0 [2, 3, 4])
((.seq ((.seq (.ops F31o1 [2, 3, 4, 9])
(.cond (.t 9)
((.seq (.ops F31o2 [4, 5])
(.ret)))
(.skip))))
((.seq (.ops F31o3 [4, 5])
(.ret))))))
def F31 : AFn := ⟨15, [.cell 4 true 6, .tmp 5], F31c⟩
theorem F31_ok : cFn Tryd.prog [2, 3] 31 = some F31 := by kernel_rfl
def F32o0 : List AOper := [⟨some 2, .m (.cbox 62 (.t 0)), none⟩,⟨some 3, .m (.cbox 62 (.t 1)), none⟩,⟨some 4, .t (.mv (.c (.bool false))), none⟩]
def F32o1 : List AOper := [⟨some 7, .t (.faddr 0 (.t 2)), none⟩,⟨some 8, .m (.load false 1 (.t 7)), none⟩,⟨some 9, .t (.faddr 0 (.t 3)), none⟩,⟨some 10, .m (.load false 1 (.t 9)), none⟩,⟨some 11, .t (.bin .neq (.t 8) (.t 10)), none⟩,⟨some 12, .t (.mv (.t 11)), none⟩,⟨some 13, .t (.faddr 1 (.t 2)), (some (12, false))⟩,
  ⟨some 14, .m (.load false 1 (.t 13)), (some (12, false))⟩,
  ⟨some 15, .t (.faddr 1 (.t 3)), (some (12, false))⟩,
  ⟨some 16, .m (.load false 1 (.t 15)), (some (12, false))⟩,
  ⟨some 17, .t (.bin .neq (.t 14) (.t 16)), (some (12, false))⟩,
  ⟨some 18, .t (.pick (.t 12) (.c (.bool true)) (.t 17)), none⟩,⟨some 19, .t (.mv (.t 18)), none⟩,⟨some 20, .t (.faddr 2 (.t 2)), (some (19, false))⟩,
  ⟨some 21, .m (.load false 1 (.t 20)), (some (19, false))⟩,
  ⟨some 22, .t (.faddr 2 (.t 3)), (some (19, false))⟩,
  ⟨some 23, .m (.load false 1 (.t 22)), (some (19, false))⟩,
  ⟨some 24, .t (.bin .neq (.t 21) (.t 23)), (some (19, false))⟩,
  ⟨some 25, .t (.pick (.t 19) (.c (.bool true)) (.t 24)), none⟩,⟨some 26, .t (.mv (.t 25)), none⟩,⟨some 27, .t (.faddr 3 (.t 2)), (some (26, false))⟩,
  ⟨some 28, .m (.load false 1 (.t 27)), (some (26, false))⟩,
  ⟨some 29, .t (.faddr 3 (.t 3)), (some (26, false))⟩,
  ⟨some 30, .m (.load false 1 (.t 29)), (some (26, false))⟩,
  ⟨some 31, .t (.bin .neq (.t 28) (.t 30)), (some (26, false))⟩,
  ⟨some 32, .t (.pick (.t 26) (.c (.bool true)) (.t 31)), none⟩,⟨some 33, .t (.mv (.t 32)), none⟩,⟨some 34, .t (.faddr 4 (.t 2)), (some (33, false))⟩,
  ⟨some 35, .m (.load false 1 (.t 34)), (some (33, false))⟩,
  ⟨some 36, .t (.len false (.t 35)), (some (33, false))⟩,
  ⟨some 37, .t (.faddr 4 (.t 3)), (some (33, false))⟩,
  ⟨some 38, .m (.load false 1 (.t 37)), (some (33, false))⟩,
  ⟨some 39, .t (.len false (.t 38)), (some (33, false))⟩,
  ⟨some 40, .t (.bin .neq (.t 36) (.t 39)), (some (33, false))⟩,
  ⟨some 41, .t (.pick (.t 33) (.c (.bool true)) (.t 40)), none⟩,⟨some 42, .t (.mv (.t 41)), none⟩,⟨some 43, .t (.faddr 5 (.t 2)), (some (42, false))⟩,
  ⟨some 44, .m (.load false 1 (.t 43)), (some (42, false))⟩,
  ⟨some 45, .t (.len false (.t 44)), (some (42, false))⟩,
  ⟨some 46, .t (.faddr 5 (.t 3)), (some (42, false))⟩,
  ⟨some 47, .m (.load false 1 (.t 46)), (some (42, false))⟩,
  ⟨some 48, .t (.len false (.t 47)), (some (42, false))⟩,
  ⟨some 49, .t (.bin .neq (.t 45) (.t 48)), (some (42, false))⟩,
  ⟨some 50, .t (.pick (.t 42) (.c (.bool true)) (.t 49)), none⟩]
def F32o2 : List AOper := [⟨some 4, .t (.mv (.c (.bool false))), none⟩]
def F32o3 : List AOper := [⟨some 5, .t (.mv (.c (.int .i64 0))), none⟩]
def F32o4 : List AOper := [⟨some 51, .t (.mv (.t 5)), none⟩,⟨some 52, .t (.faddr 4 (.t 2)), none⟩,⟨some 53, .m (.load false 1 (.t 52)), none⟩,⟨some 54, .t (.len false (.t 53)), none⟩,⟨some 55, .t (.bin .lss (.t 51) (.t 54)), none⟩]
def F32o5 : List AOper := [⟨some 58, .t (.faddr 4 (.t 2)), none⟩,⟨some 59, .m (.load false 1 (.t 58)), none⟩,⟨some 60, .t (.mv (.t 5)), none⟩,⟨some 61, .t (.iaddr 6 (.t 59) (.t 60)), none⟩,⟨some 62, .m (.load true 6 (.t 61)), none⟩,⟨some 63, .t (.faddr 4 (.t 3)), none⟩,⟨some 64, .m (.load false 1 (.t 63)), none⟩,⟨some 65, .t (.mv (.t 5)), none⟩,⟨some 66, .t (.iaddr 6 (.t 64) (.t 65)), none⟩,⟨some 67, .m (.load true 6 (.t 66)), none⟩]
def F32p5 : List AOper := [⟨some 68, .call (.c (.clo 32 [] [])) [(.t 62), (.t 67)], none⟩,⟨some 69, .t (.not (.t 68)), none⟩]
def F32A5 : List (List Nat) := [[], [0], [], [1, 2, 0], [3, 1, 2, 0], [], [5], [], [6, 7, 5], [8, 6, 7, 5], [4, 9, 3, 1, 2, 0, 8, 6, 7, 5], [10, 4, 9, 3, 1, 2, 0, 8, 6, 7, 5]]
def F32o6 : List AOper := [⟨some 4, .t (.mv (.c (.bool false))), none⟩]
def F32o7 : List AOper := [⟨some 56, .t (.mv (.t 5)), none⟩,⟨some 57, .t (.bin .add (.t 56) (.c (.int .i64 1))), none⟩,⟨some 5, .t (.mv (.t 57)), none⟩]
def F32b8 : ACode :=
(.seq ((.seq (.ops F32o4 [2, 3, 5, 55])
(.cond (.t 55)
(.skip)
(.exit 0))))
((.seq (.block 1 ((.seq (.draw F32A5 F32o5 F32p5 [2, 3, 5, 69])
(.cond (.t 69)
((.seq (.ops F32o6 [4])
(.ret)))
(.skip)))))
(.ops F32o7 [2, 3, 5]))))
def F32o9 : List AOper := [⟨some 6, .t (.mv (.c (.int .i64 0))), none⟩]
def F32o10 : List AOper := [⟨some 70, .t (.mv (.t 6)), none⟩,⟨some 71, .t (.faddr 5 (.t 2)), none⟩,⟨some 72, .m (.load false 1 (.t 71)), none⟩,⟨some 73, .t (.len false (.t 72)), none⟩,⟨some 74, .t (.bin .lss (.t 70) (.t 73)), none⟩]
def F32o11 : List AOper := [⟨some 77, .t (.faddr 5 (.t 2)), none⟩,⟨some 78, .m (.load false 1 (.t 77)), none⟩,⟨some 79, .t (.mv (.t 6)), none⟩,⟨some 80, .t (.iaddr 7 (.t 78) (.t 79)), none⟩,⟨some 81, .t (.faddr 0 (.t 80)), none⟩,⟨some 82, .m (.load false 1 (.t 81)), none⟩,⟨some 83, .t (.faddr 5 (.t 3)), none⟩,⟨some 84, .m (.load false 1 (.t 83)), none⟩,⟨some 85, .t (.mv (.t 6)), none⟩,⟨some 86, .t (.iaddr 7 (.t 84) (.t 85)), none⟩,⟨some 87, .t (.faddr 0 (.t 86)), none⟩,⟨some 88, .m (.load false 1 (.t 87)), none⟩,⟨some 89, .t (.bin .neq (.t 82) (.t 88)), none⟩,⟨some 90, .t (.mv (.t 89)), none⟩,⟨some 91, .t (.faddr 5 (.t 2)), (some (90, false))⟩,
  ⟨some 92, .m (.load false 1 (.t 91)), (some (90, false))⟩,
  ⟨some 93, .t (.mv (.t 6)), (some (90, false))⟩,
  ⟨some 94, .t (.iaddr 7 (.t 92) (.t 93)), (some (90, false))⟩,
  ⟨some 95, .t (.faddr 1 (.t 94)), (some (90, false))⟩,
  ⟨some 96, .m (.load true 6 (.t 95)), (some (90, false))⟩,
  ⟨some 97, .t (.faddr 5 (.t 3)), (some (90, false))⟩,
  ⟨some 98, .m (.load false 1 (.t 97)), (some (90, false))⟩,
  ⟨some 99, .t (.mv (.t 6)), (some (90, false))⟩,
  ⟨some 100, .t (.iaddr 7 (.t 98) (.t 99)), (some (90, false))⟩,
  ⟨some 101, .t (.faddr 1 (.t 100)), (some (90, false))⟩,
  ⟨some 102, .m (.load true 6 (.t 101)), (some (90, false))⟩]
def F32p11 : List AOper := [⟨some 103, .call (.c (.clo 32 [] [])) [(.t 96), (.t 102)], (some (90, false))⟩,
  ⟨some 104, .t (.not (.t 103)), (some (90, false))⟩,
  ⟨some 105, .t (.pick (.t 90) (.c (.bool true)) (.t 104)), none⟩]
def F32A11 : List (List Nat) := [[], [0], [], [1, 2, 0], [3, 1, 2, 0], [4, 3, 1, 2, 0], [], [6], [], [7, 8, 6], [9, 7, 8, 6], [10, 9, 7, 8, 6], [5, 11, 4, 3, 1, 2, 0, 10, 9, 7, 8, 6], [12, 5, 11, 4, 3, 1, 2, 0, 10, 9, 7, 8, 6], [13, 12, 5, 11, 4, 3, 1, 2, 0, 10, 9, 7, 8, 6], [14, 13, 12, 5, 11, 4, 3, 1, 2, 0, 10, 9, 7, 8, 6], [13, 12, 5, 11, 4, 3, 1, 2, 0, 10, 9, 7, 8, 6], [15, 16, 14, 13, 12, 5, 11, 4, 3, 1, 2, 0, 10, 9, 7, 8, 6], [17, 15, 16, 14, 13, 12, 5, 11, 4, 3, 1, 2, 0, 10, 9, 7, 8, 6], [18, 17, 15, 16, 14, 13, 12, 5, 11, 4, 3, 1, 2, 0, 10, 9, 7, 8, 6], [13, 12, 5, 11, 4, 3, 1, 2, 0, 10, 9, 7, 8, 6], [20, 13, 12, 5, 11, 4, 3, 1, 2, 0, 10, 9, 7, 8, 6], [13, 12, 5, 11, 4, 3, 1, 2, 0, 10, 9, 7, 8, 6], [21, 22, 20, 13, 12, 5, 11, 4, 3, 1, 2, 0, 10, 9, 7, 8, 6], [23, 21, 22, 20, 13, 12, 5, 11, 4, 3, 1, 2, 0, 10, 9, 7, 8, 6], [24, 23, 21, 22, 20, 13, 12, 5, 11, 4, 3, 1, 2, 0, 10, 9, 7, 8, 6], [19, 25, 18, 17, 15, 16, 14, 24, 23, 21, 22, 20, 13, 12, 5, 11, 4, 3, 1, 2, 0, 10, 9, 7, 8, 6], [26, 19, 25, 18, 17, 15, 16, 14, 24, 23, 21, 22, 20, 13, 12, 5, 11, 4, 3, 1, 2, 0, 10, 9, 7, 8, 6], [27, 26, 19, 25, 18, 17, 15, 16, 14, 24, 23, 21, 22, 20, 13, 12, 5, 11, 4, 3, 1, 2, 0, 10, 9, 7, 8, 6]]
def F32o12 : List AOper := [⟨some 4, .t (.mv (.c (.bool false))), none⟩]
def F32o13 : List AOper := [⟨some 75, .t (.mv (.t 6)), none⟩,⟨some 76, .t (.bin .add (.t 75) (.c (.int .i64 1))), none⟩,⟨some 6, .t (.mv (.t 76)), none⟩]
def F32b14 : ACode :=
(.seq ((.seq (.ops F32o10 [2, 3, 6, 74])
(.cond (.t 74)
(.skip)
(.exit 2))))
((.seq (.block 3 ((.seq (.draw F32A11 F32o11 F32p11 [2, 3, 6, 105])
(.cond (.t 105)
((.seq (.ops F32o12 [4])
(.ret)))
(.skip)))))
(.ops F32o13 [2, 3, 6]))))
def F32o15 : List AOper := [⟨some 4, .t (.mv (.c (.bool true))), none⟩]
def F32c : ACode :=
(.seq (.ops F32o0 [2, 3])
((.seq ((.seq (.ops F32o1 [2, 3, 50])
(.cond (.t 50)
((.seq (.ops F32o2 [4])
(.ret)))
(.skip))))
((.seq ((.seq (.ops F32o3 [2, 3, 5])
(.block 0 (.loop [2, 3, 5] F32b8))))
((.seq ((.seq (.ops F32o9 [2, 3, 6])
(.block 2 (.loop [2, 3, 6] F32b14))))
((.seq (.ops F32o15 [4])
(.ret))))))))))
def F32 : AFn := ⟨106, [.tmp 4], F32c⟩
theorem F32_ok : cFn Tryd.prog [2, 3] 32 = some F32 := by kernel_rfl
def F34o0 : List AOper := [⟨some 1, .m (.cbox 58 (.t 0)), none⟩,⟨some 2, .t (.mv (.c (.bool false))), none⟩]
def F34o1 : List AOper := [⟨some 3, .t (.mv (.c (.int .i64 0))), none⟩]
def F34o2 : List AOper := [⟨some 6, .t (.mv (.t 3)), none⟩,⟨some 7, .t (.faddr 5 (.t 1)), none⟩,⟨some 8, .m (.load false 1 (.t 7)), none⟩,⟨some 9, .t (.len false (.t 8)), none⟩,⟨some 10, .t (.bin .lss (.t 6) (.t 9)), none⟩]
def F34o3 : List AOper := [⟨some 13, .t (.faddr 5 (.t 1)), none⟩,⟨some 14, .m (.load false 1 (.t 13)), none⟩,⟨some 15, .t (.mv (.t 3)), none⟩,⟨some 16, .t (.iaddr 7 (.t 14) (.t 15)), none⟩,⟨some 17, .m (.load true 7 (.t 16)), none⟩,⟨some 18, .call (.c (.clo 34 [] [])) [(.t 17)], none⟩,⟨some 19, .t (.not (.t 18)), none⟩]
def F34o4 : List AOper := [⟨some 2, .t (.mv (.c (.bool false))), none⟩]
def F34o5 : List AOper := [⟨some 11, .t (.mv (.t 3)), none⟩,⟨some 12, .t (.bin .add (.t 11) (.c (.int .i64 1))), none⟩,⟨some 3, .t (.mv (.t 12)), none⟩]
def F34b6 : ACode :=
(.seq ((.seq (.ops F34o2 [1, 3, 10])
(.cond (.t 10)
(.skip)
(.exit 0))))
((.seq (.block 1 ((.seq (.ops F34o3 [1, 3, 19])
(.cond (.t 19)
((.seq (.ops F34o4 [2])
(.ret)))
(.skip)))))
(.ops F34o5 [1, 3]))))
def F34o7 : List AOper := [⟨some 4, .t (.mv (.c (.int .i64 0))), none⟩]
def F34o8 : List AOper := [⟨some 20, .t (.mv (.t 4)), none⟩,⟨some 21, .t (.faddr 6 (.t 1)), none⟩,⟨some 22, .m (.load false 1 (.t 21)), none⟩,⟨some 23, .t (.len false (.t 22)), none⟩,⟨some 24, .t (.bin .lss (.t 20) (.t 23)), none⟩]
def F34o9 : List AOper := [⟨some 27, .t (.faddr 6 (.t 1)), none⟩,⟨some 28, .m (.load false 1 (.t 27)), none⟩,⟨some 29, .t (.mv (.t 4)), none⟩,⟨some 30, .t (.iaddr 11 (.t 28) (.t 29)), none⟩,⟨some 31, .t (.faddr 3 (.t 30)), none⟩,⟨some 32, .m (.load true 7 (.t 31)), none⟩,⟨some 33, .call (.c (.clo 34 [] [])) [(.t 32)], none⟩,⟨some 34, .t (.not (.t 33)), none⟩]
def F34o10 : List AOper := [⟨some 2, .t (.mv (.c (.bool false))), none⟩]
def F34o11 : List AOper := [⟨some 5, .t (.mv (.c (.int .i64 0))), none⟩]
def F34o12 : List AOper := [⟨some 35, .t (.mv (.t 5)), none⟩,⟨some 36, .t (.mv (.t 4)), none⟩,⟨some 37, .t (.bin .lss (.t 35) (.t 36)), none⟩]
def F34o13 : List AOper := [⟨some 40, .t (.faddr 6 (.t 1)), none⟩,⟨some 41, .m (.load false 1 (.t 40)), none⟩,⟨some 42, .t (.mv (.t 5)), none⟩,⟨some 43, .t (.iaddr 11 (.t 41) (.t 42)), none⟩,⟨some 44, .t (.faddr 1 (.t 43)), none⟩,⟨some 45, .m (.load false 1 (.t 44)), none⟩,⟨some 46, .t (.faddr 6 (.t 1)), none⟩,⟨some 47, .m (.load false 1 (.t 46)), none⟩,⟨some 48, .t (.mv (.t 4)), none⟩,⟨some 49, .t (.iaddr 11 (.t 47) (.t 48)), none⟩,⟨some 50, .t (.faddr 1 (.t 49)), none⟩,⟨some 51, .m (.load false 1 (.t 50)), none⟩]
def F34p13 : List AOper := [⟨some 52, .t (.bin .eql (.t 45) (.t 51)), none⟩]
def F34A13 : List (List Nat) := [[], [0], [], [1, 2, 0], [3, 1, 2, 0], [4, 3, 1, 2, 0], [], [6], [], [7, 8, 6], [9, 7, 8, 6], [10, 9, 7, 8, 6], [5, 11, 4, 3, 1, 2, 0, 10, 9, 7, 8, 6]]
def F34o14 : List AOper := [⟨some 2, .t (.mv (.c (.bool false))), none⟩]
def F34o15 : List AOper := [⟨some 38, .t (.mv (.t 5)), none⟩,⟨some 39, .t (.bin .add (.t 38) (.c (.int .i64 1))), none⟩,⟨some 5, .t (.mv (.t 39)), none⟩]
def F34b16 : ACode :=
(.seq ((.seq (.ops F34o12 [1, 4, 5, 37])
(.cond (.t 37)
(.skip)
(.exit 4))))
((.seq (.block 5 ((.seq (.draw F34A13 F34o13 F34p13 [1, 4, 5, 52])
(.cond (.t 52)
((.seq (.ops F34o14 [2])
(.ret)))
(.skip)))))
(.ops F34o15 [1, 4, 5]))))
def F34o17 : List AOper := [⟨some 25, .t (.mv (.t 4)), none⟩,⟨some 26, .t (.bin .add (.t 25) (.c (.int .i64 1))), none⟩,⟨some 4, .t (.mv (.t 26)), none⟩]
def F34b18 : ACode :=
(.seq ((.seq (.ops F34o8 [1, 4, 24])
(.cond (.t 24)
(.skip)
(.exit 2))))
((.seq (.block 3 ((.seq ((.seq (.ops F34o9 [1, 4, 34])
(.cond (.t 34)
((.seq (.ops F34o10 [2])
(.ret)))
(.skip))))
((.seq (.ops F34o11 [1, 4, 5])
(.block 4 (.loop [1, 4, 5] F34b16)))))))
(.ops F34o17 [1, 4]))))
def F34o19 : List AOper := [⟨some 2, .t (.mv (.c (.bool true))), none⟩]
def F34c : ACode :=
(.seq (.ops F34o0 [1])
((.seq ((.seq (.ops F34o1 [1, 3])
(.block 0 (.loop [1, 3] F34b6))))
((.seq ((.seq (.ops F34o7 [1, 4])
(.block 2 (.loop [1, 4] F34b18))))
((.seq (.ops F34o19 [2])
(.ret))))))))
def F34 : AFn := ⟨53, [.tmp 2], F34c⟩
theorem F34_ok : cFn Tryd.prog [1] 34 = some F34 := by kernel_rfl
def F35o0 : List AOper := [⟨some 2, .m (.cbox 58 (.t 0)), none⟩,⟨some 3, .m (.cbox 62 (.t 1)), none⟩,⟨some 4, .m (.alloc 62 [(.int .i64 0), (.int .i64 0), (.int .i64 0), (.str []), .nils, .nils]), none⟩,⟨some 5, .t (.mv (.c (.int .i64 0))), none⟩]
def F35o1 : List AOper := [⟨some 7, .m (.load true 7 (.t 2)), none⟩,⟨some 8, .m (.load true 6 (.t 3)), none⟩,⟨some 9, .call (.c (.clo 68 [] [])) [(.t 7), (.t 8)], none⟩,⟨some 6, .m (.alloc 62 [(.int .i64 0), (.int .i64 0), (.int .i64 0), (.str []), .nils, .nils]), none⟩,⟨none, .m (.store 6 (.t 6) (.t 9)), none⟩]
def F35o2 : List AOper := [⟨some 10, .m (.load true 7 (.t 2)), none⟩,⟨some 11, .m (.load true 6 (.t 6)), none⟩,⟨some 12, .call (.c (.clo 26 [] [])) [(.t 10), (.t 11)], none⟩,⟨some 13, .t (.not (.t 12)), none⟩]
def F35o3 : List AOper := [⟨some 14, .t (.build [(.int .i64 0), (.int .i64 0), (.int .i64 0), (.str []), .nils, .nils] []), none⟩,⟨none, .m (.store 6 (.t 4) (.t 14)), none⟩,⟨some 5, .t (.mv (.c (.int .i64 18))), none⟩]
def F35o4 : List AOper := [⟨some 15, .m (.load true 6 (.t 6)), none⟩,⟨some 16, .call (.c (.clo 66 [] [])) [(.t 15)], none⟩,⟨none, .m (.store 6 (.t 4) (.t 16)), none⟩,⟨some 5, .t (.mv (.c (.int .i64 0))), none⟩]
def F35c : ACode :=
(.seq (.ops F35o0 [2, 3, 4])
((.seq (.ops F35o1 [2, 4, 6])
((.seq ((.seq (.ops F35o2 [4, 6, 13])
(.cond (.t 13)
((.seq (.ops F35o3 [4, 5])
(.ret)))
(.skip))))
((.seq (.ops F35o4 [4, 5])
(.ret))))))))
def F35 : AFn := ⟨17, [.cell 4 true 6, .tmp 5], F35c⟩
theorem F35_ok : cFn Tryd.prog [2, 3] 35 = some F35 := by kernel_rfl
def F36o0 : List AOper := [⟨some 2, .m (.box 62 (.t 0)), none⟩,⟨some 4, .m (.alloc 62 [(.int .i64 0), (.int .i64 0), (.int .i64 0), (.str []), .nils, .nils]), none⟩]
def F36o1 : List AOper := [⟨some 9, .t (.faddr 3 (.t 2)), none⟩,⟨some 10, .m (.load false 1 (.t 9)), none⟩,⟨some 11, .t (.faddr 3 (.t 2)), none⟩,⟨some 12, .m (.load false 1 (.t 11)), none⟩,⟨some 13, .t (.len true (.t 12)), none⟩,⟨some 14, .t (.imin (.t 13) (.c (.int .i64 40))), none⟩,⟨some 15, .t (.sliceS (.t 10) none (some (.t 14))), none⟩,⟨some 16, .t (.faddr 3 (.t 2)), none⟩,⟨none, .m (.store 1 (.t 16) (.t 15)), none⟩]
def F36o2 : List AOper := [⟨some 5, .t (.mv (.c .nils)), none⟩]
def F36o3 : List AOper := [⟨some 6, .t (.mv (.c .nils)), none⟩]
def F36o4 : List AOper := [⟨some 7, .t (.mv (.c (.int .i64 0))), none⟩]
def F36o5 : List AOper := [⟨some 17, .t (.mv (.t 7)), none⟩,⟨some 18, .t (.faddr 4 (.t 2)), none⟩,⟨some 19, .m (.load false 1 (.t 18)), none⟩,⟨some 20, .t (.len false (.t 19)), none⟩,⟨some 21, .t (.bin .lss (.t 17) (.t 20)), none⟩,⟨some 22, .t (.mv (.t 21)), none⟩,⟨some 23, .t (.mv (.t 7)), (some (22, true))⟩,
  ⟨some 24, .t (.bin .lss (.t 23) (.c (.int .i64 6))), (some (22, true))⟩,
  ⟨some 25, .t (.pick (.t 22) (.t 24) (.c (.bool false))), none⟩,⟨some 26, .t (.mv (.t 25)), none⟩,⟨some 27, .t (.mv (.t 1)), (some (26, true))⟩,
  ⟨some 28, .t (.bin .gtr (.t 27) (.c (.int .i64 1))), (some (26, true))⟩,
  ⟨some 29, .t (.pick (.t 26) (.t 28) (.c (.bool false))), none⟩]
def F36o6 : List AOper := [⟨some 32, .t (.mv (.t 5)), none⟩,⟨some 33, .t (.faddr 4 (.t 2)), none⟩,⟨some 34, .m (.load false 1 (.t 33)), none⟩,⟨some 35, .t (.mv (.t 7)), none⟩,⟨some 36, .t (.iaddr 6 (.t 34) (.t 35)), none⟩,⟨some 37, .m (.load true 6 (.t 36)), none⟩,⟨some 38, .t (.mv (.t 1)), none⟩,⟨some 39, .t (.bin .sub (.t 38) (.c (.int .i64 1))), none⟩,⟨some 40, .call (.c (.clo 36 [] [])) [(.t 37), (.t 39)], none⟩,⟨some 41, .m (.bslice false 62 6 1 [(.t 40)]), none⟩,⟨some 42, .m (.append false 62 6 88 (.t 32) (.t 41)), none⟩,⟨some 5, .t (.mv (.t 42)), none⟩]
def F36o7 : List AOper := [⟨some 30, .t (.mv (.t 7)), none⟩,⟨some 31, .t (.bin .add (.t 30) (.c (.int .i64 1))), none⟩,⟨some 7, .t (.mv (.t 31)), none⟩]
def F36b8 : ACode :=
(.seq ((.seq (.ops F36o5 [1, 2, 4, 5, 6, 7, 29])
(.cond (.t 29)
(.skip)
(.exit 0))))
((.seq (.block 1 (.ops F36o6 [1, 2, 4, 5, 6, 7]))
(.ops F36o7 [1, 2, 4, 5, 6, 7]))))
def F36o9 : List AOper := [⟨some 8, .t (.mv (.c (.int .i64 0))), none⟩]
def F36o10 : List AOper := [⟨some 43, .t (.mv (.t 8)), none⟩,⟨some 44, .t (.faddr 5 (.t 2)), none⟩,⟨some 45, .m (.load false 1 (.t 44)), none⟩,⟨some 46, .t (.len false (.t 45)), none⟩,⟨some 47, .t (.bin .lss (.t 43) (.t 46)), none⟩,⟨some 48, .t (.mv (.t 47)), none⟩,⟨some 49, .t (.mv (.t 8)), (some (48, true))⟩,
  ⟨some 50, .t (.bin .lss (.t 49) (.c (.int .i64 6))), (some (48, true))⟩,
  ⟨some 51, .t (.pick (.t 48) (.t 50) (.c (.bool false))), none⟩,⟨some 52, .t (.mv (.t 51)), none⟩,⟨some 53, .t (.mv (.t 1)), (some (52, true))⟩,
  ⟨some 54, .t (.bin .gtr (.t 53) (.c (.int .i64 1))), (some (52, true))⟩,
  ⟨some 55, .t (.pick (.t 52) (.t 54) (.c (.bool false))), none⟩]
def F36o11 : List AOper := [⟨some 58, .t (.mv (.t 6)), none⟩,⟨some 59, .t (.faddr 5 (.t 2)), none⟩,⟨some 60, .m (.load false 1 (.t 59)), none⟩,⟨some 61, .t (.mv (.t 8)), none⟩,⟨some 62, .t (.iaddr 7 (.t 60) (.t 61)), none⟩,⟨some 63, .t (.faddr 0 (.t 62)), none⟩,⟨some 64, .m (.load false 1 (.t 63)), none⟩,⟨some 65, .t (.faddr 5 (.t 2)), none⟩,⟨some 66, .m (.load false 1 (.t 65)), none⟩,⟨some 67, .t (.mv (.t 8)), none⟩,⟨some 68, .t (.iaddr 7 (.t 66) (.t 67)), none⟩,⟨some 69, .t (.faddr 0 (.t 68)), none⟩,⟨some 70, .m (.load false 1 (.t 69)), none⟩,⟨some 71, .t (.len true (.t 70)), none⟩,⟨some 72, .t (.imin (.t 71) (.c (.int .i64 40))), none⟩,⟨some 73, .t (.sliceS (.t 64) none (some (.t 72))), none⟩,⟨some 74, .t (.faddr 5 (.t 2)), none⟩,⟨some 75, .m (.load false 1 (.t 74)), none⟩,⟨some 76, .t (.mv (.t 8)), none⟩,⟨some 77, .t (.iaddr 7 (.t 75) (.t 76)), none⟩,⟨some 78, .t (.faddr 1 (.t 77)), none⟩,⟨some 79, .m (.load true 6 (.t 78)), none⟩,⟨some 80, .t (.mv (.t 1)), none⟩,⟨some 81, .t (.bin .sub (.t 80) (.c (.int .i64 1))), none⟩,⟨some 82, .call (.c (.clo 36 [] [])) [(.t 79), (.t 81)], none⟩,⟨some 83, .t (.build [(.str []), (.int .i64 0), (.int .i64 0), (.int .i64 0), (.str []), .nils, .nils] [(0, 1, (.t 73)), (1, 6, (.t 82))]), none⟩,⟨some 84, .m (.bslice false 127 7 1 [(.t 83)]), none⟩]
def F36p11 : List AOper := [⟨some 85, .m (.append false 127 7 104 (.t 58) (.t 84)), none⟩,⟨some 6, .t (.mv (.t 85)), none⟩]
def F36A11 : List (List Nat) := [[], [], [1], [], [2, 3, 1], [4, 2, 3, 1], [5, 4, 2, 3, 1], [], [7], [], [8, 9, 7], [10, 8, 9, 7], [11, 10, 8, 9, 7], [12, 11, 10, 8, 9, 7], [13, 12, 11, 10, 8, 9, 7], [6, 14, 5, 4, 2, 3, 1, 13, 12, 11, 10, 8, 9, 7], [], [16], [], [17, 18, 16], [19, 17, 18, 16], [20, 19, 17, 18, 16], [], [22], [21, 23, 20, 19, 17, 18, 16, 22], [15, 24, 6, 14, 5, 4, 2, 3, 1, 13, 12, 11, 10, 8, 9, 7, 21, 23, 20, 19, 17, 18, 16, 22], [25, 15, 24, 6, 14, 5, 4, 2, 3, 1, 13, 12, 11, 10, 8, 9, 7, 21, 23, 20, 19, 17, 18, 16, 22], [0, 26, 25, 15, 24, 6, 14, 5, 4, 2, 3, 1, 13, 12, 11, 10, 8, 9, 7, 21, 23, 20, 19, 17, 18, 16, 22], [27, 0, 26, 25, 15, 24, 6, 14, 5, 4, 2, 3, 1, 13, 12, 11, 10, 8, 9, 7, 21, 23, 20, 19, 17, 18, 16, 22]]
def F36o12 : List AOper := [⟨some 56, .t (.mv (.t 8)), none⟩,⟨some 57, .t (.bin .add (.t 56) (.c (.int .i64 1))), none⟩,⟨some 8, .t (.mv (.t 57)), none⟩]
def F36b13 : ACode :=
(.seq ((.seq (.ops F36o10 [1, 2, 4, 5, 6, 8, 55])
(.cond (.t 55)
(.skip)
(.exit 2))))
((.seq (.block 3 (.draw F36A11 F36o11 F36p11 [1, 2, 4, 5, 6, 8]))
(.ops F36o12 [1, 2, 4, 5, 6, 8]))))
def F36o14 : List AOper := [⟨some 86, .t (.mv (.t 5)), none⟩,⟨some 87, .t (.mv (.t 6)), none⟩,⟨some 88, .t (.faddr 4 (.t 2)), none⟩,⟨none, .m (.store 1 (.t 88) (.t 86)), none⟩,⟨some 89, .t (.faddr 5 (.t 2)), none⟩,⟨none, .m (.store 1 (.t 89) (.t 87)), none⟩]
def F36o15 : List AOper := [⟨some 90, .m (.load true 6 (.t 2)), none⟩,⟨none, .m (.store 6 (.t 4) (.t 90)), none⟩]
def F36c : ACode :=
(.seq (.ops F36o0 [1, 2, 4])
((.seq (.ops F36o1 [1, 2, 4])
((.seq (.ops F36o2 [1, 2, 4, 5])
((.seq (.ops F36o3 [1, 2, 4, 5, 6])
((.seq ((.seq (.ops F36o4 [1, 2, 4, 5, 6, 7])
(.block 0 (.loop [1, 2, 4, 5, 6, 7] F36b8))))
((.seq ((.seq (.ops F36o9 [1, 2, 4, 5, 6, 8])
(.block 2 (.loop [1, 2, 4, 5, 6, 8] F36b13))))
((.seq (.ops F36o14 [2, 4])
((.seq (.ops F36o15 [4])
(.ret))))))))))))))))
def F36 : AFn := ⟨91, [.cell 4 true 6], F36c⟩
theorem F36_ok : cFn Tryd.prog [] 36 = some F36 := by kernel_rfl
def F55o0 : List AOper := [⟨some 2, .m (.cbox 71 (.t 0)), none⟩,⟨some 3, .t (.mv (.c (.bool false))), none⟩]
def F55o1 : List AOper := [⟨some 4, .m (.load false 1 (.t 1)), none⟩,⟨some 5, .m (.load true 2 (.t 2)), none⟩,⟨some 6, .m (.bslice false 71 2 1 [(.t 5)]), none⟩,⟨some 7, .m (.append false 71 2 24 (.t 4) (.t 6)), none⟩,⟨none, .m (.store 1 (.t 1) (.t 7)), none⟩]
def F55o2 : List AOper := [⟨some 8, .m (.load false 1 (.t 1)), none⟩,⟨some 9, .t (.len false (.t 8)), none⟩,⟨some 10, .t (.bin .lss (.t 9) (.c (.int .i64 64))), none⟩,⟨some 3, .t (.mv (.t 10)), none⟩]
def F55c : ACode :=
(.seq (.ops F55o0 [1, 2])
((.seq (.ops F55o1 [1])
((.seq (.ops F55o2 [3])
(.ret))))))
def F55 : AFn := ⟨11, [.tmp 3], F55c⟩
theorem F55_ok : cFn Tryd.prog [2] 55 = some F55 := by kernel_rfl
def F56o0 : List AOper := [⟨some 5, .m (.cbox 58 (.t 1)), none⟩,⟨some 6, .m (.cbox 62 (.t 2)), none⟩]
def F56o1 : List AOper := [⟨some 14, .t (.mv (.t 0)), none⟩,⟨some 15, .t (.nilck (.t 14)), none⟩,⟨some 16, .t (.faddr 1 (.t 15)), none⟩,⟨some 17, .m (.load false 1 (.t 16)), none⟩,⟨some 13, .t (.mv (.t 17)), none⟩]
def F56o2 : List AOper := [⟨some 19, .t (.faddr 0 (.t 5)), none⟩,⟨some 20, .m (.load false 1 (.t 19)), none⟩,⟨some 21, .t (.bin .lss (.t 20) (.c (.int .i64 1))), none⟩,⟨some 22, .t (.mv (.t 21)), none⟩,⟨some 23, .t (.faddr 0 (.t 5)), (some (22, false))⟩,
  ⟨some 24, .m (.load false 1 (.t 23)), (some (22, false))⟩,
  ⟨some 25, .t (.bin .gtr (.t 24) (.c (.int .i64 10))), (some (22, false))⟩,
  ⟨some 26, .t (.pick (.t 22) (.c (.bool true)) (.t 25)), none⟩,⟨some 27, .t (.mv (.t 26)), none⟩,⟨some 28, .t (.faddr 0 (.t 6)), (some (27, false))⟩,
  ⟨some 29, .m (.load false 1 (.t 28)), (some (27, false))⟩,
  ⟨some 30, .t (.faddr 0 (.t 5)), (some (27, false))⟩,
  ⟨some 31, .m (.load false 1 (.t 30)), (some (27, false))⟩,
  ⟨some 32, .t (.bin .neq (.t 29) (.t 31)), (some (27, false))⟩,
  ⟨some 33, .t (.pick (.t 27) (.c (.bool true)) (.t 32)), none⟩,⟨some 18, .t (.mv (.t 33)), none⟩]
def F56o3 : List AOper := [⟨some 34, .t (.mv (.t 0)), none⟩,⟨some 35, .t (.mv (.t 3)), none⟩,⟨some 36, .call (.c (.clo 83 [] [])) [(.t 34), (.t 35), (.c (.int .i64 1))], none⟩]
def F56o4 : List AOper := [⟨some 38, .m (.load true 6 (.t 6)), none⟩,⟨some 39, .call (.c (.clo 84 [] [])) [(.t 38)], none⟩,⟨some 40, .t (.not (.t 39)), none⟩,⟨some 37, .t (.mv (.t 40)), none⟩]
def F56o5 : List AOper := [⟨some 41, .t (.mv (.t 0)), none⟩,⟨some 42, .t (.mv (.t 3)), none⟩,⟨some 43, .call (.c (.clo 83 [] [])) [(.t 41), (.t 42), (.c (.int .i64 8))], none⟩]
def F56o6 : List AOper := [⟨some 44, .t (.faddr 0 (.t 5)), none⟩,⟨some 45, .m (.load false 1 (.t 44)), none⟩]
def F56o7 : List AOper := [⟨some 47, .t (.bin .eql (.t 45) (.c (.int .i64 2))), none⟩,⟨some 46, .t (.mv (.t 47)), none⟩]
def F56o8 : List AOper := [⟨some 48, .t (.bin .eql (.t 45) (.c (.int .i64 6))), none⟩,⟨some 46, .t (.mv (.t 48)), none⟩]
def F56o9 : List AOper := [⟨some 49, .t (.bin .eql (.t 45) (.c (.int .i64 7))), none⟩,⟨some 46, .t (.mv (.t 49)), none⟩]
def F56o10 : List AOper := [⟨some 50, .t (.mv (.t 0)), none⟩,⟨some 51, .m (.load true 7 (.t 5)), none⟩,⟨some 52, .t (.mv (.t 3)), none⟩,⟨some 53, .t (.faddr 1 (.t 6)), none⟩,⟨some 54, .m (.load false 1 (.t 53)), none⟩,⟨some 55, .call (.c (.clo 85 [] [])) [(.t 50), (.t 51), (.t 52), (.t 54)], none⟩]
def F56o11 : List AOper := [⟨some 57, .t (.bin .eql (.t 45) (.c (.int .i64 3))), none⟩,⟨some 56, .t (.mv (.t 57)), none⟩]
def F56o12 : List AOper := [⟨some 58, .t (.faddr 2 (.t 6)), none⟩,⟨some 59, .m (.load false 1 (.t 58)), none⟩,⟨some 60, .t (.faddr 3 (.t 5)), none⟩,⟨some 61, .m (.load false 1 (.t 60)), none⟩,⟨some 62, .t (.bin .neq (.t 59) (.t 61)), none⟩]
def F56o13 : List AOper := [⟨some 63, .t (.mv (.t 0)), none⟩,⟨some 64, .t (.mv (.t 3)), none⟩,⟨some 65, .call (.c (.clo 83 [] [])) [(.t 63), (.t 64), (.c (.int .i64 3))], none⟩]
def F56o14 : List AOper := [⟨some 66, .t (.mv (.t 0)), none⟩,⟨some 67, .m (.load true 7 (.t 5)), none⟩,⟨some 68, .t (.mv (.t 3)), none⟩,⟨some 69, .t (.faddr 1 (.t 6)), none⟩,⟨some 70, .m (.load false 1 (.t 69)), none⟩,⟨some 71, .call (.c (.clo 85 [] [])) [(.t 66), (.t 67), (.t 68), (.t 70)], none⟩]
def F56o15 : List AOper := [⟨some 73, .t (.bin .eql (.t 45) (.c (.int .i64 4))), none⟩,⟨some 72, .t (.mv (.t 73)), none⟩]
def F56o16 : List AOper := [⟨some 74, .t (.bin .eql (.t 45) (.c (.int .i64 5))), none⟩,⟨some 72, .t (.mv (.t 74)), none⟩]
def F56o17 : List AOper := [⟨some 75, .t (.faddr 0 (.t 5)), none⟩,⟨some 76, .m (.load false 1 (.t 75)), none⟩,⟨some 77, .t (.bin .eql (.t 76) (.c (.int .i64 4))), none⟩,⟨some 78, .t (.mv (.t 77)), none⟩,⟨some 79, .t (.faddr 4 (.t 5)), (some (78, true))⟩,
  ⟨some 80, .m (.load false 1 (.t 79)), (some (78, true))⟩,
  ⟨some 81, .t (.len false (.t 80)), (some (78, true))⟩,
  ⟨some 82, .t (.bin .gtr (.t 81) (.c (.int .i64 0))), (some (78, true))⟩,
  ⟨some 83, .t (.pick (.t 78) (.t 82) (.c (.bool false))), none⟩]
def F56o18 : List AOper := [⟨some 84, .t (.faddr 4 (.t 5)), none⟩,⟨some 85, .m (.load false 1 (.t 84)), none⟩,⟨some 86, .t (.faddr 3 (.t 6)), none⟩,⟨some 87, .m (.load false 1 (.t 86)), none⟩,⟨some 88, .call (.c (.clo 86 [] [])) [(.t 85), (.t 87)], none⟩,⟨some 89, .t (.not (.t 88)), none⟩]
def F56o19 : List AOper := [⟨some 90, .t (.mv (.t 0)), none⟩,⟨some 91, .t (.mv (.t 3)), none⟩,⟨some 92, .call (.c (.clo 83 [] [])) [(.t 90), (.t 91), (.c (.int .i64 4))], none⟩]
def F56o20 : List AOper := [⟨some 93, .t (.mv (.t 0)), none⟩,⟨some 94, .m (.load true 7 (.t 5)), none⟩,⟨some 95, .t (.mv (.t 3)), none⟩,⟨some 96, .t (.faddr 3 (.t 6)), none⟩,⟨some 97, .m (.load false 1 (.t 96)), none⟩,⟨some 98, .t (.len true (.t 97)), none⟩,⟨some 99, .call (.c (.clo 85 [] [])) [(.t 93), (.t 94), (.t 95), (.t 98)], none⟩]
def F56o21 : List AOper := [⟨some 101, .t (.bin .eql (.t 45) (.c (.int .i64 8))), none⟩,⟨some 100, .t (.mv (.t 101)), none⟩]
def F56o22 : List AOper := [⟨some 102, .t (.mv (.t 0)), none⟩,⟨some 103, .m (.load true 7 (.t 5)), none⟩,⟨some 104, .t (.mv (.t 3)), none⟩,⟨some 105, .t (.faddr 4 (.t 6)), none⟩,⟨some 106, .m (.load false 1 (.t 105)), none⟩,⟨some 107, .t (.len false (.t 106)), none⟩,⟨some 108, .call (.c (.clo 85 [] [])) [(.t 102), (.t 103), (.t 104), (.t 107)], none⟩]
def F56o23 : List AOper := [⟨some 109, .t (.faddr 4 (.t 6)), none⟩,⟨some 110, .m (.load false 1 (.t 109)), none⟩,⟨some 111, .t (.len false (.t 110)), none⟩,⟨some 112, .t (.mv (.c (.int .i64 0))), none⟩]
def F56o24 : List AOper := [⟨some 113, .t (.bin .lss (.t 112) (.t 111)), none⟩]
def F56o25 : List AOper := [⟨some 114, .t (.mv (.t 112)), none⟩,⟨some 115, .t (.iaddr 6 (.t 110) (.t 112)), none⟩,⟨some 116, .m (.load true 6 (.t 115)), none⟩,⟨some 9, .m (.alloc 62 [(.int .i64 0), (.int .i64 0), (.int .i64 0), (.str []), .nils, .nils]), none⟩,⟨some 8, .t (.mv (.t 114)), none⟩,⟨none, .m (.store 6 (.t 9) (.t 116)), none⟩]
def F56o26 : List AOper := [⟨some 117, .t (.mv (.t 3)), none⟩,⟨some 118, .t (.bin .add (.t 117) (.c (.str [91]))), none⟩,⟨some 119, .t (.mv (.t 8)), none⟩,⟨some 120, .call (.c (.clo 87 [] [])) [(.t 119)], none⟩,⟨some 121, .t (.bin .add (.t 118) (.t 120)), none⟩,⟨some 122, .t (.bin .add (.t 121) (.c (.str [93]))), none⟩,⟨some 10, .t (.mv (.t 122)), none⟩]
def F56o27 : List AOper := [⟨some 123, .t (.faddr 5 (.t 5)), none⟩,⟨some 124, .m (.load false 1 (.t 123)), none⟩,⟨some 125, .t (.len false (.t 124)), none⟩,⟨some 126, .t (.bin .eql (.t 125) (.c (.int .i64 1))), none⟩]
def F56o28 : List AOper := [⟨some 127, .t (.mv (.t 0)), none⟩,⟨some 128, .t (.faddr 5 (.t 5)), none⟩,⟨some 129, .m (.load false 1 (.t 128)), none⟩,⟨some 130, .t (.iaddr 7 (.t 129) (.c (.int .i64 0))), none⟩,⟨some 131, .m (.load true 7 (.t 130)), none⟩,⟨some 132, .m (.load true 6 (.t 9)), none⟩,⟨some 133, .t (.mv (.t 10)), none⟩]
def F56p28 : List AOper := [⟨some 134, .call (.c (.clo 56 [] [])) [(.t 127), (.t 131), (.t 132), (.t 133)], none⟩]
def F56A28 : List (List Nat) := [[], [], [1], [2, 1], [3, 2, 1], [], [], [0, 4, 5, 6, 3, 2, 1]]
def F56o29 : List AOper := [⟨some 135, .t (.mv (.t 0)), none⟩,⟨some 136, .t (.mv (.t 10)), none⟩,⟨some 137, .call (.c (.clo 83 [] [])) [(.t 135), (.t 136), (.c (.int .i64 1))], none⟩]
def F56o30 : List AOper := [⟨some 138, .t (.bin .add (.t 112) (.c (.int .i64 1))), none⟩,⟨some 112, .t (.mv (.t 138)), none⟩]
def F56b31 : ACode :=
(.seq (.ops F56o24 [0, 3, 5, 110, 111, 112, 113])
((.seq (.cond (.t 113)
(.skip)
(.exit 2))
((.seq (.block 3 ((.seq (.ops F56o25 [0, 3, 5, 8, 9, 110, 111, 112])
((.seq (.ops F56o26 [0, 3, 5, 9, 10, 110, 111, 112])
((.seq (.ops F56o27 [0, 3, 5, 9, 10, 110, 111, 112, 126])
(.cond (.t 126)
(.draw F56A28 F56o28 F56p28 [0, 3, 5, 110, 111, 112])
(.ops F56o29 [0, 3, 5, 110, 111, 112])))))))))
(.ops F56o30 [0, 3, 5, 110, 111, 112]))))))
def F56o32 : List AOper := [⟨some 140, .t (.bin .eql (.t 45) (.c (.int .i64 9))), none⟩,⟨some 139, .t (.mv (.t 140)), none⟩]
def F56o33 : List AOper := [⟨some 141, .t (.mv (.t 0)), none⟩,⟨some 142, .m (.load true 7 (.t 5)), none⟩,⟨some 143, .m (.load true 6 (.t 6)), none⟩,⟨some 144, .t (.mv (.t 3)), none⟩,⟨some 145, .call (.c (.clo 88 [] [])) [(.t 141), (.t 142), (.t 143), (.t 144)], none⟩]
def F56o34 : List AOper := [⟨some 147, .t (.bin .eql (.t 45) (.c (.int .i64 10))), none⟩,⟨some 146, .t (.mv (.t 147)), none⟩]
def F56o35 : List AOper := [⟨some 149, .m (.load true 7 (.t 5)), none⟩,⟨some 150, .t (.faddr 3 (.t 6)), none⟩,⟨some 151, .m (.load false 1 (.t 150)), none⟩,⟨some 152, .call (.c (.clo 89 [] [])) [(.t 149), (.t 151)], none⟩,⟨some 148, .t (.mv (.t 152)), none⟩,⟨some 153, .t (.ext (.t 148) 0), none⟩,⟨some 154, .t (.ext (.t 148) 1), none⟩,⟨some 11, .m (.alloc 79 [(.int .i64 0), (.str []), (.int .i64 0), (.int .i64 0), (.int .i64 0), (.int .i64 0), (.int .i64 0), .nils, .nils, .nils, .nils]), none⟩,⟨none, .m (.store 11 (.t 11) (.t 153)), none⟩,⟨some 12, .t (.mv (.t 154)), none⟩]
def F56o36 : List AOper := [⟨some 155, .t (.mv (.t 12)), none⟩]
def F56o37 : List AOper := [⟨some 156, .t (.mv (.t 0)), none⟩,⟨some 157, .t (.faddr 3 (.t 11)), none⟩,⟨some 158, .m (.load true 7 (.t 157)), none⟩,⟨some 159, .t (.faddr 4 (.t 6)), none⟩,⟨some 160, .m (.load false 1 (.t 159)), none⟩,⟨some 161, .t (.iaddr 6 (.t 160) (.c (.int .i64 0))), none⟩,⟨some 162, .m (.load true 6 (.t 161)), none⟩,⟨some 163, .t (.mv (.t 3)), none⟩,⟨some 164, .t (.bin .add (.t 163) (.c (.str [63]))), none⟩,⟨some 165, .t (.faddr 3 (.t 6)), none⟩,⟨some 166, .m (.load false 1 (.t 165)), none⟩,⟨some 167, .t (.bin .add (.t 164) (.t 166)), none⟩]
def F56p37 : List AOper := [⟨some 168, .call (.c (.clo 56 [] [])) [(.t 156), (.t 158), (.t 162), (.t 167)], none⟩]
def F56A37 : List (List Nat) := [[], [], [1], [], [3], [4, 3], [5, 4, 3], [], [7], [], [9], [8, 10, 7, 9], [0, 2, 6, 11, 1, 5, 4, 3, 8, 10, 7, 9]]
def F56o38 : List AOper := [⟨some 169, .t (.mv (.t 0)), none⟩,⟨some 170, .t (.mv (.t 3)), none⟩,⟨some 171, .call (.c (.clo 83 [] [])) [(.t 169), (.t 170), (.c (.int .i64 7))], none⟩]
def F56c : ACode :=
(.seq (.ops F56o0 [0, 3, 5, 6])
((.seq (.block 0 ((.seq (.ops F56o1 [0, 3, 5, 6, 13])
(.cond (.t 13)
(.ret)
((.seq (.ops F56o2 [0, 3, 5, 6, 18])
(.cond (.t 18)
((.seq (.ops F56o3 [])
(.ret)))
((.seq (.ops F56o4 [0, 3, 5, 6, 37])
(.cond (.t 37)
((.seq (.ops F56o5 [])
(.ret)))
(.skip)))))))))))
((.seq (.ops F56o6 [0, 3, 5, 6, 45])
(.block 1 ((.seq ((.seq (.ops F56o7 [0, 3, 5, 6, 45, 46])
(.cond (.t 46)
(.skip)
((.seq (.ops F56o8 [0, 3, 5, 6, 45, 46])
(.cond (.t 46)
(.skip)
(.ops F56o9 [0, 3, 5, 6, 45, 46])))))))
(.cond (.t 46)
(.ops F56o10 [])
((.seq (.ops F56o11 [0, 3, 5, 6, 45, 56])
(.cond (.t 56)
((.seq (.ops F56o12 [0, 3, 5, 6, 62])
(.cond (.t 62)
(.ops F56o13 [])
(.ops F56o14 []))))
((.seq ((.seq (.ops F56o15 [0, 3, 5, 6, 45, 72])
(.cond (.t 72)
(.skip)
(.ops F56o16 [0, 3, 5, 6, 45, 72]))))
(.cond (.t 72)
((.seq (.ops F56o17 [0, 3, 5, 6, 83])
(.cond (.t 83)
((.seq (.ops F56o18 [0, 3, 89])
(.cond (.t 89)
(.ops F56o19 [])
(.skip))))
(.ops F56o20 []))))
((.seq (.ops F56o21 [0, 3, 5, 6, 45, 100])
(.cond (.t 100)
((.seq (.ops F56o22 [0, 3, 5, 6])
((.seq (.ops F56o23 [0, 3, 5, 110, 111, 112])
(.block 2 (.loop [0, 3, 5, 110, 111, 112] F56b31))))))
((.seq (.ops F56o32 [0, 3, 5, 6, 45, 139])
(.cond (.t 139)
(.ops F56o33 [])
((.seq (.ops F56o34 [0, 3, 5, 6, 146])
(.cond (.t 146)
((.seq (.ops F56o35 [0, 3, 6, 11, 12])
((.seq (.ops F56o36 [0, 3, 6, 11, 155])
(.cond (.t 155)
(.draw F56A37 F56o37 F56p37 [])
(.ops F56o38 []))))))
(.skip)))))))))))))))))))))))))
def F56 : AFn := ⟨172, [], F56c⟩
theorem F56_ok : cFn Tryd.prog [5, 6] 56 = some F56 := by kernel_rfl
def F62o0 : List AOper := [⟨some 0, .m (.alloc 58 [(.int .i64 0), (.int .i64 0), (.int .i64 0), (.int .i64 0), .nils, .nils, .nils]), none⟩]
def F62o1 : List AOper := [⟨some 4, .t (.build [(.int .i64 0), (.int .i64 0), (.int .i64 0), (.int .i64 0), .nils, .nils, .nils] [(0, 1, (.c (.int .i64 2))), (1, 1, (.c (.int .i64 1))), (2, 1, (.c (.int .i64 9)))]), none⟩,⟨some 5, .t (.build [(.int .i64 0), (.int .i64 0), (.int .i64 0), (.int .i64 0), .nils, .nils, .nils] [(0, 1, (.c (.int .i64 4))), (2, 1, (.c (.int .i64 3)))]), none⟩,⟨some 1, .m (.alloc 58 [(.int .i64 0), (.int .i64 0), (.int .i64 0), (.int .i64 0), .nils, .nils, .nils]), none⟩,⟨some 2, .m (.alloc 58 [(.int .i64 0), (.int .i64 0), (.int .i64 0), (.int .i64 0), .nils, .nils, .nils]), none⟩,⟨none, .m (.store 7 (.t 1) (.t 4)), none⟩,⟨none, .m (.store 7 (.t 2) (.t 5)), none⟩]
def F62o2 : List AOper := [⟨some 6, .m (.bslice false 9 1 2 [(.c (.str [97])), (.c (.str [98]))]), none⟩,⟨some 7, .t (.build [(.int .i64 0), (.int .i64 0), (.int .i64 0), (.int .i64 0), .nils, .nils, .nils] [(0, 1, (.c (.int .i64 4))), (4, 1, (.t 6))]), none⟩,⟨some 3, .m (.alloc 58 [(.int .i64 0), (.int .i64 0), (.int .i64 0), (.int .i64 0), .nils, .nils, .nils]), none⟩,⟨none, .m (.store 7 (.t 3) (.t 7)), none⟩]
def F62o3 : List AOper := [⟨some 8, .m (.load true 7 (.t 1)), none⟩,⟨some 9, .t (.build [(.int .i64 0), (.str []), (.int .i64 0), (.int .i64 0), (.int .i64 0), (.int .i64 0), (.int .i64 0), .nils, .nils, .nils, .nils] [(0, 1, (.c (.int .i64 1))), (1, 1, (.c (.str [105, 100]))), (2, 1, (.c (.int .i64 1))), (3, 7, (.t 8))]), none⟩,⟨some 10, .m (.load true 7 (.t 2)), none⟩,⟨some 11, .t (.build [(.int .i64 0), (.str []), (.int .i64 0), (.int .i64 0), (.int .i64 0), (.int .i64 0), (.int .i64 0), .nils, .nils, .nils, .nils] [(0, 1, (.c (.int .i64 2))), (1, 1, (.c (.str [110, 111, 116, 101]))), (2, 1, (.c (.int .i64 2))), (3, 7, (.t 10))]), none⟩,⟨some 12, .m (.load true 7 (.t 3)), none⟩,⟨some 13, .t (.build [(.int .i64 0), (.int .i64 0), (.int .i64 0), (.str []), .nils, .nils] [(0, 1, (.c (.int .i64 4))), (3, 1, (.c (.str [97])))]), none⟩,⟨some 14, .m (.bslice false 62 6 1 [(.t 13)]), none⟩,⟨some 15, .t (.build [(.int .i64 0), (.str []), (.int .i64 0), (.int .i64 0), (.int .i64 0), (.int .i64 0), (.int .i64 0), .nils, .nils, .nils, .nils] [(0, 1, (.c (.int .i64 3))), (1, 1, (.c (.str [107, 105, 110, 100]))), (2, 1, (.c (.int .i64 3))), (3, 7, (.t 12)), (10, 1, (.t 14))]), none⟩,⟨some 16, .m (.bslice false 79 11 3 [(.t 9), (.t 11), (.t 15)]), none⟩,⟨some 17, .t (.build [(.int .i64 0), (.int .i64 0), (.int .i64 0), (.int .i64 0), .nils, .nils, .nils] [(0, 1, (.c (.int .i64 9))), (6, 1, (.t 16))]), none⟩,⟨none, .m (.store 7 (.t 0) (.t 17)), none⟩]
def F62c : ACode :=
(.seq (.ops F62o0 [0])
((.seq (.ops F62o1 [0, 1, 2])
((.seq (.ops F62o2 [0, 1, 2, 3])
((.seq (.ops F62o3 [0])
(.ret))))))))
def F62 : AFn := ⟨18, [.cell 0 true 7], F62c⟩
theorem F62_ok : cFn Tryd.prog [] 62 = some F62 := by kernel_rfl
def F63o0 : List AOper := [⟨some 2, .m (.cbox 71 (.t 0)), none⟩,⟨some 3, .t (.mv (.c (.bool false))), none⟩]
def F63o1 : List AOper := [⟨none, .m (.store 1 (.t 1) (.c (.bool false))), none⟩]
def F63o2 : List AOper := [⟨some 3, .t (.mv (.c (.bool false))), none⟩]
def F63c : ACode :=
(.seq (.ops F63o0 [1])
((.seq (.ops F63o1 [])
((.seq (.ops F63o2 [3])
(.ret))))))
def F63 : AFn := ⟨4, [.tmp 3], F63c⟩
theorem F63_ok : cFn Tryd.prog [2] 63 = some F63 := by kernel_rfl
def F66o0 : List AOper := [⟨some 1, .m (.cbox 62 (.t 0)), none⟩,⟨some 2, .m (.alloc 62 [(.int .i64 0), (.int .i64 0), (.int .i64 0), (.str []), .nils, .nils]), none⟩]
def F66o1 : List AOper := [⟨some 8, .m (.load true 6 (.t 1)), none⟩,⟨some 3, .m (.alloc 62 [(.int .i64 0), (.int .i64 0), (.int .i64 0), (.str []), .nils, .nils]), none⟩,⟨none, .m (.store 6 (.t 3) (.t 8)), none⟩]
def F66o2 : List AOper := [⟨some 9, .t (.faddr 4 (.t 3)), none⟩,⟨none, .m (.store 1 (.t 9) (.c .nils)), none⟩,⟨some 10, .t (.faddr 5 (.t 3)), none⟩,⟨none, .m (.store 1 (.t 10) (.c .nils)), none⟩]
def F66o3 : List AOper := [⟨some 11, .t (.faddr 4 (.t 1)), none⟩,⟨some 12, .m (.load false 1 (.t 11)), none⟩,⟨some 13, .t (.len false (.t 12)), none⟩,⟨some 14, .t (.mv (.c (.int .i64 0))), none⟩]
def F66o4 : List AOper := [⟨some 15, .t (.bin .lss (.t 14) (.t 13)), none⟩]
def F66o5 : List AOper := [⟨some 16, .t (.iaddr 6 (.t 12) (.t 14)), none⟩,⟨some 17, .m (.load true 6 (.t 16)), none⟩,⟨some 5, .m (.alloc 62 [(.int .i64 0), (.int .i64 0), (.int .i64 0), (.str []), .nils, .nils]), none⟩,⟨none, .m (.store 6 (.t 5) (.t 17)), none⟩]
def F66o6 : List AOper := [⟨some 18, .t (.faddr 4 (.t 3)), none⟩,⟨some 19, .m (.load false 1 (.t 18)), none⟩,⟨some 20, .m (.load true 6 (.t 5)), none⟩,⟨some 21, .call (.c (.clo 66 [] [])) [(.t 20)], none⟩,⟨some 22, .m (.bslice false 62 6 1 [(.t 21)]), none⟩]
def F66p6 : List AOper := [⟨some 23, .m (.append false 62 6 88 (.t 19) (.t 22)), none⟩,⟨some 24, .t (.faddr 4 (.t 3)), none⟩,⟨none, .m (.store 1 (.t 24) (.t 23)), none⟩]
def F66A6 : List (List Nat) := [[], [0], [], [2], [3, 2], [1, 4, 0, 3, 2], [5, 1, 4, 0, 3, 2], [6, 5, 1, 4, 0, 3, 2]]
def F66o7 : List AOper := [⟨some 25, .t (.bin .add (.t 14) (.c (.int .i64 1))), none⟩,⟨some 14, .t (.mv (.t 25)), none⟩]
def F66b8 : ACode :=
(.seq (.ops F66o4 [1, 2, 3, 12, 13, 14, 15])
((.seq (.cond (.t 15)
(.skip)
(.exit 0))
((.seq (.block 1 ((.seq (.ops F66o5 [1, 2, 3, 5, 12, 13, 14])
(.draw F66A6 F66o6 F66p6 [1, 2, 3, 12, 13, 14]))))
(.ops F66o7 [1, 2, 3, 12, 13, 14]))))))
def F66o9 : List AOper := [⟨some 26, .t (.faddr 5 (.t 1)), none⟩,⟨some 27, .m (.load false 1 (.t 26)), none⟩,⟨some 28, .t (.len false (.t 27)), none⟩,⟨some 29, .t (.mv (.c (.int .i64 0))), none⟩]
def F66o10 : List AOper := [⟨some 30, .t (.bin .lss (.t 29) (.t 28)), none⟩]
def F66o11 : List AOper := [⟨some 31, .t (.iaddr 7 (.t 27) (.t 29)), none⟩,⟨some 32, .m (.load true 7 (.t 31)), none⟩,⟨some 7, .m (.alloc 127 [(.str []), (.int .i64 0), (.int .i64 0), (.int .i64 0), (.str []), .nils, .nils]), none⟩,⟨none, .m (.store 7 (.t 7) (.t 32)), none⟩]
def F66o12 : List AOper := [⟨some 33, .t (.faddr 5 (.t 3)), none⟩,⟨some 34, .m (.load false 1 (.t 33)), none⟩,⟨some 35, .t (.faddr 0 (.t 7)), none⟩,⟨some 36, .m (.load false 1 (.t 35)), none⟩,⟨some 37, .t (.faddr 1 (.t 7)), none⟩,⟨some 38, .m (.load true 6 (.t 37)), none⟩,⟨some 39, .call (.c (.clo 66 [] [])) [(.t 38)], none⟩,⟨some 40, .t (.build [(.str []), (.int .i64 0), (.int .i64 0), (.int .i64 0), (.str []), .nils, .nils] [(0, 1, (.t 36)), (1, 6, (.t 39))]), none⟩,⟨some 41, .m (.bslice false 127 7 1 [(.t 40)]), none⟩]
def F66p12 : List AOper := [⟨some 42, .m (.append false 127 7 104 (.t 34) (.t 41)), none⟩,⟨some 43, .t (.faddr 5 (.t 3)), none⟩,⟨none, .m (.store 1 (.t 43) (.t 42)), none⟩]
def F66A12 : List (List Nat) := [[], [0], [], [2], [], [4], [5, 4], [3, 6, 2, 5, 4], [7, 3, 6, 2, 5, 4], [1, 8, 0, 7, 3, 6, 2, 5, 4], [9, 1, 8, 0, 7, 3, 6, 2, 5, 4], [10, 9, 1, 8, 0, 7, 3, 6, 2, 5, 4]]
def F66o13 : List AOper := [⟨some 44, .t (.bin .add (.t 29) (.c (.int .i64 1))), none⟩,⟨some 29, .t (.mv (.t 44)), none⟩]
def F66b14 : ACode :=
(.seq (.ops F66o10 [2, 3, 27, 28, 29, 30])
((.seq (.cond (.t 30)
(.skip)
(.exit 2))
((.seq (.block 3 ((.seq (.ops F66o11 [2, 3, 7, 27, 28, 29])
(.draw F66A12 F66o12 F66p12 [2, 3, 27, 28, 29]))))
(.ops F66o13 [2, 3, 27, 28, 29]))))))
def F66o15 : List AOper := [⟨some 45, .m (.load true 6 (.t 3)), none⟩,⟨none, .m (.store 6 (.t 2) (.t 45)), none⟩]
def F66c : ACode :=
(.seq (.ops F66o0 [1, 2])
((.seq (.ops F66o1 [1, 2, 3])
((.seq (.ops F66o2 [1, 2, 3])
((.seq ((.seq (.ops F66o3 [1, 2, 3, 12, 13, 14])
(.block 0 (.loop [1, 2, 3, 12, 13, 14] F66b8))))
((.seq ((.seq (.ops F66o9 [2, 3, 27, 28, 29])
(.block 2 (.loop [2, 3, 27, 28, 29] F66b14))))
((.seq (.ops F66o15 [2])
(.ret))))))))))))
def F66 : AFn := ⟨46, [.cell 2 true 6], F66c⟩
theorem F66_ok : cFn Tryd.prog [1] 66 = some F66 := by kernel_rfl
def F68o0 : List AOper := [⟨some 2, .m (.cbox 58 (.t 0)), none⟩,⟨some 3, .m (.cbox 62 (.t 1)), none⟩,⟨some 4, .m (.alloc 62 [(.int .i64 0), (.int .i64 0), (.int .i64 0), (.str []), .nils, .nils]), none⟩]
def F68o1 : List AOper := [⟨some 10, .t (.faddr 0 (.t 3)), none⟩,⟨some 11, .m (.load false 1 (.t 10)), none⟩,⟨some 12, .t (.faddr 0 (.t 2)), none⟩,⟨some 13, .m (.load false 1 (.t 12)), none⟩,⟨some 14, .t (.bin .neq (.t 11) (.t 13)), none⟩,⟨some 15, .t (.mv (.t 14)), none⟩,⟨some 16, .m (.load true 6 (.t 3)), (some (15, false))⟩,
  ⟨some 17, .call (.c (.clo 84 [] [])) [(.t 16)], (some (15, false))⟩,
  ⟨some 18, .t (.not (.t 17)), (some (15, false))⟩,
  ⟨some 19, .t (.pick (.t 15) (.c (.bool true)) (.t 18)), none⟩]
def F68o2 : List AOper := [⟨some 20, .m (.load true 6 (.t 3)), none⟩,⟨none, .m (.store 6 (.t 4) (.t 20)), none⟩]
def F68o3 : List AOper := [⟨some 21, .m (.load true 7 (.t 2)), none⟩,⟨some 22, .m (.load true 6 (.t 3)), none⟩,⟨some 23, .call (.c (.clo 99 [] [])) [(.t 21), (.t 22), (.c (.clo 68 [] []))], none⟩,⟨some 5, .m (.alloc 62 [(.int .i64 0), (.int .i64 0), (.int .i64 0), (.str []), .nils, .nils]), none⟩,⟨none, .m (.store 6 (.t 5) (.t 23)), none⟩]
def F68o4 : List AOper := [⟨some 24, .t (.faddr 0 (.t 2)), none⟩,⟨some 25, .m (.load false 1 (.t 24)), none⟩,⟨some 26, .t (.bin .neq (.t 25) (.c (.int .i64 9))), none⟩]
def F68o5 : List AOper := [⟨some 27, .fz (some (true, 6)) (.t 5), none⟩,⟨none, .m (.store 6 (.t 4) (.t 27)), none⟩]
def F68o6 : List AOper := [⟨some 28, .t (.faddr 6 (.t 2)), none⟩,⟨some 29, .m (.load false 1 (.t 28)), none⟩,⟨some 30, .t (.len false (.t 29)), none⟩,⟨some 31, .t (.mv (.c (.int .i64 0))), none⟩]
def F68o7 : List AOper := [⟨some 32, .t (.bin .lss (.t 31) (.t 30)), none⟩]
def F68o8 : List AOper := [⟨some 33, .t (.iaddr 11 (.t 29) (.t 31)), none⟩,⟨some 34, .m (.load true 11 (.t 33)), none⟩,⟨some 7, .m (.alloc 79 [(.int .i64 0), (.str []), (.int .i64 0), (.int .i64 0), (.int .i64 0), (.int .i64 0), (.int .i64 0), .nils, .nils, .nils, .nils]), none⟩,⟨none, .m (.store 11 (.t 7) (.t 34)), none⟩]
def F68o9 : List AOper := [⟨some 35, .t (.faddr 2 (.t 7)), none⟩,⟨some 36, .m (.load false 1 (.t 35)), none⟩,⟨some 37, .t (.bin .neq (.t 36) (.c (.int .i64 3))), none⟩,⟨some 38, .t (.mv (.t 37)), none⟩,⟨some 39, .t (.faddr 10 (.t 7)), (some (38, false))⟩,
  ⟨some 40, .m (.load false 1 (.t 39)), (some (38, false))⟩,
  ⟨some 41, .t (.len false (.t 40)), (some (38, false))⟩,
  ⟨some 42, .t (.bin .neq (.t 41) (.c (.int .i64 1))), (some (38, false))⟩,
  ⟨some 43, .t (.pick (.t 38) (.c (.bool true)) (.t 42)), none⟩]
def F68o10 : List AOper := [⟨some 45, .t (.faddr 5 (.t 5)), none⟩,⟨some 46, .m (.load false 1 (.t 45)), none⟩,⟨some 47, .t (.faddr 1 (.t 7)), none⟩,⟨some 48, .m (.load false 1 (.t 47)), none⟩,⟨some 49, .call (.c (.clo 100 [] [])) [(.t 46), (.t 48), (.c (.clo 101 [] []))], none⟩,⟨some 44, .t (.mv (.t 49)), none⟩,⟨some 50, .t (.ext (.t 44) 0), none⟩,⟨some 51, .t (.ext (.t 44) 1), none⟩,⟨some 8, .t (.mv (.t 50)), none⟩,⟨some 9, .t (.mv (.t 51)), none⟩]
def F68o11 : List AOper := [⟨some 52, .t (.mv (.t 9)), none⟩,⟨some 53, .t (.not (.t 52)), none⟩]
def F68o12 : List AOper := [⟨some 54, .t (.faddr 5 (.t 5)), none⟩,⟨some 55, .m (.load false 1 (.t 54)), none⟩,⟨some 56, .t (.mv (.t 8)), none⟩,⟨some 57, .t (.faddr 1 (.t 7)), none⟩,⟨some 58, .m (.load false 1 (.t 57)), none⟩,⟨some 59, .t (.faddr 10 (.t 7)), none⟩,⟨some 60, .m (.load false 1 (.t 59)), none⟩,⟨some 61, .t (.iaddr 6 (.t 60) (.c (.int .i64 0))), none⟩,⟨some 62, .m (.load true 6 (.t 61)), none⟩,⟨some 63, .t (.build [(.str []), (.int .i64 0), (.int .i64 0), (.int .i64 0), (.str []), .nils, .nils] [(0, 1, (.t 58)), (1, 6, (.t 62))]), none⟩,⟨some 64, .m (.bslice false 127 7 1 [(.t 63)]), none⟩]
def F68p12 : List AOper := [⟨some 65, .call (.c (.clo 103 [] [])) [(.t 55), (.t 56), (.t 64)], none⟩,⟨some 66, .t (.faddr 5 (.t 5)), none⟩,⟨none, .m (.store 1 (.t 66) (.t 65)), none⟩]
def F68A12 : List (List Nat) := [[], [0], [], [], [3], [], [5], [6, 5], [7, 6, 5], [4, 8, 3, 7, 6, 5], [9, 4, 8, 3, 7, 6, 5], [1, 2, 10, 0, 9, 4, 8, 3, 7, 6, 5], [11, 1, 2, 10, 0, 9, 4, 8, 3, 7, 6, 5], [12, 11, 1, 2, 10, 0, 9, 4, 8, 3, 7, 6, 5]]
def F68o13 : List AOper := [⟨some 67, .t (.bin .add (.t 31) (.c (.int .i64 1))), none⟩,⟨some 31, .t (.mv (.t 67)), none⟩]
def F68b14 : ACode :=
(.seq (.ops F68o7 [4, 5, 29, 30, 31, 32])
((.seq (.cond (.t 32)
(.skip)
(.exit 0))
((.seq (.block 1 ((.seq (.ops F68o8 [4, 5, 7, 29, 30, 31])
((.seq ((.seq (.ops F68o9 [4, 5, 7, 29, 30, 31, 43])
(.cond (.t 43)
(.exit 1)
(.skip))))
((.seq (.ops F68o10 [4, 5, 7, 8, 9, 29, 30, 31])
((.seq (.ops F68o11 [4, 5, 7, 8, 29, 30, 31, 53])
(.cond (.t 53)
(.draw F68A12 F68o12 F68p12 [4, 5, 29, 30, 31])
(.skip)))))))))))
(.ops F68o13 [4, 5, 29, 30, 31]))))))
def F68o15 : List AOper := [⟨some 68, .fz (some (true, 6)) (.t 5), none⟩,⟨none, .m (.store 6 (.t 4) (.t 68)), none⟩]
def F68c : ACode :=
(.seq (.ops F68o0 [2, 3, 4])
((.seq ((.seq (.ops F68o1 [2, 3, 4, 19])
(.cond (.t 19)
((.seq (.ops F68o2 [4])
(.ret)))
(.skip))))
((.seq (.ops F68o3 [2, 4, 5])
((.seq ((.seq (.ops F68o4 [2, 4, 5, 26])
(.cond (.t 26)
((.seq (.ops F68o5 [4])
(.ret)))
(.skip))))
((.seq ((.seq (.ops F68o6 [4, 5, 29, 30, 31])
(.block 0 (.loop [4, 5, 29, 30, 31] F68b14))))
((.seq (.ops F68o15 [4])
(.ret))))))))))))
def F68 : AFn := ⟨69, [.cell 4 true 6], F68c⟩
theorem F68_ok : cFn Tryd.prog [1000027, 1000068, 2, 3] 68 = some F68 := by kernel_rfl
def F83o0 : List AOper := [⟨some 6, .t (.mv (.t 0)), none⟩,⟨some 7, .t (.nilck (.t 6)), none⟩,⟨some 8, .t (.faddr 1 (.t 7)), none⟩,⟨some 9, .m (.load false 1 (.t 8)), none⟩,⟨some 10, .t (.not (.t 9)), none⟩,⟨some 11, .t (.mv (.t 10)), none⟩,⟨some 12, .t (.mv (.t 0)), (some (11, true))⟩,
  ⟨some 13, .t (.nilck (.t 12)), (some (11, true))⟩,
  ⟨some 14, .t (.faddr 0 (.t 13)), (some (11, true))⟩,
  ⟨some 15, .m (.load false 1 (.t 14)), (some (11, true))⟩,
  ⟨some 16, .t (.mv (.t 1)), (some (11, true))⟩,
  ⟨some 17, .t (.mv (.t 2)), (some (11, true))⟩,
  ⟨some 18, .t (.build [(.str []), (.int .i64 0)] [(0, 1, (.t 16)), (1, 1, (.t 17))]), (some (11, true))⟩,
  ⟨some 19, .call (.t 15) [(.t 18)], (some (11, true))⟩,
  ⟨some 20, .t (.not (.t 19)), (some (11, true))⟩,
  ⟨some 21, .t (.pick (.t 11) (.t 20) (.c (.bool false))), none⟩]
def F83o1 : List AOper := [⟨some 22, .t (.mv (.t 0)), none⟩,⟨some 23, .t (.nilck (.t 22)), none⟩,⟨some 24, .t (.faddr 1 (.t 23)), none⟩,⟨none, .m (.store 1 (.t 24) (.c (.bool true))), none⟩]
def F83c : ACode :=
(.seq (.ops F83o0 [0, 21])
(.cond (.t 21)
(.ops F83o1 [])
(.skip)))
def F83 : AFn := ⟨25, [], F83c⟩
theorem F83_ok : cFn Tryd.prog [] 83 = some F83 := by kernel_rfl
def F84o0 : List AOper := [⟨some 1, .m (.cbox 62 (.t 0)), none⟩,⟨some 2, .t (.mv (.c (.bool false))), none⟩]
def F84o1 : List AOper := [⟨some 5, .m (.load true 6 (.t 1)), none⟩,⟨some 3, .m (.alloc 62 [(.int .i64 0), (.int .i64 0), (.int .i64 0), (.str []), .nils, .nils]), none⟩,⟨none, .m (.store 6 (.t 3) (.t 5)), none⟩]
def F84o2 : List AOper := [⟨some 6, .t (.faddr 0 (.t 1)), none⟩,⟨some 7, .m (.load false 1 (.t 6)), none⟩]
def F84o3 : List AOper := [⟨some 9, .t (.bin .eql (.t 7) (.c (.int .i64 1))), none⟩,⟨some 8, .t (.mv (.t 9)), none⟩]
def F84o4 : List AOper := [⟨some 10, .t (.faddr 1 (.t 1)), none⟩,⟨some 11, .m (.load false 1 (.t 10)), none⟩,⟨some 12, .t (.bin .neq (.t 11) (.c (.int .i64 0))), none⟩,⟨some 13, .t (.mv (.t 12)), none⟩,⟨some 14, .t (.faddr 1 (.t 1)), (some (13, true))⟩,
  ⟨some 15, .m (.load false 1 (.t 14)), (some (13, true))⟩,
  ⟨some 16, .t (.bin .neq (.t 15) (.c (.int .i64 1))), (some (13, true))⟩,
  ⟨some 17, .t (.pick (.t 13) (.t 16) (.c (.bool false))), none⟩]
def F84o5 : List AOper := [⟨some 2, .t (.mv (.c (.bool false))), none⟩]
def F84o6 : List AOper := [⟨some 18, .t (.faddr 1 (.t 3)), none⟩,⟨none, .m (.store 1 (.t 18) (.c (.int .i64 0))), none⟩]
def F84o7 : List AOper := [⟨some 20, .t (.bin .eql (.t 7) (.c (.int .i64 2))), none⟩,⟨some 19, .t (.mv (.t 20)), none⟩]
def F84o8 : List AOper := [⟨some 21, .t (.bin .eql (.t 7) (.c (.int .i64 6))), none⟩,⟨some 19, .t (.mv (.t 21)), none⟩]
def F84o9 : List AOper := [⟨some 22, .t (.bin .eql (.t 7) (.c (.int .i64 7))), none⟩,⟨some 19, .t (.mv (.t 22)), none⟩]
def F84o10 : List AOper := [⟨some 23, .t (.faddr 1 (.t 3)), none⟩,⟨none, .m (.store 1 (.t 23) (.c (.int .i64 0))), none⟩]
def F84o11 : List AOper := [⟨some 25, .t (.bin .eql (.t 7) (.c (.int .i64 3))), none⟩,⟨some 24, .t (.mv (.t 25)), none⟩]
def F84o12 : List AOper := [⟨some 26, .t (.faddr 1 (.t 3)), none⟩,⟨none, .m (.store 1 (.t 26) (.c (.int .i64 0))), none⟩,⟨some 27, .t (.faddr 2 (.t 3)), none⟩,⟨none, .m (.store 1 (.t 27) (.c (.int .i64 0))), none⟩]
def F84o13 : List AOper := [⟨some 29, .t (.bin .eql (.t 7) (.c (.int .i64 4))), none⟩,⟨some 28, .t (.mv (.t 29)), none⟩]
def F84o14 : List AOper := [⟨some 30, .t (.faddr 3 (.t 1)), none⟩,⟨some 31, .m (.load false 1 (.t 30)), none⟩,⟨some 32, .call (.c (.clo 110 [] [])) [(.t 31)], none⟩,⟨some 33, .t (.not (.t 32)), none⟩]
def F84o15 : List AOper := [⟨some 2, .t (.mv (.c (.bool false))), none⟩]
def F84o16 : List AOper := [⟨some 34, .t (.faddr 3 (.t 3)), none⟩,⟨none, .m (.store 1 (.t 34) (.c (.str []))), none⟩]
def F84o17 : List AOper := [⟨some 36, .t (.bin .eql (.t 7) (.c (.int .i64 5))), none⟩,⟨some 35, .t (.mv (.t 36)), none⟩]
def F84o18 : List AOper := [⟨some 37, .t (.faddr 3 (.t 3)), none⟩,⟨none, .m (.store 1 (.t 37) (.c (.str []))), none⟩]
def F84o19 : List AOper := [⟨some 39, .t (.bin .eql (.t 7) (.c (.int .i64 8))), none⟩,⟨some 38, .t (.mv (.t 39)), none⟩]
def F84o20 : List AOper := [⟨some 40, .t (.faddr 4 (.t 3)), none⟩,⟨none, .m (.store 1 (.t 40) (.c .nils)), none⟩]
def F84o21 : List AOper := [⟨some 42, .t (.bin .eql (.t 7) (.c (.int .i64 9))), none⟩,⟨some 41, .t (.mv (.t 42)), none⟩]
def F84o22 : List AOper := [⟨some 4, .t (.mv (.c (.int .i64 1))), none⟩]
def F84o23 : List AOper := [⟨some 43, .t (.mv (.t 4)), none⟩,⟨some 44, .t (.faddr 5 (.t 1)), none⟩,⟨some 45, .m (.load false 1 (.t 44)), none⟩,⟨some 46, .t (.len false (.t 45)), none⟩,⟨some 47, .t (.bin .lss (.t 43) (.t 46)), none⟩]
def F84o24 : List AOper := [⟨some 50, .t (.faddr 5 (.t 1)), none⟩,⟨some 51, .m (.load false 1 (.t 50)), none⟩,⟨some 52, .t (.mv (.t 4)), none⟩,⟨some 53, .t (.bin .sub (.t 52) (.c (.int .i64 1))), none⟩,⟨some 54, .t (.iaddr 7 (.t 51) (.t 53)), none⟩,⟨some 55, .t (.faddr 0 (.t 54)), none⟩,⟨some 56, .m (.load false 1 (.t 55)), none⟩,⟨some 57, .t (.faddr 5 (.t 1)), none⟩,⟨some 58, .m (.load false 1 (.t 57)), none⟩,⟨some 59, .t (.mv (.t 4)), none⟩,⟨some 60, .t (.iaddr 7 (.t 58) (.t 59)), none⟩,⟨some 61, .t (.faddr 0 (.t 60)), none⟩,⟨some 62, .m (.load false 1 (.t 61)), none⟩]
def F84p24 : List AOper := [⟨some 63, .t (.bin .geq (.t 56) (.t 62)), none⟩]
def F84A24 : List (List Nat) := [[], [0], [], [2], [1, 3, 0, 2], [4, 1, 3, 0, 2], [5, 4, 1, 3, 0, 2], [], [7], [], [8, 9, 7], [10, 8, 9, 7], [11, 10, 8, 9, 7], [6, 12, 5, 4, 1, 3, 0, 2, 11, 10, 8, 9, 7]]
def F84o25 : List AOper := [⟨some 2, .t (.mv (.c (.bool false))), none⟩]
def F84o26 : List AOper := [⟨some 48, .t (.mv (.t 4)), none⟩,⟨some 49, .t (.bin .add (.t 48) (.c (.int .i64 1))), none⟩,⟨some 4, .t (.mv (.t 49)), none⟩]
def F84b27 : ACode :=
(.seq ((.seq (.ops F84o23 [1, 3, 4, 47])
(.cond (.t 47)
(.skip)
(.exit 1))))
((.seq (.block 2 ((.seq (.draw F84A24 F84o24 F84p24 [1, 3, 4, 63])
(.cond (.t 63)
((.seq (.ops F84o25 [2])
(.ret)))
(.skip)))))
(.ops F84o26 [1, 3, 4]))))
def F84o28 : List AOper := [⟨some 64, .t (.faddr 5 (.t 3)), none⟩,⟨none, .m (.store 1 (.t 64) (.c .nils)), none⟩]
def F84o29 : List AOper := [⟨some 66, .t (.bin .eql (.t 7) (.c (.int .i64 10))), none⟩,⟨some 65, .t (.mv (.t 66)), none⟩]
def F84o30 : List AOper := [⟨some 67, .t (.faddr 4 (.t 1)), none⟩,⟨some 68, .m (.load false 1 (.t 67)), none⟩,⟨some 69, .t (.len false (.t 68)), none⟩,⟨some 70, .t (.bin .neq (.t 69) (.c (.int .i64 1))), none⟩]
def F84o31 : List AOper := [⟨some 2, .t (.mv (.c (.bool false))), none⟩]
def F84o32 : List AOper := [⟨some 71, .t (.faddr 3 (.t 3)), none⟩,⟨none, .m (.store 1 (.t 71) (.c (.str []))), none⟩,⟨some 72, .t (.faddr 4 (.t 3)), none⟩,⟨none, .m (.store 1 (.t 72) (.c .nils)), none⟩]
def F84o33 : List AOper := [⟨some 73, .t (.faddr 1 (.t 3)), none⟩,⟨some 74, .m (.load false 1 (.t 73)), none⟩,⟨some 75, .t (.bin .eql (.t 74) (.c (.int .i64 0))), none⟩,⟨some 76, .t (.mv (.t 75)), none⟩,⟨some 77, .t (.faddr 2 (.t 3)), (some (76, true))⟩,
  ⟨some 78, .m (.load false 1 (.t 77)), (some (76, true))⟩,
  ⟨some 79, .t (.bin .eql (.t 78) (.c (.int .i64 0))), (some (76, true))⟩,
  ⟨some 80, .t (.pick (.t 76) (.t 79) (.c (.bool false))), none⟩,⟨some 81, .t (.mv (.t 80)), none⟩,⟨some 82, .t (.faddr 3 (.t 3)), (some (81, true))⟩,
  ⟨some 83, .m (.load false 1 (.t 82)), (some (81, true))⟩,
  ⟨some 84, .t (.bin .eql (.t 83) (.c (.str []))), (some (81, true))⟩,
  ⟨some 85, .t (.pick (.t 81) (.t 84) (.c (.bool false))), none⟩,⟨some 86, .t (.mv (.t 85)), none⟩,⟨some 87, .t (.faddr 4 (.t 3)), (some (86, true))⟩,
  ⟨some 88, .m (.load false 1 (.t 87)), (some (86, true))⟩,
  ⟨some 89, .t (.len false (.t 88)), (some (86, true))⟩,
  ⟨some 90, .t (.bin .eql (.t 89) (.c (.int .i64 0))), (some (86, true))⟩,
  ⟨some 91, .t (.pick (.t 86) (.t 90) (.c (.bool false))), none⟩,⟨some 92, .t (.mv (.t 91)), none⟩,⟨some 93, .t (.faddr 5 (.t 3)), (some (92, true))⟩,
  ⟨some 94, .m (.load false 1 (.t 93)), (some (92, true))⟩,
  ⟨some 95, .t (.len false (.t 94)), (some (92, true))⟩,
  ⟨some 96, .t (.bin .eql (.t 95) (.c (.int .i64 0))), (some (92, true))⟩,
  ⟨some 97, .t (.pick (.t 92) (.t 96) (.c (.bool false))), none⟩,⟨some 2, .t (.mv (.t 97)), none⟩]
def F84c : ACode :=
(.seq (.ops F84o0 [1])
((.seq (.ops F84o1 [1, 3])
((.seq ((.seq (.ops F84o2 [1, 3, 7])
(.block 0 ((.seq (.ops F84o3 [1, 3, 7, 8])
(.cond (.t 8)
((.seq ((.seq (.ops F84o4 [3, 17])
(.cond (.t 17)
((.seq (.ops F84o5 [2])
(.ret)))
(.skip))))
(.ops F84o6 [3])))
((.seq ((.seq (.ops F84o7 [1, 3, 7, 19])
(.cond (.t 19)
(.skip)
((.seq (.ops F84o8 [1, 3, 7, 19])
(.cond (.t 19)
(.skip)
(.ops F84o9 [1, 3, 7, 19])))))))
(.cond (.t 19)
(.ops F84o10 [3])
((.seq (.ops F84o11 [1, 3, 7, 24])
(.cond (.t 24)
(.ops F84o12 [3])
((.seq (.ops F84o13 [1, 3, 7, 28])
(.cond (.t 28)
((.seq ((.seq (.ops F84o14 [3, 33])
(.cond (.t 33)
((.seq (.ops F84o15 [2])
(.ret)))
(.skip))))
(.ops F84o16 [3])))
((.seq (.ops F84o17 [1, 3, 7, 35])
(.cond (.t 35)
(.ops F84o18 [3])
((.seq (.ops F84o19 [1, 3, 7, 38])
(.cond (.t 38)
(.ops F84o20 [3])
((.seq (.ops F84o21 [1, 3, 7, 41])
(.cond (.t 41)
((.seq ((.seq (.ops F84o22 [1, 3, 4])
(.block 1 (.loop [1, 3, 4] F84b27))))
(.ops F84o28 [3])))
((.seq (.ops F84o29 [1, 3, 65])
(.cond (.t 65)
((.seq ((.seq (.ops F84o30 [3, 70])
(.cond (.t 70)
((.seq (.ops F84o31 [2])
(.ret)))
(.skip))))
(.ops F84o32 [3])))
(.skip))))))))))))))))))))))))))))
((.seq (.ops F84o33 [2])
(.ret))))))))
def F84 : AFn := ⟨98, [.tmp 2], F84c⟩
theorem F84_ok : cFn Tryd.prog [1] 84 = some F84 := by kernel_rfl
def F85o0 : List AOper := [⟨some 5, .m (.cbox 58 (.t 1)), none⟩]
def F85o1 : List AOper := [⟨some 8, .t (.mv (.t 3)), none⟩,⟨some 9, .t (.faddr 1 (.t 5)), none⟩,⟨some 10, .m (.load false 1 (.t 9)), none⟩,⟨some 11, .t (.bin .lss (.t 8) (.t 10)), none⟩,⟨some 12, .t (.mv (.t 11)), none⟩,⟨some 13, .t (.mv (.t 3)), (some (12, false))⟩,
  ⟨some 14, .t (.faddr 2 (.t 5)), (some (12, false))⟩,
  ⟨some 15, .m (.load false 1 (.t 14)), (some (12, false))⟩,
  ⟨some 16, .t (.bin .gtr (.t 13) (.t 15)), (some (12, false))⟩,
  ⟨some 17, .t (.pick (.t 12) (.c (.bool true)) (.t 16)), none⟩]
def F85o2 : List AOper := [⟨some 18, .t (.mv (.t 0)), none⟩,⟨some 19, .t (.mv (.t 2)), none⟩,⟨some 20, .call (.c (.clo 83 [] [])) [(.t 18), (.t 19), (.c (.int .i64 2))], none⟩]
def F85c : ACode :=
(.seq (.ops F85o0 [0, 2, 3, 5])
((.seq (.ops F85o1 [0, 2, 17])
(.cond (.t 17)
(.ops F85o2 [])
(.skip)))))
def F85 : AFn := ⟨21, [], F85c⟩
theorem F85_ok : cFn Tryd.prog [5] 85 = some F85 := by kernel_rfl
def F86o0 : List AOper := [⟨some 4, .t (.mv (.c (.bool false))), none⟩]
def F86o1 : List AOper := [⟨some 5, .t (.mv (.t 0)), none⟩,⟨some 6, .t (.mv (.t 1)), none⟩,⟨some 7, .call (.c (.clo 111 [] [])) [(.t 5), (.t 6)], none⟩,⟨some 8, .t (.bin .geq (.t 7) (.c (.int .i64 0))), none⟩,⟨some 4, .t (.mv (.t 8)), none⟩]
def F86c : ACode :=
(.seq (.ops F86o0 [0, 1])
((.seq (.ops F86o1 [4])
(.ret))))
def F86 : AFn := ⟨9, [.tmp 4], F86c⟩
theorem F86_ok : cFn Tryd.prog [] 86 = some F86 := by kernel_rfl
def F88o0 : List AOper := [⟨some 5, .m (.cbox 58 (.t 1)), none⟩,⟨some 6, .m (.cbox 62 (.t 2)), none⟩]
def F88o1 : List AOper := [⟨some 16, .t (.faddr 6 (.t 5)), none⟩,⟨some 17, .m (.load false 1 (.t 16)), none⟩,⟨some 18, .t (.len false (.t 17)), none⟩,⟨some 19, .t (.mv (.c (.int .i64 0))), none⟩]
def F88o2 : List AOper := [⟨some 20, .t (.bin .lss (.t 19) (.t 18)), none⟩]
def F88o3 : List AOper := [⟨some 21, .t (.iaddr 11 (.t 17) (.t 19)), none⟩,⟨some 22, .m (.load true 11 (.t 21)), none⟩,⟨some 9, .m (.alloc 79 [(.int .i64 0), (.str []), (.int .i64 0), (.int .i64 0), (.int .i64 0), (.int .i64 0), (.int .i64 0), .nils, .nils, .nils, .nils]), none⟩,⟨none, .m (.store 11 (.t 9) (.t 22)), none⟩]
def F88o4 : List AOper := [⟨some 24, .m (.load true 6 (.t 6)), none⟩,⟨some 25, .t (.faddr 1 (.t 9)), none⟩,⟨some 26, .m (.load false 1 (.t 25)), none⟩,⟨some 27, .call (.c (.clo 113 [] [])) [(.t 24), (.t 26)], none⟩,⟨some 23, .t (.mv (.t 27)), none⟩,⟨some 28, .t (.ext (.t 23) 0), none⟩,⟨some 29, .t (.ext (.t 23) 1), none⟩,⟨some 10, .m (.alloc 62 [(.int .i64 0), (.int .i64 0), (.int .i64 0), (.str []), .nils, .nils]), none⟩,⟨none, .m (.store 6 (.t 10) (.t 28)), none⟩,⟨some 11, .t (.mv (.t 29)), none⟩]
def F88o5 : List AOper := [⟨some 30, .t (.mv (.t 11)), none⟩]
def F88o6 : List AOper := [⟨some 31, .t (.mv (.t 0)), none⟩,⟨some 32, .t (.faddr 3 (.t 9)), none⟩,⟨some 33, .m (.load true 7 (.t 32)), none⟩,⟨some 34, .m (.load true 6 (.t 10)), none⟩,⟨some 35, .t (.mv (.t 3)), none⟩,⟨some 36, .t (.faddr 1 (.t 9)), none⟩,⟨some 37, .m (.load false 1 (.t 36)), none⟩,⟨some 38, .call (.c (.clo 114 [] [])) [(.t 35), (.t 37)], none⟩]
def F88p6 : List AOper := [⟨some 39, .call (.c (.clo 56 [] [])) [(.t 31), (.t 33), (.t 34), (.t 38)], none⟩]
def F88A6 : List (List Nat) := [[], [], [1], [], [], [], [5], [4, 6, 5], [0, 2, 3, 7, 1, 4, 6, 5]]
def F88o7 : List AOper := [⟨some 40, .t (.faddr 2 (.t 9)), none⟩,⟨some 41, .m (.load false 1 (.t 40)), none⟩,⟨some 42, .t (.bin .neq (.t 41) (.c (.int .i64 2))), none⟩]
def F88o8 : List AOper := [⟨some 43, .t (.mv (.t 0)), none⟩,⟨some 44, .t (.mv (.t 3)), none⟩,⟨some 45, .t (.faddr 1 (.t 9)), none⟩,⟨some 46, .m (.load false 1 (.t 45)), none⟩,⟨some 47, .call (.c (.clo 114 [] [])) [(.t 44), (.t 46)], none⟩,⟨some 48, .call (.c (.clo 83 [] [])) [(.t 43), (.t 47), (.c (.int .i64 5))], none⟩]
def F88o9 : List AOper := [⟨some 49, .t (.bin .add (.t 19) (.c (.int .i64 1))), none⟩,⟨some 19, .t (.mv (.t 49)), none⟩]
def F88b10 : ACode :=
(.seq (.ops F88o2 [0, 3, 5, 6, 17, 18, 19, 20])
((.seq (.cond (.t 20)
(.skip)
(.exit 0))
((.seq (.block 1 ((.seq (.ops F88o3 [0, 3, 5, 6, 9, 17, 18, 19])
((.seq (.ops F88o4 [0, 3, 5, 6, 9, 10, 11, 17, 18, 19])
((.seq (.ops F88o5 [0, 3, 5, 6, 9, 10, 17, 18, 19, 30])
(.cond (.t 30)
(.draw F88A6 F88o6 F88p6 [0, 3, 5, 6, 17, 18, 19])
((.seq (.ops F88o7 [0, 3, 5, 6, 9, 17, 18, 19, 42])
(.cond (.t 42)
(.ops F88o8 [0, 3, 5, 6, 17, 18, 19])
(.skip))))))))))))
(.ops F88o9 [0, 3, 5, 6, 17, 18, 19]))))))
def F88o11 : List AOper := [⟨some 50, .t (.faddr 5 (.t 6)), none⟩,⟨some 51, .m (.load false 1 (.t 50)), none⟩,⟨some 52, .t (.len false (.t 51)), none⟩,⟨some 53, .t (.mv (.c (.int .i64 0))), none⟩]
def F88o12 : List AOper := [⟨some 54, .t (.bin .lss (.t 53) (.t 52)), none⟩]
def F88o13 : List AOper := [⟨some 55, .t (.iaddr 7 (.t 51) (.t 53)), none⟩,⟨some 56, .m (.load true 7 (.t 55)), none⟩,⟨some 13, .m (.alloc 127 [(.str []), (.int .i64 0), (.int .i64 0), (.int .i64 0), (.str []), .nils, .nils]), none⟩,⟨none, .m (.store 7 (.t 13) (.t 56)), none⟩]
def F88o14 : List AOper := [⟨some 58, .m (.load true 7 (.t 5)), none⟩,⟨some 59, .t (.faddr 0 (.t 13)), none⟩,⟨some 60, .m (.load false 1 (.t 59)), none⟩,⟨some 61, .call (.c (.clo 89 [] [])) [(.t 58), (.t 60)], none⟩,⟨some 57, .t (.mv (.t 61)), none⟩,⟨some 62, .t (.ext (.t 57) 0), none⟩,⟨some 63, .t (.ext (.t 57) 1), none⟩,⟨some 14, .m (.alloc 79 [(.int .i64 0), (.str []), (.int .i64 0), (.int .i64 0), (.int .i64 0), (.int .i64 0), (.int .i64 0), .nils, .nils, .nils, .nils]), none⟩,⟨none, .m (.store 11 (.t 14) (.t 62)), none⟩,⟨some 15, .t (.mv (.t 63)), none⟩]
def F88o15 : List AOper := [⟨some 64, .t (.mv (.t 15)), none⟩,⟨some 65, .t (.not (.t 64)), none⟩]
def F88o16 : List AOper := [⟨some 66, .t (.mv (.t 0)), none⟩,⟨some 67, .t (.mv (.t 3)), none⟩,⟨some 68, .t (.faddr 0 (.t 13)), none⟩,⟨some 69, .m (.load false 1 (.t 68)), none⟩,⟨some 70, .call (.c (.clo 114 [] [])) [(.t 67), (.t 69)], none⟩,⟨some 71, .call (.c (.clo 83 [] [])) [(.t 66), (.t 70), (.c (.int .i64 6))], none⟩]
def F88o17 : List AOper := [⟨some 72, .t (.bin .add (.t 53) (.c (.int .i64 1))), none⟩,⟨some 53, .t (.mv (.t 72)), none⟩]
def F88b18 : ACode :=
(.seq (.ops F88o12 [0, 3, 5, 51, 52, 53, 54])
((.seq (.cond (.t 54)
(.skip)
(.exit 2))
((.seq (.block 3 ((.seq (.ops F88o13 [0, 3, 5, 13, 51, 52, 53])
((.seq (.ops F88o14 [0, 3, 5, 13, 15, 51, 52, 53])
((.seq (.ops F88o15 [0, 3, 5, 13, 51, 52, 53, 65])
(.cond (.t 65)
(.ops F88o16 [0, 3, 5, 51, 52, 53])
(.skip)))))))))
(.ops F88o17 [0, 3, 5, 51, 52, 53]))))))
def F88c : ACode :=
(.seq (.ops F88o0 [0, 3, 5, 6])
((.seq ((.seq (.ops F88o1 [0, 3, 5, 6, 17, 18, 19])
(.block 0 (.loop [0, 3, 5, 6, 17, 18, 19] F88b10))))
((.seq (.ops F88o11 [0, 3, 5, 51, 52, 53])
(.block 2 (.loop [0, 3, 5, 51, 52, 53] F88b18)))))))
def F88 : AFn := ⟨73, [], F88c⟩
theorem F88_ok : cFn Tryd.prog [5, 6] 88 = some F88 := by kernel_rfl
def F89o0 : List AOper := [⟨some 2, .m (.cbox 58 (.t 0)), none⟩,⟨some 3, .m (.cbox 9 (.t 1)), none⟩,⟨some 4, .m (.alloc 79 [(.int .i64 0), (.str []), (.int .i64 0), (.int .i64 0), (.int .i64 0), (.int .i64 0), (.int .i64 0), .nils, .nils, .nils, .nils]), none⟩,⟨some 5, .t (.mv (.c (.bool false))), none⟩]
def F89o1 : List AOper := [⟨some 7, .t (.faddr 6 (.t 2)), none⟩,⟨some 8, .m (.load false 1 (.t 7)), none⟩,⟨some 9, .t (.clo 115 [] [(.t 3)]), none⟩,⟨some 10, .call (.c (.clo 94 [] [])) [(.t 8), (.t 9)], none⟩,⟨some 6, .t (.mv (.t 10)), none⟩]
def F89o2 : List AOper := [⟨some 11, .t (.mv (.t 6)), none⟩,⟨some 12, .t (.bin .lss (.t 11) (.c (.int .i64 0))), none⟩]
def F89o3 : List AOper := [⟨some 13, .t (.build [(.int .i64 0), (.str []), (.int .i64 0), (.int .i64 0), (.int .i64 0), (.int .i64 0), (.int .i64 0), .nils, .nils, .nils, .nils] []), none⟩,⟨none, .m (.store 11 (.t 4) (.t 13)), none⟩,⟨some 5, .t (.mv (.c (.bool false))), none⟩]
def F89o4 : List AOper := [⟨some 14, .t (.faddr 6 (.t 2)), none⟩,⟨some 15, .m (.load false 1 (.t 14)), none⟩,⟨some 16, .t (.mv (.t 6)), none⟩,⟨some 17, .t (.iaddr 11 (.t 15) (.t 16)), none⟩,⟨some 18, .m (.load true 11 (.t 17)), none⟩,⟨none, .m (.store 11 (.t 4) (.t 18)), none⟩,⟨some 5, .t (.mv (.c (.bool true))), none⟩]
def F89c : ACode :=
(.seq (.ops F89o0 [2, 3, 4])
((.seq (.ops F89o1 [2, 4, 6])
((.seq ((.seq (.ops F89o2 [2, 4, 6, 12])
(.cond (.t 12)
((.seq (.ops F89o3 [4, 5])
(.ret)))
(.skip))))
((.seq (.ops F89o4 [4, 5])
(.ret))))))))
def F89 : AFn := ⟨19, [.cell 4 true 11, .tmp 5], F89c⟩
theorem F89_ok : cFn Tryd.prog [2, 3] 89 = some F89 := by kernel_rfl
def F94o0 : List AOper := [⟨some 4, .t (.mv (.c (.int .i64 0))), none⟩]
def F94o1 : List AOper := [⟨some 6, .t (.mv (.t 0)), none⟩,⟨some 7, .t (.len false (.t 6)), none⟩,⟨some 8, .t (.mv (.c (.int .i64 0))), none⟩]
def F94o2 : List AOper := [⟨some 9, .t (.bin .lss (.t 8) (.t 7)), none⟩]
def F94o3 : List AOper := [⟨some 10, .t (.mv (.t 8)), none⟩,⟨some 5, .t (.mv (.t 10)), none⟩]
def F94o4 : List AOper := [⟨some 11, .t (.mv (.t 1)), none⟩,⟨some 12, .t (.mv (.t 0)), none⟩,⟨some 13, .t (.mv (.t 5)), none⟩,⟨some 14, .t (.iaddr 11 (.t 12) (.t 13)), none⟩,⟨some 15, .m (.load true 11 (.t 14)), none⟩,⟨some 16, .call (.t 11) [(.t 15)], none⟩]
def F94o5 : List AOper := [⟨some 17, .t (.mv (.t 5)), none⟩,⟨some 4, .t (.mv (.t 17)), none⟩]
def F94o6 : List AOper := [⟨some 18, .t (.bin .add (.t 8) (.c (.int .i64 1))), none⟩,⟨some 8, .t (.mv (.t 18)), none⟩]
def F94b7 : ACode :=
(.seq (.ops F94o2 [0, 1, 7, 8, 9])
((.seq (.cond (.t 9)
(.skip)
(.exit 0))
((.seq (.block 1 ((.seq (.ops F94o3 [0, 1, 5, 7, 8])
((.seq (.ops F94o4 [0, 1, 5, 7, 8, 16])
(.cond (.t 16)
((.seq (.ops F94o5 [4])
(.ret)))
(.skip)))))))
(.ops F94o6 [0, 1, 7, 8]))))))
def F94o8 : List AOper := [⟨some 4, .t (.mv (.c (.int .i64 (-1)))), none⟩]
def F94c : ACode :=
(.seq (.ops F94o0 [0, 1])
((.seq ((.seq (.ops F94o1 [0, 1, 7, 8])
(.block 0 (.loop [0, 1, 7, 8] F94b7))))
((.seq (.ops F94o8 [4])
(.ret))))))
def F94 : AFn := ⟨19, [.tmp 4], F94c⟩
theorem F94_ok : cFn Tryd.prog [] 94 = some F94 := by kernel_rfl
def F95o0 : List AOper := [⟨some 4, .t (.mv (.c .nils)), none⟩]
def F95o1 : List AOper := [⟨some 8, .t (.mv (.t 0)), none⟩,⟨some 9, .t (.mv (.t 1)), none⟩,⟨some 10, .call (.c (.clo 117 [] [])) [(.t 8), (.t 9)], none⟩,⟨some 5, .t (.mv (.t 10)), none⟩]
def F95o2 : List AOper := [⟨some 11, .t (.mv (.t 5)), none⟩,⟨some 12, .t (.bin .eql (.t 11) (.c (.int .i64 (-1)))), none⟩]
def F95o3 : List AOper := [⟨some 13, .t (.mv (.t 0)), none⟩,⟨some 4, .t (.mv (.t 13)), none⟩]
def F95o4 : List AOper := [⟨some 14, .t (.mv (.t 5)), none⟩,⟨some 15, .t (.bin .add (.t 14) (.c (.int .i64 1))), none⟩,⟨some 6, .t (.mv (.t 15)), none⟩]
def F95o5 : List AOper := [⟨some 16, .t (.mv (.t 6)), none⟩,⟨some 17, .t (.mv (.t 0)), none⟩,⟨some 18, .t (.len false (.t 17)), none⟩,⟨some 19, .t (.bin .lss (.t 16) (.t 18)), none⟩]
def F95o6 : List AOper := [⟨some 22, .t (.mv (.t 0)), none⟩,⟨some 23, .t (.mv (.t 6)), none⟩,⟨some 24, .t (.iaddr 7 (.t 22) (.t 23)), none⟩,⟨some 25, .m (.load true 7 (.t 24)), none⟩,⟨some 7, .m (.alloc 127 [(.str []), (.int .i64 0), (.int .i64 0), (.int .i64 0), (.str []), .nils, .nils]), none⟩,⟨none, .m (.store 7 (.t 7) (.t 25)), none⟩]
def F95o7 : List AOper := [⟨some 26, .t (.mv (.t 1)), none⟩,⟨some 27, .m (.load true 7 (.t 7)), none⟩,⟨some 28, .call (.t 26) [(.t 27)], none⟩,⟨some 29, .t (.not (.t 28)), none⟩]
def F95o8 : List AOper := [⟨some 30, .t (.mv (.t 0)), none⟩,⟨some 31, .t (.mv (.t 5)), none⟩,⟨some 32, .m (.load true 7 (.t 7)), none⟩,⟨some 33, .t (.iaddr 7 (.t 30) (.t 31)), none⟩,⟨none, .m (.store 7 (.t 33) (.t 32)), none⟩]
def F95o9 : List AOper := [⟨some 34, .t (.mv (.t 5)), none⟩,⟨some 35, .t (.bin .add (.t 34) (.c (.int .i64 1))), none⟩,⟨some 5, .t (.mv (.t 35)), none⟩]
def F95o10 : List AOper := [⟨some 20, .t (.mv (.t 6)), none⟩,⟨some 21, .t (.bin .add (.t 20) (.c (.int .i64 1))), none⟩,⟨some 6, .t (.mv (.t 21)), none⟩]
def F95b11 : ACode :=
(.seq ((.seq (.ops F95o5 [0, 1, 5, 6, 19])
(.cond (.t 19)
(.skip)
(.exit 0))))
((.seq (.block 1 ((.seq (.ops F95o6 [0, 1, 5, 6, 7])
((.seq (.ops F95o7 [0, 1, 5, 6, 7, 29])
(.cond (.t 29)
((.seq (.ops F95o8 [0, 1, 5, 6])
(.ops F95o9 [0, 1, 5, 6])))
(.skip)))))))
(.ops F95o10 [0, 1, 5, 6]))))
def F95o12 : List AOper := [⟨some 36, .t (.mv (.t 0)), none⟩,⟨some 37, .t (.mv (.t 5)), none⟩,⟨some 38, .t (.sliceL 7 (.t 36) (some (.t 37)) none), none⟩,⟨none, .m (.clear 7 [(.str []), (.int .i64 0), (.int .i64 0), (.int .i64 0), (.str []), .nils, .nils] (.t 38)), none⟩]
def F95o13 : List AOper := [⟨some 39, .t (.mv (.t 0)), none⟩,⟨some 40, .t (.mv (.t 5)), none⟩,⟨some 41, .t (.sliceL 7 (.t 39) none (some (.t 40))), none⟩,⟨some 4, .t (.mv (.t 41)), none⟩]
def F95c : ACode :=
(.seq (.ops F95o0 [0, 1])
((.seq (.ops F95o1 [0, 1, 5])
((.seq ((.seq (.ops F95o2 [0, 1, 5, 12])
(.cond (.t 12)
((.seq (.ops F95o3 [4])
(.ret)))
(.skip))))
((.seq ((.seq (.ops F95o4 [0, 1, 5, 6])
(.block 0 (.loop [0, 1, 5, 6] F95b11))))
((.seq (.ops F95o12 [0, 5])
((.seq (.ops F95o13 [4])
(.ret))))))))))))
def F95 : AFn := ⟨42, [.tmp 4], F95c⟩
theorem F95_ok : cFn Tryd.prog [] 95 = some F95 := by kernel_rfl
def F96o0 : List AOper := [⟨some 2, .t (.mv (.c .nils)), none⟩]
def F96o1 : List AOper := [⟨some 3, .t (.mv (.t 0)), none⟩,⟨some 4, .t (.beq 2 false (.t 3) (.c .nils)), none⟩]
def F96o2 : List AOper := [⟨some 2, .t (.mv (.c .nils)), none⟩]
def F96o3 : List AOper := [⟨some 5, .m (.bslice true 127 7 0 []), none⟩,⟨some 6, .t (.mv (.t 0)), none⟩,⟨some 7, .m (.append true 127 7 104 (.t 5) (.t 6)), none⟩,⟨some 2, .t (.mv (.t 7)), none⟩]
def F96c : ACode :=
(.seq (.ops F96o0 [0])
((.seq ((.seq (.ops F96o1 [0, 4])
(.cond (.t 4)
((.seq (.ops F96o2 [2])
(.ret)))
(.skip))))
((.seq (.ops F96o3 [2])
(.ret))))))
def F96 : AFn := ⟨8, [.tmp 2], F96c⟩
theorem F96_ok : cFn Tryd.prog [5, 7] 96 = some F96 := by kernel_rfl
def F97o0 : List AOper := [⟨some 2, .m (.cbox 127 (.t 0)), none⟩,⟨some 3, .t (.mv (.c (.bool false))), none⟩]
def F97o1 : List AOper := [⟨some 7, .m (.load true 7 (.t 1)), none⟩,⟨some 8, .t (.faddr 0 (.t 2)), none⟩,⟨some 9, .m (.load false 1 (.t 8)), none⟩,⟨some 10, .call (.c (.clo 89 [] [])) [(.t 7), (.t 9)], none⟩,⟨some 6, .t (.mv (.t 10)), none⟩,⟨some 11, .t (.ext (.t 6) 0), none⟩,⟨some 12, .t (.ext (.t 6) 1), none⟩,⟨some 4, .m (.alloc 79 [(.int .i64 0), (.str []), (.int .i64 0), (.int .i64 0), (.int .i64 0), (.int .i64 0), (.int .i64 0), .nils, .nils, .nils, .nils]), none⟩,⟨none, .m (.store 11 (.t 4) (.t 11)), none⟩,⟨some 5, .t (.mv (.t 12)), none⟩]
def F97o2 : List AOper := [⟨some 13, .t (.mv (.t 5)), none⟩,⟨some 14, .t (.mv (.t 13)), none⟩,⟨some 15, .t (.faddr 2 (.t 4)), (some (14, true))⟩,
  ⟨some 16, .m (.load false 1 (.t 15)), (some (14, true))⟩,
  ⟨some 17, .t (.bin .eql (.t 16) (.c (.int .i64 3))), (some (14, true))⟩,
  ⟨some 18, .t (.pick (.t 14) (.t 17) (.c (.bool false))), none⟩,⟨some 19, .t (.mv (.t 18)), none⟩,⟨some 20, .t (.faddr 10 (.t 4)), (some (19, true))⟩,
  ⟨some 21, .m (.load false 1 (.t 20)), (some (19, true))⟩,
  ⟨some 22, .t (.len false (.t 21)), (some (19, true))⟩,
  ⟨some 23, .t (.bin .eql (.t 22) (.c (.int .i64 1))), (some (19, true))⟩,
  ⟨some 24, .t (.pick (.t 19) (.t 23) (.c (.bool false))), none⟩,⟨some 25, .t (.mv (.t 24)), none⟩,⟨some 26, .t (.faddr 10 (.t 4)), (some (25, true))⟩,
  ⟨some 27, .m (.load false 1 (.t 26)), (some (25, true))⟩,
  ⟨some 28, .t (.iaddr 6 (.t 27) (.c (.int .i64 0))), (some (25, true))⟩,
  ⟨some 29, .m (.load true 6 (.t 28)), (some (25, true))⟩,
  ⟨some 30, .t (.faddr 1 (.t 2)), (some (25, true))⟩,
  ⟨some 31, .m (.load true 6 (.t 30)), (some (25, true))⟩]
def F97p2 : List AOper := [⟨some 32, .call (.c (.clo 98 [] [])) [(.t 29), (.t 31)], (some (25, true))⟩,
  ⟨some 33, .t (.pick (.t 25) (.t 32) (.c (.bool false))), none⟩,⟨some 3, .t (.mv (.t 33)), none⟩]
def F97A2 : List (List Nat) := [[], [0], [1, 0], [2, 1, 0], [3, 2, 1, 0], [4, 3, 2, 1, 0], [5, 4, 3, 2, 1, 0], [6, 5, 4, 3, 2, 1, 0], [7, 6, 5, 4, 3, 2, 1, 0], [8, 7, 6, 5, 4, 3, 2, 1, 0], [9, 8, 7, 6, 5, 4, 3, 2, 1, 0], [10, 9, 8, 7, 6, 5, 4, 3, 2, 1, 0], [11, 10, 9, 8, 7, 6, 5, 4, 3, 2, 1, 0], [12, 11, 10, 9, 8, 7, 6, 5, 4, 3, 2, 1, 0], [13, 12, 11, 10, 9, 8, 7, 6, 5, 4, 3, 2, 1, 0], [14, 13, 12, 11, 10, 9, 8, 7, 6, 5, 4, 3, 2, 1, 0], [15, 14, 13, 12, 11, 10, 9, 8, 7, 6, 5, 4, 3, 2, 1, 0], [12, 11, 10, 9, 8, 7, 6, 5, 4, 3, 2, 1, 0], [17, 12, 11, 10, 9, 8, 7, 6, 5, 4, 3, 2, 1, 0], [16, 18, 15, 14, 13, 17, 12, 11, 10, 9, 8, 7, 6, 5, 4, 3, 2, 1, 0], [19, 16, 18, 15, 14, 13, 17, 12, 11, 10, 9, 8, 7, 6, 5, 4, 3, 2, 1, 0], [20, 19, 16, 18, 15, 14, 13, 17, 12, 11, 10, 9, 8, 7, 6, 5, 4, 3, 2, 1, 0]]
def F97c : ACode :=
(.seq (.ops F97o0 [1, 2])
((.seq (.ops F97o1 [2, 4, 5])
((.seq (.draw F97A2 F97o2 F97p2 [3])
(.ret))))))
def F97 : AFn := ⟨34, [.tmp 3], F97c⟩
theorem F97_ok : cFn Tryd.prog [2] 97 = some F97 := by kernel_rfl
def F98o0 : List AOper := [⟨some 2, .m (.cbox 62 (.t 0)), none⟩,⟨some 3, .m (.cbox 62 (.t 1)), none⟩,⟨some 4, .t (.mv (.c (.bool false))), none⟩]
def F98o1 : List AOper := [⟨some 5, .m (.load true 6 (.t 2)), none⟩,⟨some 6, .m (.load true 6 (.t 3)), none⟩,⟨some 7, .call (.c (.clo 118 [] [])) [(.t 5), (.t 6)], none⟩,⟨some 8, .t (.bin .eql (.t 7) (.c (.int .i64 0))), none⟩,⟨some 4, .t (.mv (.t 8)), none⟩]
def F98c : ACode :=
(.seq (.ops F98o0 [2, 3])
((.seq (.ops F98o1 [4])
(.ret))))
def F98 : AFn := ⟨9, [.tmp 4], F98c⟩
theorem F98_ok : cFn Tryd.prog [2, 3] 98 = some F98 := by kernel_rfl
def F99o0 : List AOper := [⟨some 3, .m (.cbox 58 (.t 0)), none⟩,⟨some 4, .m (.cbox 62 (.t 1)), none⟩,⟨some 6, .m (.alloc 62 [(.int .i64 0), (.int .i64 0), (.int .i64 0), (.str []), .nils, .nils]), none⟩]
def F99o1 : List AOper := [⟨some 16, .m (.load true 6 (.t 4)), none⟩,⟨some 7, .m (.alloc 62 [(.int .i64 0), (.int .i64 0), (.int .i64 0), (.str []), .nils, .nils]), none⟩,⟨none, .m (.store 6 (.t 7) (.t 16)), none⟩]
def F99o2 : List AOper := [⟨some 18, .t (.faddr 0 (.t 3)), none⟩,⟨some 19, .m (.load false 1 (.t 18)), none⟩,⟨some 20, .t (.bin .eql (.t 19) (.c (.int .i64 8))), none⟩,⟨some 21, .t (.mv (.t 20)), none⟩,⟨some 22, .t (.faddr 5 (.t 3)), (some (21, true))⟩,
  ⟨some 23, .m (.load false 1 (.t 22)), (some (21, true))⟩,
  ⟨some 24, .t (.len false (.t 23)), (some (21, true))⟩,
  ⟨some 25, .t (.bin .eql (.t 24) (.c (.int .i64 1))), (some (21, true))⟩,
  ⟨some 26, .t (.pick (.t 21) (.t 25) (.c (.bool false))), none⟩,⟨some 17, .t (.mv (.t 26)), none⟩]
def F99o3 : List AOper := [⟨some 27, .t (.faddr 4 (.t 7)), none⟩,⟨none, .m (.store 1 (.t 27) (.c .nils)), none⟩]
def F99o4 : List AOper := [⟨some 28, .t (.faddr 4 (.t 4)), none⟩,⟨some 29, .m (.load false 1 (.t 28)), none⟩,⟨some 30, .t (.len false (.t 29)), none⟩,⟨some 31, .t (.mv (.c (.int .i64 0))), none⟩]
def F99o5 : List AOper := [⟨some 32, .t (.bin .lss (.t 31) (.t 30)), none⟩]
def F99o6 : List AOper := [⟨some 33, .t (.iaddr 6 (.t 29) (.t 31)), none⟩,⟨some 34, .m (.load true 6 (.t 33)), none⟩,⟨some 9, .m (.alloc 62 [(.int .i64 0), (.int .i64 0), (.int .i64 0), (.str []), .nils, .nils]), none⟩,⟨none, .m (.store 6 (.t 9) (.t 34)), none⟩]
def F99o7 : List AOper := [⟨some 35, .t (.faddr 4 (.t 7)), none⟩,⟨some 36, .m (.load false 1 (.t 35)), none⟩,⟨some 37, .t (.mv (.t 2)), none⟩,⟨some 38, .t (.faddr 5 (.t 3)), none⟩,⟨some 39, .m (.load false 1 (.t 38)), none⟩,⟨some 40, .t (.iaddr 7 (.t 39) (.c (.int .i64 0))), none⟩,⟨some 41, .m (.load true 7 (.t 40)), none⟩,⟨some 42, .m (.load true 6 (.t 9)), none⟩,⟨some 43, .call (.t 37) [(.t 41), (.t 42)], none⟩,⟨some 44, .m (.bslice false 62 6 1 [(.t 43)]), none⟩]
def F99p7 : List AOper := [⟨some 45, .m (.append false 62 6 88 (.t 36) (.t 44)), none⟩,⟨some 46, .t (.faddr 4 (.t 7)), none⟩,⟨none, .m (.store 1 (.t 46) (.t 45)), none⟩]
def F99A7 : List (List Nat) := [[], [0], [], [], [3], [4, 3], [5, 4, 3], [], [2, 6, 7, 5, 4, 3], [8, 2, 6, 7, 5, 4, 3], [1, 9, 0, 8, 2, 6, 7, 5, 4, 3], [10, 1, 9, 0, 8, 2, 6, 7, 5, 4, 3], [11, 10, 1, 9, 0, 8, 2, 6, 7, 5, 4, 3]]
def F99o8 : List AOper := [⟨some 47, .t (.bin .add (.t 31) (.c (.int .i64 1))), none⟩,⟨some 31, .t (.mv (.t 47)), none⟩]
def F99b9 : ACode :=
(.seq (.ops F99o5 [2, 3, 6, 7, 29, 30, 31, 32])
((.seq (.cond (.t 32)
(.skip)
(.exit 1))
((.seq (.block 2 ((.seq (.ops F99o6 [2, 3, 6, 7, 9, 29, 30, 31])
(.draw F99A7 F99o7 F99p7 [2, 3, 6, 7, 29, 30, 31]))))
(.ops F99o8 [2, 3, 6, 7, 29, 30, 31]))))))
def F99o10 : List AOper := [⟨some 49, .t (.faddr 0 (.t 3)), none⟩,⟨some 50, .m (.load false 1 (.t 49)), none⟩,⟨some 51, .t (.bin .eql (.t 50) (.c (.int .i64 9))), none⟩,⟨some 48, .t (.mv (.t 51)), none⟩]
def F99o11 : List AOper := [⟨some 52, .t (.faddr 5 (.t 7)), none⟩,⟨none, .m (.store 1 (.t 52) (.c .nils)), none⟩]
def F99o12 : List AOper := [⟨some 53, .t (.faddr 5 (.t 4)), none⟩,⟨some 54, .m (.load false 1 (.t 53)), none⟩,⟨some 55, .t (.len false (.t 54)), none⟩,⟨some 56, .t (.mv (.c (.int .i64 0))), none⟩]
def F99o13 : List AOper := [⟨some 57, .t (.bin .lss (.t 56) (.t 55)), none⟩]
def F99o14 : List AOper := [⟨some 58, .t (.iaddr 7 (.t 54) (.t 56)), none⟩,⟨some 59, .m (.load true 7 (.t 58)), none⟩,⟨some 11, .m (.alloc 127 [(.str []), (.int .i64 0), (.int .i64 0), (.int .i64 0), (.str []), .nils, .nils]), none⟩,⟨none, .m (.store 7 (.t 11) (.t 59)), none⟩]
def F99o15 : List AOper := [⟨some 61, .m (.load true 7 (.t 3)), none⟩,⟨some 62, .t (.faddr 0 (.t 11)), none⟩,⟨some 63, .m (.load false 1 (.t 62)), none⟩,⟨some 64, .call (.c (.clo 89 [] [])) [(.t 61), (.t 63)], none⟩,⟨some 60, .t (.mv (.t 64)), none⟩,⟨some 65, .t (.ext (.t 60) 0), none⟩,⟨some 66, .t (.ext (.t 60) 1), none⟩,⟨some 12, .m (.alloc 79 [(.int .i64 0), (.str []), (.int .i64 0), (.int .i64 0), (.int .i64 0), (.int .i64 0), (.int .i64 0), .nils, .nils, .nils, .nils]), none⟩,⟨none, .m (.store 11 (.t 12) (.t 65)), none⟩,⟨some 13, .t (.mv (.t 66)), none⟩]
def F99o16 : List AOper := [⟨some 67, .t (.mv (.t 13)), none⟩]
def F99o17 : List AOper := [⟨some 68, .t (.mv (.t 2)), none⟩,⟨some 69, .t (.faddr 3 (.t 12)), none⟩,⟨some 70, .m (.load true 7 (.t 69)), none⟩,⟨some 71, .t (.faddr 1 (.t 11)), none⟩,⟨some 72, .m (.load true 6 (.t 71)), none⟩,⟨some 73, .call (.t 68) [(.t 70), (.t 72)], none⟩,⟨some 74, .t (.faddr 1 (.t 11)), none⟩,⟨none, .m (.store 6 (.t 74) (.t 73)), none⟩]
def F99o18 : List AOper := [⟨some 75, .t (.faddr 5 (.t 7)), none⟩,⟨some 76, .m (.load false 1 (.t 75)), none⟩,⟨some 77, .m (.load true 7 (.t 11)), none⟩,⟨some 78, .m (.bslice false 127 7 1 [(.t 77)]), none⟩,⟨some 79, .m (.append true 127 7 104 (.t 76) (.t 78)), none⟩,⟨some 80, .t (.faddr 5 (.t 7)), none⟩,⟨none, .m (.store 1 (.t 80) (.t 79)), none⟩]
def F99o19 : List AOper := [⟨some 81, .t (.bin .add (.t 56) (.c (.int .i64 1))), none⟩,⟨some 56, .t (.mv (.t 81)), none⟩]
def F99b20 : ACode :=
(.seq (.ops F99o13 [2, 3, 6, 7, 54, 55, 56, 57])
((.seq (.cond (.t 57)
(.skip)
(.exit 3))
((.seq (.block 4 ((.seq (.ops F99o14 [2, 3, 6, 7, 11, 54, 55, 56])
((.seq ((.seq (.ops F99o15 [2, 3, 6, 7, 11, 12, 13, 54, 55, 56])
((.seq (.ops F99o16 [2, 3, 6, 7, 11, 12, 54, 55, 56, 67])
(.cond (.t 67)
(.ops F99o17 [2, 3, 6, 7, 11, 54, 55, 56])
(.skip))))))
(.ops F99o18 [2, 3, 6, 7, 54, 55, 56]))))))
(.ops F99o19 [2, 3, 6, 7, 54, 55, 56]))))))
def F99o21 : List AOper := [⟨some 83, .t (.faddr 0 (.t 3)), none⟩,⟨some 84, .m (.load false 1 (.t 83)), none⟩,⟨some 85, .t (.bin .eql (.t 84) (.c (.int .i64 10))), none⟩,⟨some 82, .t (.mv (.t 85)), none⟩]
def F99o22 : List AOper := [⟨some 87, .m (.load true 7 (.t 3)), none⟩,⟨some 88, .t (.faddr 3 (.t 4)), none⟩,⟨some 89, .m (.load false 1 (.t 88)), none⟩,⟨some 90, .call (.c (.clo 89 [] [])) [(.t 87), (.t 89)], none⟩,⟨some 86, .t (.mv (.t 90)), none⟩,⟨some 91, .t (.ext (.t 86) 0), none⟩,⟨some 92, .t (.ext (.t 86) 1), none⟩,⟨some 14, .m (.alloc 79 [(.int .i64 0), (.str []), (.int .i64 0), (.int .i64 0), (.int .i64 0), (.int .i64 0), (.int .i64 0), .nils, .nils, .nils, .nils]), none⟩,⟨none, .m (.store 11 (.t 14) (.t 91)), none⟩,⟨some 15, .t (.mv (.t 92)), none⟩]
def F99o23 : List AOper := [⟨some 93, .t (.mv (.t 15)), none⟩]
def F99o24 : List AOper := [⟨some 94, .t (.mv (.t 2)), none⟩,⟨some 95, .t (.faddr 3 (.t 14)), none⟩,⟨some 96, .m (.load true 7 (.t 95)), none⟩,⟨some 97, .t (.faddr 4 (.t 4)), none⟩,⟨some 98, .m (.load false 1 (.t 97)), none⟩,⟨some 99, .t (.iaddr 6 (.t 98) (.c (.int .i64 0))), none⟩,⟨some 100, .m (.load true 6 (.t 99)), none⟩]
def F99p24 : List AOper := [⟨some 101, .call (.t 94) [(.t 96), (.t 100)], none⟩,⟨some 102, .m (.bslice false 62 6 1 [(.t 101)]), none⟩,⟨some 103, .t (.faddr 4 (.t 7)), none⟩,⟨none, .m (.store 1 (.t 103) (.t 102)), none⟩]
def F99A24 : List (List Nat) := [[], [], [1], [], [3], [4, 3], [5, 4, 3], [0, 2, 6, 1, 5, 4, 3], [7, 0, 2, 6, 1, 5, 4, 3], [8, 7, 0, 2, 6, 1, 5, 4, 3], [9, 8, 7, 0, 2, 6, 1, 5, 4, 3]]
def F99o25 : List AOper := [⟨some 104, .m (.load true 6 (.t 7)), none⟩,⟨none, .m (.store 6 (.t 6) (.t 104)), none⟩]
def F99c : ACode :=
(.seq (.ops F99o0 [2, 3, 4, 6])
((.seq (.ops F99o1 [2, 3, 4, 6, 7])
((.seq (.block 0 ((.seq (.ops F99o2 [2, 3, 4, 6, 7, 17])
(.cond (.t 17)
((.seq (.ops F99o3 [2, 3, 4, 6, 7])
((.seq (.ops F99o4 [2, 3, 6, 7, 29, 30, 31])
(.block 1 (.loop [2, 3, 6, 7, 29, 30, 31] F99b9))))))
((.seq (.ops F99o10 [2, 3, 4, 6, 7, 48])
(.cond (.t 48)
((.seq (.ops F99o11 [2, 3, 4, 6, 7])
((.seq (.ops F99o12 [2, 3, 6, 7, 54, 55, 56])
(.block 3 (.loop [2, 3, 6, 7, 54, 55, 56] F99b20))))))
((.seq (.ops F99o21 [2, 3, 4, 6, 7, 82])
(.cond (.t 82)
((.seq (.ops F99o22 [2, 4, 6, 7, 14, 15])
((.seq (.ops F99o23 [2, 4, 6, 7, 14, 93])
(.cond (.t 93)
(.draw F99A24 F99o24 F99p24 [6, 7])
(.skip))))))
(.skip)))))))))))
((.seq (.ops F99o25 [6])
(.ret))))))))
def F99 : AFn := ⟨105, [.cell 6 true 6], F99c⟩
theorem F99_ok : cFn Tryd.prog [79, 3, 4] 99 = some F99 := by kernel_rfl
def F100o0 : List AOper := [⟨some 6, .t (.mv (.c (.int .i64 0))), none⟩,⟨some 7, .t (.mv (.c (.bool false))), none⟩]
def F100o1 : List AOper := [⟨some 12, .t (.mv (.t 0)), none⟩,⟨some 13, .t (.len false (.t 12)), none⟩,⟨some 8, .t (.mv (.t 13)), none⟩]
def F100o2 : List AOper := [⟨some 14, .t (.mv (.t 8)), none⟩,⟨some 9, .t (.mv (.c (.int .i64 0))), none⟩,⟨some 10, .t (.mv (.t 14)), none⟩]
def F100o3 : List AOper := [⟨some 15, .t (.mv (.t 9)), none⟩,⟨some 16, .t (.mv (.t 10)), none⟩,⟨some 17, .t (.bin .lss (.t 15) (.t 16)), none⟩]
def F100o4 : List AOper := [⟨some 18, .t (.mv (.t 9)), none⟩,⟨some 19, .t (.mv (.t 10)), none⟩,⟨some 20, .t (.bin .add (.t 18) (.t 19)), none⟩,⟨some 21, .t (.conv .u64 (.t 20)), none⟩,⟨some 22, .t (.bin .shr (.t 21) (.c (.int .u64 1))), none⟩,⟨some 23, .t (.conv .i64 (.t 22)), none⟩,⟨some 11, .t (.mv (.t 23)), none⟩]
def F100o5 : List AOper := [⟨some 24, .t (.mv (.t 2)), none⟩,⟨some 25, .t (.mv (.t 0)), none⟩,⟨some 26, .t (.mv (.t 11)), none⟩,⟨some 27, .t (.iaddr 7 (.t 25) (.t 26)), none⟩,⟨some 28, .m (.load true 7 (.t 27)), none⟩,⟨some 29, .t (.mv (.t 1)), none⟩,⟨some 30, .call (.t 24) [(.t 28), (.t 29)], none⟩,⟨some 31, .t (.bin .lss (.t 30) (.c (.int .i64 0))), none⟩]
def F100o6 : List AOper := [⟨some 32, .t (.mv (.t 11)), none⟩,⟨some 33, .t (.bin .add (.t 32) (.c (.int .i64 1))), none⟩,⟨some 9, .t (.mv (.t 33)), none⟩]
def F100o7 : List AOper := [⟨some 34, .t (.mv (.t 11)), none⟩,⟨some 10, .t (.mv (.t 34)), none⟩]
def F100b8 : ACode :=
(.seq ((.seq (.ops F100o3 [0, 1, 2, 8, 9, 10, 17])
(.cond (.t 17)
(.skip)
(.exit 0))))
(.block 1 ((.seq (.ops F100o4 [0, 1, 2, 8, 9, 10, 11])
((.seq (.ops F100o5 [0, 1, 2, 8, 9, 10, 11, 31])
(.cond (.t 31)
(.ops F100o6 [0, 1, 2, 8, 9, 10])
(.ops F100o7 [0, 1, 2, 8, 9, 10]))))))))
def F100o9 : List AOper := [⟨some 35, .t (.mv (.t 9)), none⟩,⟨some 36, .t (.mv (.t 9)), none⟩,⟨some 37, .t (.mv (.t 8)), none⟩,⟨some 38, .t (.bin .lss (.t 36) (.t 37)), none⟩,⟨some 39, .t (.mv (.t 38)), none⟩,⟨some 40, .t (.mv (.t 2)), (some (39, true))⟩,
  ⟨some 41, .t (.mv (.t 0)), (some (39, true))⟩,
  ⟨some 42, .t (.mv (.t 9)), (some (39, true))⟩,
  ⟨some 43, .t (.iaddr 7 (.t 41) (.t 42)), (some (39, true))⟩,
  ⟨some 44, .m (.load true 7 (.t 43)), (some (39, true))⟩,
  ⟨some 45, .t (.mv (.t 1)), (some (39, true))⟩,
  ⟨some 46, .call (.t 40) [(.t 44), (.t 45)], (some (39, true))⟩,
  ⟨some 47, .t (.bin .eql (.t 46) (.c (.int .i64 0))), (some (39, true))⟩,
  ⟨some 48, .t (.pick (.t 39) (.t 47) (.c (.bool false))), none⟩,⟨some 6, .t (.mv (.t 35)), none⟩,⟨some 7, .t (.mv (.t 48)), none⟩]
def F100c : ACode :=
(.seq (.ops F100o0 [0, 1, 2])
((.seq (.ops F100o1 [0, 1, 2, 8])
((.seq (.ops F100o2 [0, 1, 2, 8, 9, 10])
((.seq (.block 0 (.loop [0, 1, 2, 8, 9, 10] F100b8))
((.seq (.ops F100o9 [6, 7])
(.ret))))))))))
def F100 : AFn := ⟨49, [.tmp 6, .tmp 7], F100c⟩
theorem F100_ok : cFn Tryd.prog [] 100 = some F100 := by kernel_rfl
def F101o0 : List AOper := [⟨some 2, .m (.cbox 127 (.t 0)), none⟩,⟨some 4, .t (.mv (.c (.int .i64 0))), none⟩]
def F101o1 : List AOper := [⟨some 5, .t (.faddr 0 (.t 2)), none⟩,⟨some 6, .m (.load false 1 (.t 5)), none⟩,⟨some 7, .t (.mv (.t 1)), none⟩,⟨some 8, .call (.c (.clo 102 [] [])) [(.t 6), (.t 7)], none⟩,⟨some 4, .t (.mv (.t 8)), none⟩]
def F101c : ACode :=
(.seq (.ops F101o0 [1, 2])
((.seq (.ops F101o1 [4])
(.ret))))
def F101 : AFn := ⟨9, [.tmp 4], F101c⟩
theorem F101_ok : cFn Tryd.prog [2] 101 = some F101 := by kernel_rfl
def F103o0 : List AOper := [⟨some 6, .t (.mv (.c .nils)), none⟩]
def F103o1 : List AOper := [⟨some 10, .t (.mv (.t 0)), none⟩,⟨some 11, .t (.mv (.t 1)), none⟩,⟨some 12, .t (.sliceL 7 (.t 10) (some (.t 11)) none), none⟩]
def F103o2 : List AOper := [⟨some 13, .t (.mv (.t 2)), none⟩,⟨some 14, .t (.len false (.t 13)), none⟩,⟨some 7, .t (.mv (.t 14)), none⟩]
def F103o3 : List AOper := [⟨some 15, .t (.mv (.t 7)), none⟩,⟨some 16, .t (.bin .eql (.t 15) (.c (.int .i64 0))), none⟩]
def F103o4 : List AOper := [⟨some 17, .t (.mv (.t 0)), none⟩,⟨some 6, .t (.mv (.t 17)), none⟩]
def F103o5 : List AOper := [⟨some 18, .t (.mv (.t 0)), none⟩,⟨some 19, .t (.len false (.t 18)), none⟩,⟨some 8, .t (.mv (.t 19)), none⟩]
def F103o6 : List AOper := [⟨some 20, .t (.mv (.t 1)), none⟩,⟨some 21, .t (.mv (.t 8)), none⟩,⟨some 22, .t (.bin .eql (.t 20) (.t 21)), none⟩]
def F103o7 : List AOper := [⟨some 23, .t (.mv (.t 0)), none⟩,⟨some 24, .t (.mv (.t 2)), none⟩,⟨some 25, .m (.append true 127 7 104 (.t 23) (.t 24)), none⟩,⟨some 6, .t (.mv (.t 25)), none⟩]
def F103o8 : List AOper := [⟨some 26, .t (.mv (.t 8)), none⟩,⟨some 27, .t (.mv (.t 7)), none⟩,⟨some 28, .t (.bin .add (.t 26) (.t 27)), none⟩,⟨some 29, .t (.mv (.t 0)), none⟩,⟨some 30, .m (.xop (.cap 7 (.t 29))), none⟩,⟨some 31, .t (.bin .gtr (.t 28) (.t 30)), none⟩]
def F103o9 : List AOper := [⟨some 32, .t (.mv (.t 0)), none⟩,⟨some 33, .t (.mv (.t 1)), none⟩,⟨some 34, .t (.sliceL 7 (.t 32) none (some (.t 33))), none⟩,⟨some 35, .t (.mv (.t 8)), none⟩,⟨some 36, .t (.mv (.t 7)), none⟩,⟨some 37, .t (.bin .add (.t 35) (.t 36)), none⟩,⟨some 38, .t (.mv (.t 1)), none⟩,⟨some 39, .t (.bin .sub (.t 37) (.t 38)), none⟩,⟨some 40, .m (.xop (.appz 127 7 104 [(.str []), (.int .i64 0), (.int .i64 0), (.int .i64 0), (.str []), .nils, .nils] (.t 34) (.t 39))), none⟩,⟨some 9, .t (.mv (.t 40)), none⟩]
def F103o10 : List AOper := [⟨some 41, .t (.mv (.t 9)), none⟩,⟨some 42, .t (.mv (.t 1)), none⟩,⟨some 43, .t (.sliceL 7 (.t 41) (some (.t 42)) none), none⟩,⟨some 44, .t (.mv (.t 2)), none⟩,⟨some 45, .m (.xop (.copy 7 (.t 43) (.t 44))), none⟩]
def F103o11 : List AOper := [⟨some 46, .t (.mv (.t 9)), none⟩,⟨some 47, .t (.mv (.t 1)), none⟩,⟨some 48, .t (.mv (.t 7)), none⟩,⟨some 49, .t (.bin .add (.t 47) (.t 48)), none⟩,⟨some 50, .t (.sliceL 7 (.t 46) (some (.t 49)) none), none⟩,⟨some 51, .t (.mv (.t 0)), none⟩,⟨some 52, .t (.mv (.t 1)), none⟩,⟨some 53, .t (.sliceL 7 (.t 51) (some (.t 52)) none), none⟩]
def F103p11 : List AOper := [⟨some 54, .m (.xop (.copy 7 (.t 50) (.t 53))), none⟩]
def F103A11 : List (List Nat) := [[], [], [], [1, 2], [0, 3, 1, 2], [], [], [5, 6], [4, 7, 0, 3, 1, 2, 5, 6]]
def F103o12 : List AOper := [⟨some 55, .t (.mv (.t 9)), none⟩,⟨some 6, .t (.mv (.t 55)), none⟩]
def F103o13 : List AOper := [⟨some 56, .t (.mv (.t 0)), none⟩,⟨some 57, .t (.mv (.t 8)), none⟩,⟨some 58, .t (.mv (.t 7)), none⟩,⟨some 59, .t (.bin .add (.t 57) (.t 58)), none⟩,⟨some 60, .m (.xop (.resl 7 (.t 56) (.t 59))), none⟩,⟨some 0, .t (.mv (.t 60)), none⟩]
def F103o14 : List AOper := [⟨some 61, .t (.mv (.t 2)), none⟩,⟨some 62, .t (.mv (.t 0)), none⟩,⟨some 63, .t (.mv (.t 1)), none⟩,⟨some 64, .t (.mv (.t 7)), none⟩,⟨some 65, .t (.bin .add (.t 63) (.t 64)), none⟩,⟨some 66, .t (.sliceL 7 (.t 62) (some (.t 65)) none), none⟩,⟨some 67, .m (.xop (.apart (.t 61) (.t 66))), none⟩,⟨some 68, .t (.not (.t 67)), none⟩]
def F103o15 : List AOper := [⟨some 69, .t (.mv (.t 0)), none⟩,⟨some 70, .t (.mv (.t 1)), none⟩,⟨some 71, .t (.mv (.t 7)), none⟩,⟨some 72, .t (.bin .add (.t 70) (.t 71)), none⟩,⟨some 73, .t (.sliceL 7 (.t 69) (some (.t 72)) none), none⟩,⟨some 74, .t (.mv (.t 0)), none⟩,⟨some 75, .t (.mv (.t 1)), none⟩,⟨some 76, .t (.sliceL 7 (.t 74) (some (.t 75)) none), none⟩]
def F103p15 : List AOper := [⟨some 77, .m (.xop (.copy 7 (.t 73) (.t 76))), none⟩]
def F103A15 : List (List Nat) := [[], [], [], [1, 2], [0, 3, 1, 2], [], [], [5, 6], [4, 7, 0, 3, 1, 2, 5, 6]]
def F103o16 : List AOper := [⟨some 78, .t (.mv (.t 0)), none⟩,⟨some 79, .t (.mv (.t 1)), none⟩,⟨some 80, .t (.sliceL 7 (.t 78) (some (.t 79)) none), none⟩,⟨some 81, .t (.mv (.t 2)), none⟩,⟨some 82, .m (.xop (.copy 7 (.t 80) (.t 81))), none⟩]
def F103o17 : List AOper := [⟨some 83, .t (.mv (.t 0)), none⟩,⟨some 6, .t (.mv (.t 83)), none⟩]
def F103o18 : List AOper := [⟨some 84, .t (.mv (.t 0)), none⟩,⟨some 85, .t (.mv (.t 8)), none⟩,⟨some 86, .t (.sliceL 7 (.t 84) (some (.t 85)) none), none⟩,⟨some 87, .t (.mv (.t 2)), none⟩,⟨some 88, .m (.xop (.copy 7 (.t 86) (.t 87))), none⟩]
def F103o19 : List AOper := [⟨some 89, .t (.mv (.t 0)), none⟩,⟨some 90, .t (.mv (.t 1)), none⟩,⟨some 91, .t (.sliceL 7 (.t 89) (some (.t 90)) none), none⟩,⟨some 92, .t (.mv (.t 7)), none⟩,⟨some 93, .call (.c (.clo 121 [] [])) [(.t 91), (.t 92)], none⟩]
def F103o20 : List AOper := [⟨some 94, .t (.mv (.t 0)), none⟩,⟨some 6, .t (.mv (.t 94)), none⟩]
def F103c : ACode :=
(.seq (.ops F103o0 [0, 1, 2])
((.seq (.ops F103o1 [0, 1, 2])
((.seq (.ops F103o2 [0, 1, 2, 7])
((.seq ((.seq (.ops F103o3 [0, 1, 2, 7, 16])
(.cond (.t 16)
((.seq (.ops F103o4 [6])
(.ret)))
(.skip))))
((.seq (.ops F103o5 [0, 1, 2, 7, 8])
((.seq ((.seq (.ops F103o6 [0, 1, 2, 7, 8, 22])
(.cond (.t 22)
((.seq (.ops F103o7 [6])
(.ret)))
(.skip))))
((.seq ((.seq (.ops F103o8 [0, 1, 2, 7, 8, 31])
(.cond (.t 31)
((.seq (.ops F103o9 [0, 1, 2, 7, 9])
((.seq (.ops F103o10 [0, 1, 7, 9])
((.seq (.draw F103A11 F103o11 F103p11 [9])
((.seq (.ops F103o12 [6])
(.ret)))))))))
(.skip))))
((.seq (.ops F103o13 [0, 1, 2, 7, 8])
((.seq ((.seq (.ops F103o14 [0, 1, 2, 7, 8, 68])
(.cond (.t 68)
((.seq (.draw F103A15 F103o15 F103p15 [0, 1, 2])
((.seq (.ops F103o16 [0])
((.seq (.ops F103o17 [6])
(.ret)))))))
(.skip))))
((.seq (.ops F103o18 [0, 1, 7])
((.seq (.ops F103o19 [0])
((.seq (.ops F103o20 [6])
(.ret))))))))))))))))))))))))
def F103 : AFn := ⟨95, [.tmp 6], F103c⟩
theorem F103_ok : cFn Tryd.prog [25, 60] 103 = some F103 := by kernel_rfl
def F110o0 : List AOper := [⟨some 2, .t (.mv (.c (.bool false))), none⟩]
def F110o1 : List AOper := [⟨some 3, .t (.mv (.t 0)), none⟩,⟨some 4, .call (.c (.clo 125 [] [])) [(.t 3)], none⟩,⟨some 2, .t (.mv (.t 4)), none⟩]
def F110c : ACode :=
(.seq (.ops F110o0 [0])
((.seq (.ops F110o1 [2])
(.ret))))
def F110 : AFn := ⟨5, [.tmp 2], F110c⟩
theorem F110_ok : cFn Tryd.prog [] 110 = some F110 := by kernel_rfl
def F111o0 : List AOper := [⟨some 4, .t (.mv (.c (.int .i64 0))), none⟩]
def F111o1 : List AOper := [⟨some 6, .t (.mv (.t 0)), none⟩,⟨some 7, .t (.len false (.t 6)), none⟩,⟨some 8, .t (.mv (.c (.int .i64 0))), none⟩]
def F111o2 : List AOper := [⟨some 9, .t (.bin .lss (.t 8) (.t 7)), none⟩]
def F111o3 : List AOper := [⟨some 10, .t (.mv (.t 8)), none⟩,⟨some 5, .t (.mv (.t 10)), none⟩]
def F111o4 : List AOper := [⟨some 11, .t (.mv (.t 1)), none⟩,⟨some 12, .t (.mv (.t 0)), none⟩,⟨some 13, .t (.mv (.t 5)), none⟩,⟨some 14, .t (.iaddr 1 (.t 12) (.t 13)), none⟩,⟨some 15, .m (.load false 1 (.t 14)), none⟩,⟨some 16, .t (.bin .eql (.t 11) (.t 15)), none⟩]
def F111o5 : List AOper := [⟨some 17, .t (.mv (.t 5)), none⟩,⟨some 4, .t (.mv (.t 17)), none⟩]
def F111o6 : List AOper := [⟨some 18, .t (.bin .add (.t 8) (.c (.int .i64 1))), none⟩,⟨some 8, .t (.mv (.t 18)), none⟩]
def F111b7 : ACode :=
(.seq (.ops F111o2 [0, 1, 7, 8, 9])
((.seq (.cond (.t 9)
(.skip)
(.exit 0))
((.seq (.block 1 ((.seq (.ops F111o3 [0, 1, 5, 7, 8])
((.seq (.ops F111o4 [0, 1, 5, 7, 8, 16])
(.cond (.t 16)
((.seq (.ops F111o5 [4])
(.ret)))
(.skip)))))))
(.ops F111o6 [0, 1, 7, 8]))))))
def F111o8 : List AOper := [⟨some 4, .t (.mv (.c (.int .i64 (-1)))), none⟩]
def F111c : ACode :=
(.seq (.ops F111o0 [0, 1])
((.seq ((.seq (.ops F111o1 [0, 1, 7, 8])
(.block 0 (.loop [0, 1, 7, 8] F111b7))))
((.seq (.ops F111o8 [4])
(.ret))))))
def F111 : AFn := ⟨19, [.tmp 4], F111c⟩
theorem F111_ok : cFn Tryd.prog [] 111 = some F111 := by kernel_rfl
def F113o0 : List AOper := [⟨some 2, .m (.cbox 62 (.t 0)), none⟩,⟨some 4, .m (.alloc 62 [(.int .i64 0), (.int .i64 0), (.int .i64 0), (.str []), .nils, .nils]), none⟩,⟨some 5, .t (.mv (.c (.bool false))), none⟩]
def F113o1 : List AOper := [⟨some 7, .m (.load true 6 (.t 2)), none⟩,⟨some 8, .t (.mv (.t 1)), none⟩,⟨some 9, .call (.c (.clo 127 [] [])) [(.t 7), (.t 8)], none⟩,⟨some 6, .t (.mv (.t 9)), none⟩]
def F113o2 : List AOper := [⟨some 10, .t (.faddr 0 (.t 2)), none⟩,⟨some 11, .m (.load false 1 (.t 10)), none⟩,⟨some 12, .t (.bin .neq (.t 11) (.c (.int .i64 9))), none⟩,⟨some 13, .t (.mv (.t 12)), none⟩,⟨some 14, .t (.mv (.t 6)), (some (13, false))⟩,
  ⟨some 15, .t (.bin .lss (.t 14) (.c (.int .i64 0))), (some (13, false))⟩,
  ⟨some 16, .t (.pick (.t 13) (.c (.bool true)) (.t 15)), none⟩]
def F113o3 : List AOper := [⟨some 17, .t (.build [(.int .i64 0), (.int .i64 0), (.int .i64 0), (.str []), .nils, .nils] []), none⟩,⟨none, .m (.store 6 (.t 4) (.t 17)), none⟩,⟨some 5, .t (.mv (.c (.bool false))), none⟩]
def F113o4 : List AOper := [⟨some 18, .t (.faddr 5 (.t 2)), none⟩,⟨some 19, .m (.load false 1 (.t 18)), none⟩,⟨some 20, .t (.mv (.t 6)), none⟩,⟨some 21, .t (.iaddr 7 (.t 19) (.t 20)), none⟩,⟨some 22, .t (.faddr 1 (.t 21)), none⟩,⟨some 23, .m (.load true 6 (.t 22)), none⟩,⟨some 24, .call (.c (.clo 66 [] [])) [(.t 23)], none⟩,⟨none, .m (.store 6 (.t 4) (.t 24)), none⟩,⟨some 5, .t (.mv (.c (.bool true))), none⟩]
def F113c : ACode :=
(.seq (.ops F113o0 [1, 2, 4])
((.seq (.ops F113o1 [2, 4, 6])
((.seq ((.seq (.ops F113o2 [2, 4, 6, 16])
(.cond (.t 16)
((.seq (.ops F113o3 [4, 5])
(.ret)))
(.skip))))
((.seq (.ops F113o4 [4, 5])
(.ret))))))))
def F113 : AFn := ⟨25, [.cell 4 true 6, .tmp 5], F113c⟩
theorem F113_ok : cFn Tryd.prog [2] 113 = some F113 := by kernel_rfl
def F114o0 : List AOper := [⟨some 4, .t (.mv (.c (.str []))), none⟩]
def F114o1 : List AOper := [⟨some 5, .t (.mv (.t 0)), none⟩,⟨some 6, .t (.bin .eql (.t 5) (.c (.str []))), none⟩]
def F114o2 : List AOper := [⟨some 7, .t (.mv (.t 1)), none⟩,⟨some 4, .t (.mv (.t 7)), none⟩]
def F114o3 : List AOper := [⟨some 8, .t (.mv (.t 0)), none⟩,⟨some 9, .t (.bin .add (.t 8) (.c (.str [46]))), none⟩,⟨some 10, .t (.mv (.t 1)), none⟩,⟨some 11, .t (.bin .add (.t 9) (.t 10)), none⟩,⟨some 4, .t (.mv (.t 11)), none⟩]
def F114c : ACode :=
(.seq (.ops F114o0 [0, 1])
((.seq ((.seq (.ops F114o1 [0, 1, 6])
(.cond (.t 6)
((.seq (.ops F114o2 [4])
(.ret)))
(.skip))))
((.seq (.ops F114o3 [4])
(.ret))))))
def F114 : AFn := ⟨12, [.tmp 4], F114c⟩
theorem F114_ok : cFn Tryd.prog [] 114 = some F114 := by kernel_rfl
def F115o0 : List AOper := [⟨some 2, .m (.cbox 79 (.t 0)), none⟩,⟨some 3, .t (.mv (.c (.bool false))), none⟩]
def F115o1 : List AOper := [⟨some 4, .t (.faddr 1 (.t 2)), none⟩,⟨some 5, .m (.load false 1 (.t 4)), none⟩,⟨some 6, .m (.load false 1 (.t 1)), none⟩,⟨some 7, .t (.bin .eql (.t 5) (.t 6)), none⟩,⟨some 3, .t (.mv (.t 7)), none⟩]
def F115c : ACode :=
(.seq (.ops F115o0 [1, 2])
((.seq (.ops F115o1 [3])
(.ret))))
def F115 : AFn := ⟨8, [.tmp 3], F115c⟩
theorem F115_ok : cFn Tryd.prog [2] 115 = some F115 := by kernel_rfl
def F117o0 : List AOper := [⟨some 4, .t (.mv (.c (.int .i64 0))), none⟩]
def F117o1 : List AOper := [⟨some 6, .t (.mv (.t 0)), none⟩,⟨some 7, .t (.len false (.t 6)), none⟩,⟨some 8, .t (.mv (.c (.int .i64 0))), none⟩]
def F117o2 : List AOper := [⟨some 9, .t (.bin .lss (.t 8) (.t 7)), none⟩]
def F117o3 : List AOper := [⟨some 10, .t (.mv (.t 8)), none⟩,⟨some 5, .t (.mv (.t 10)), none⟩]
def F117o4 : List AOper := [⟨some 11, .t (.mv (.t 1)), none⟩,⟨some 12, .t (.mv (.t 0)), none⟩,⟨some 13, .t (.mv (.t 5)), none⟩,⟨some 14, .t (.iaddr 7 (.t 12) (.t 13)), none⟩,⟨some 15, .m (.load true 7 (.t 14)), none⟩,⟨some 16, .call (.t 11) [(.t 15)], none⟩]
def F117o5 : List AOper := [⟨some 17, .t (.mv (.t 5)), none⟩,⟨some 4, .t (.mv (.t 17)), none⟩]
def F117o6 : List AOper := [⟨some 18, .t (.bin .add (.t 8) (.c (.int .i64 1))), none⟩,⟨some 8, .t (.mv (.t 18)), none⟩]
def F117b7 : ACode :=
(.seq (.ops F117o2 [0, 1, 7, 8, 9])
((.seq (.cond (.t 9)
(.skip)
(.exit 0))
((.seq (.block 1 ((.seq (.ops F117o3 [0, 1, 5, 7, 8])
((.seq (.ops F117o4 [0, 1, 5, 7, 8, 16])
(.cond (.t 16)
((.seq (.ops F117o5 [4])
(.ret)))
(.skip)))))))
(.ops F117o6 [0, 1, 7, 8]))))))
def F117o8 : List AOper := [⟨some 4, .t (.mv (.c (.int .i64 (-1)))), none⟩]
def F117c : ACode :=
(.seq (.ops F117o0 [0, 1])
((.seq ((.seq (.ops F117o1 [0, 1, 7, 8])
(.block 0 (.loop [0, 1, 7, 8] F117b7))))
((.seq (.ops F117o8 [4])
(.ret))))))
def F117 : AFn := ⟨19, [.tmp 4], F117c⟩
theorem F117_ok : cFn Tryd.prog [] 117 = some F117 := by kernel_rfl
def F118o0 : List AOper := [⟨some 2, .m (.cbox 62 (.t 0)), none⟩,⟨some 3, .m (.cbox 62 (.t 1)), none⟩,⟨some 4, .t (.mv (.c (.int .i64 0))), none⟩]
def F118o1 : List AOper := [⟨some 5, .t (.faddr 0 (.t 2)), none⟩,⟨some 6, .m (.load false 1 (.t 5)), none⟩,⟨some 7, .t (.faddr 0 (.t 3)), none⟩,⟨some 8, .m (.load false 1 (.t 7)), none⟩,⟨some 9, .call (.c (.clo 131 [] [])) [(.t 6), (.t 8)], none⟩,⟨some 10, .t (.faddr 1 (.t 2)), none⟩,⟨some 11, .m (.load false 1 (.t 10)), none⟩,⟨some 12, .t (.faddr 1 (.t 3)), none⟩,⟨some 13, .m (.load false 1 (.t 12)), none⟩,⟨some 14, .call (.c (.clo 131 [] [])) [(.t 11), (.t 13)], none⟩,⟨some 15, .t (.faddr 2 (.t 2)), none⟩,⟨some 16, .m (.load false 1 (.t 15)), none⟩,⟨some 17, .t (.faddr 2 (.t 3)), none⟩,⟨some 18, .m (.load false 1 (.t 17)), none⟩,⟨some 19, .call (.c (.clo 131 [] [])) [(.t 16), (.t 18)], none⟩,⟨some 20, .t (.faddr 3 (.t 2)), none⟩,⟨some 21, .m (.load false 1 (.t 20)), none⟩,⟨some 22, .t (.faddr 3 (.t 3)), none⟩,⟨some 23, .m (.load false 1 (.t 22)), none⟩,⟨some 24, .call (.c (.clo 102 [] [])) [(.t 21), (.t 23)], none⟩,⟨some 25, .t (.faddr 4 (.t 2)), none⟩,⟨some 26, .m (.load false 1 (.t 25)), none⟩,⟨some 27, .t (.faddr 4 (.t 3)), none⟩,⟨some 28, .m (.load false 1 (.t 27)), none⟩,⟨some 29, .call (.c (.clo 132 [] [])) [(.t 26), (.t 28), (.c (.clo 118 [] []))], none⟩,⟨some 30, .t (.faddr 5 (.t 2)), none⟩,⟨some 31, .m (.load false 1 (.t 30)), none⟩,⟨some 32, .t (.faddr 5 (.t 3)), none⟩,⟨some 33, .m (.load false 1 (.t 32)), none⟩]
def F118p1 : List AOper := [⟨some 34, .call (.c (.clo 133 [] [])) [(.t 31), (.t 33), (.c (.clo 134 [] []))], none⟩,⟨some 35, .m (.bslice false 3 1 6 [(.t 9), (.t 14), (.t 19), (.t 24), (.t 29), (.t 34)]), none⟩,⟨some 36, .call (.c (.clo 130 [] [])) [(.t 35)], none⟩,⟨some 4, .t (.mv (.t 36)), none⟩]
def F118A1 : List (List Nat) := [[], [0], [], [2], [1, 3, 0, 2], [], [5], [], [7], [6, 8, 4, 5, 7, 1, 3, 0, 2], [], [10], [], [12], [11, 13, 9, 10, 12, 6, 8, 4, 5, 7, 1, 3, 0, 2], [], [15], [], [17], [16, 18, 14, 15, 17, 11, 13, 9, 10, 12, 6, 8, 4, 5, 7, 1, 3, 0, 2], [], [20], [], [22], [21, 23, 19, 20, 22, 16, 18, 14, 15, 17, 11, 13, 9, 10, 12, 6, 8, 4, 5, 7, 1, 3, 0, 2], [], [25], [], [27], [26, 28, 24, 25, 27, 21, 23, 19, 20, 22, 16, 18, 14, 15, 17, 11, 13, 9, 10, 12, 6, 8, 4, 5, 7, 1, 3, 0, 2], [29, 26, 28, 24, 25, 27, 21, 23, 19, 20, 22, 16, 18, 14, 15, 17, 11, 13, 9, 10, 12, 6, 8, 4, 5, 7, 1, 3, 0, 2], [30, 29, 26, 28, 24, 25, 27, 21, 23, 19, 20, 22, 16, 18, 14, 15, 17, 11, 13, 9, 10, 12, 6, 8, 4, 5, 7, 1, 3, 0, 2], [31, 30, 29, 26, 28, 24, 25, 27, 21, 23, 19, 20, 22, 16, 18, 14, 15, 17, 11, 13, 9, 10, 12, 6, 8, 4, 5, 7, 1, 3, 0, 2]]
def F118c : ACode :=
(.seq (.ops F118o0 [2, 3])
((.seq (.draw F118A1 F118o1 F118p1 [4])
(.ret))))
def F118 : AFn := ⟨37, [.tmp 4], F118c⟩
theorem F118_ok : cFn Tryd.prog [2, 3] 118 = some F118 := by kernel_rfl
def F127o0 : List AOper := [⟨some 2, .m (.cbox 62 (.t 0)), none⟩,⟨some 3, .m (.cbox 9 (.t 1)), none⟩,⟨some 4, .t (.mv (.c (.int .i64 0))), none⟩]
def F127o1 : List AOper := [⟨some 5, .t (.faddr 5 (.t 2)), none⟩,⟨some 6, .m (.load false 1 (.t 5)), none⟩,⟨some 7, .t (.clo 144 [] [(.t 3)]), none⟩,⟨some 8, .call (.c (.clo 117 [] [])) [(.t 6), (.t 7)], none⟩,⟨some 4, .t (.mv (.t 8)), none⟩]
def F127c : ACode :=
(.seq (.ops F127o0 [2, 3])
((.seq (.ops F127o1 [4])
(.ret))))
def F127 : AFn := ⟨9, [.tmp 4], F127c⟩
theorem F127_ok : cFn Tryd.prog [2, 3] 127 = some F127 := by kernel_rfl
def F130o0 : List AOper := [⟨some 2, .t (.mv (.c (.int .i64 0))), none⟩]
def F130o1 : List AOper := [⟨some 3, .t (.mv (.c (.int .i64 0))), none⟩]
def F130o2 : List AOper := [⟨some 6, .t (.mv (.t 0)), none⟩,⟨some 7, .t (.len false (.t 6)), none⟩,⟨some 8, .t (.mv (.c (.int .i64 0))), none⟩]
def F130o3 : List AOper := [⟨some 9, .t (.bin .lss (.t 8) (.t 7)), none⟩]
def F130o4 : List AOper := [⟨some 10, .t (.iaddr 1 (.t 6) (.t 8)), none⟩,⟨some 11, .m (.load false 1 (.t 10)), none⟩,⟨some 5, .t (.mv (.t 11)), none⟩]
def F130o5 : List AOper := [⟨some 12, .t (.mv (.t 5)), none⟩,⟨some 13, .t (.mv (.t 3)), none⟩,⟨some 14, .t (.bin .neq (.t 12) (.t 13)), none⟩]
def F130o6 : List AOper := [⟨some 15, .t (.mv (.t 5)), none⟩,⟨some 2, .t (.mv (.t 15)), none⟩]
def F130o7 : List AOper := [⟨some 16, .t (.bin .add (.t 8) (.c (.int .i64 1))), none⟩,⟨some 8, .t (.mv (.t 16)), none⟩]
def F130b8 : ACode :=
(.seq (.ops F130o3 [3, 6, 7, 8, 9])
((.seq (.cond (.t 9)
(.skip)
(.exit 0))
((.seq (.block 1 ((.seq (.ops F130o4 [3, 5, 6, 7, 8])
((.seq (.ops F130o5 [3, 5, 6, 7, 8, 14])
(.cond (.t 14)
((.seq (.ops F130o6 [2])
(.ret)))
(.skip)))))))
(.ops F130o7 [3, 6, 7, 8]))))))
def F130o9 : List AOper := [⟨some 17, .t (.mv (.t 3)), none⟩,⟨some 2, .t (.mv (.t 17)), none⟩]
def F130c : ACode :=
(.seq (.ops F130o0 [0])
((.seq (.ops F130o1 [0, 3])
((.seq ((.seq (.ops F130o2 [3, 6, 7, 8])
(.block 0 (.loop [3, 6, 7, 8] F130b8))))
((.seq (.ops F130o9 [2])
(.ret))))))))
def F130 : AFn := ⟨18, [.tmp 2], F130c⟩
theorem F130_ok : cFn Tryd.prog [] 130 = some F130 := by kernel_rfl
def F131o0 : List AOper := [⟨some 4, .t (.mv (.c (.int .i64 0))), none⟩]
def F131o1 : List AOper := [⟨some 7, .t (.mv (.t 0)), none⟩,⟨some 8, .call (.c (.clo 145 [] [])) [(.t 7)], none⟩,⟨some 5, .t (.mv (.t 8)), none⟩]
def F131o2 : List AOper := [⟨some 9, .t (.mv (.t 1)), none⟩,⟨some 10, .call (.c (.clo 145 [] [])) [(.t 9)], none⟩,⟨some 6, .t (.mv (.t 10)), none⟩]
def F131o3 : List AOper := [⟨some 11, .t (.mv (.t 5)), none⟩]
def F131o4 : List AOper := [⟨some 12, .t (.mv (.t 6)), none⟩]
def F131o5 : List AOper := [⟨some 4, .t (.mv (.c (.int .i64 0))), none⟩]
def F131o6 : List AOper := [⟨some 4, .t (.mv (.c (.int .i64 (-1)))), none⟩]
def F131o7 : List AOper := [⟨some 13, .t (.mv (.t 6)), none⟩]
def F131o8 : List AOper := [⟨some 4, .t (.mv (.c (.int .i64 1))), none⟩]
def F131o9 : List AOper := [⟨some 14, .t (.mv (.t 0)), none⟩,⟨some 15, .t (.mv (.t 1)), none⟩,⟨some 16, .t (.bin .lss (.t 14) (.t 15)), none⟩]
def F131o10 : List AOper := [⟨some 4, .t (.mv (.c (.int .i64 (-1)))), none⟩]
def F131o11 : List AOper := [⟨some 17, .t (.mv (.t 0)), none⟩,⟨some 18, .t (.mv (.t 1)), none⟩,⟨some 19, .t (.bin .gtr (.t 17) (.t 18)), none⟩]
def F131o12 : List AOper := [⟨some 4, .t (.mv (.c (.int .i64 1))), none⟩]
def F131o13 : List AOper := [⟨some 4, .t (.mv (.c (.int .i64 0))), none⟩]
def F131c : ACode :=
(.seq (.ops F131o0 [0, 1])
((.seq (.ops F131o1 [0, 1, 5])
((.seq (.ops F131o2 [0, 1, 5, 6])
((.seq ((.seq (.ops F131o3 [0, 1, 6, 11])
(.cond (.t 11)
((.seq ((.seq (.ops F131o4 [12])
(.cond (.t 12)
((.seq (.ops F131o5 [4])
(.ret)))
(.skip))))
((.seq (.ops F131o6 [4])
(.ret)))))
(.skip))))
((.seq ((.seq (.ops F131o7 [0, 1, 13])
(.cond (.t 13)
((.seq (.ops F131o8 [4])
(.ret)))
(.skip))))
((.seq ((.seq (.ops F131o9 [0, 1, 16])
(.cond (.t 16)
((.seq (.ops F131o10 [4])
(.ret)))
(.skip))))
((.seq ((.seq (.ops F131o11 [19])
(.cond (.t 19)
((.seq (.ops F131o12 [4])
(.ret)))
(.skip))))
((.seq (.ops F131o13 [4])
(.ret))))))))))))))))
def F131 : AFn := ⟨20, [.tmp 4], F131c⟩
theorem F131_ok : cFn Tryd.prog [] 131 = some F131 := by kernel_rfl
def F132o0 : List AOper := [⟨some 6, .t (.mv (.c (.int .i64 0))), none⟩]
def F132o1 : List AOper := [⟨some 11, .t (.mv (.t 0)), none⟩,⟨some 12, .t (.len false (.t 11)), none⟩,⟨some 13, .t (.mv (.c (.int .i64 0))), none⟩]
def F132o2 : List AOper := [⟨some 14, .t (.bin .lss (.t 13) (.t 12)), none⟩]
def F132o3 : List AOper := [⟨some 15, .t (.mv (.t 13)), none⟩,⟨some 16, .t (.iaddr 6 (.t 11) (.t 13)), none⟩,⟨some 17, .m (.load true 6 (.t 16)), none⟩,⟨some 8, .m (.alloc 62 [(.int .i64 0), (.int .i64 0), (.int .i64 0), (.str []), .nils, .nils]), none⟩,⟨some 7, .t (.mv (.t 15)), none⟩,⟨none, .m (.store 6 (.t 8) (.t 17)), none⟩]
def F132o4 : List AOper := [⟨some 18, .t (.mv (.t 7)), none⟩,⟨some 19, .t (.mv (.t 1)), none⟩,⟨some 20, .t (.len false (.t 19)), none⟩,⟨some 21, .t (.bin .geq (.t 18) (.t 20)), none⟩]
def F132o5 : List AOper := [⟨some 6, .t (.mv (.c (.int .i64 1))), none⟩]
def F132o6 : List AOper := [⟨some 22, .t (.mv (.t 1)), none⟩,⟨some 23, .t (.mv (.t 7)), none⟩,⟨some 24, .t (.iaddr 6 (.t 22) (.t 23)), none⟩,⟨some 25, .m (.load true 6 (.t 24)), none⟩,⟨some 9, .m (.alloc 62 [(.int .i64 0), (.int .i64 0), (.int .i64 0), (.str []), .nils, .nils]), none⟩,⟨none, .m (.store 6 (.t 9) (.t 25)), none⟩]
def F132o7 : List AOper := [⟨some 26, .t (.mv (.t 2)), none⟩,⟨some 27, .m (.load true 6 (.t 8)), none⟩,⟨some 28, .m (.load true 6 (.t 9)), none⟩,⟨some 29, .call (.t 26) [(.t 27), (.t 28)], none⟩,⟨some 10, .t (.mv (.t 29)), none⟩]
def F132o8 : List AOper := [⟨some 30, .t (.mv (.t 10)), none⟩,⟨some 31, .t (.bin .neq (.t 30) (.c (.int .i64 0))), none⟩]
def F132o9 : List AOper := [⟨some 32, .t (.mv (.t 10)), none⟩,⟨some 6, .t (.mv (.t 32)), none⟩]
def F132o10 : List AOper := [⟨some 33, .t (.bin .add (.t 13) (.c (.int .i64 1))), none⟩,⟨some 13, .t (.mv (.t 33)), none⟩]
def F132b11 : ACode :=
(.seq (.ops F132o2 [0, 1, 2, 11, 12, 13, 14])
((.seq (.cond (.t 14)
(.skip)
(.exit 0))
((.seq (.block 1 ((.seq (.ops F132o3 [0, 1, 2, 7, 8, 11, 12, 13])
((.seq ((.seq (.ops F132o4 [0, 1, 2, 7, 8, 11, 12, 13, 21])
(.cond (.t 21)
((.seq (.ops F132o5 [6])
(.ret)))
(.skip))))
((.seq (.ops F132o6 [0, 1, 2, 8, 9, 11, 12, 13])
((.seq (.ops F132o7 [0, 1, 2, 10, 11, 12, 13])
((.seq (.ops F132o8 [0, 1, 2, 10, 11, 12, 13, 31])
(.cond (.t 31)
((.seq (.ops F132o9 [6])
(.ret)))
(.skip)))))))))))))
(.ops F132o10 [0, 1, 2, 11, 12, 13]))))))
def F132o12 : List AOper := [⟨some 34, .t (.mv (.t 0)), none⟩,⟨some 35, .t (.len false (.t 34)), none⟩,⟨some 36, .t (.mv (.t 1)), none⟩,⟨some 37, .t (.len false (.t 36)), none⟩,⟨some 38, .t (.bin .lss (.t 35) (.t 37)), none⟩]
def F132o13 : List AOper := [⟨some 6, .t (.mv (.c (.int .i64 (-1)))), none⟩]
def F132o14 : List AOper := [⟨some 6, .t (.mv (.c (.int .i64 0))), none⟩]
def F132c : ACode :=
(.seq (.ops F132o0 [0, 1, 2])
((.seq ((.seq (.ops F132o1 [0, 1, 2, 11, 12, 13])
(.block 0 (.loop [0, 1, 2, 11, 12, 13] F132b11))))
((.seq ((.seq (.ops F132o12 [38])
(.cond (.t 38)
((.seq (.ops F132o13 [6])
(.ret)))
(.skip))))
((.seq (.ops F132o14 [6])
(.ret))))))))
def F132 : AFn := ⟨39, [.tmp 6], F132c⟩
theorem F132_ok : cFn Tryd.prog [] 132 = some F132 := by kernel_rfl
def F133o0 : List AOper := [⟨some 6, .t (.mv (.c (.int .i64 0))), none⟩]
def F133o1 : List AOper := [⟨some 11, .t (.mv (.t 0)), none⟩,⟨some 12, .t (.len false (.t 11)), none⟩,⟨some 13, .t (.mv (.c (.int .i64 0))), none⟩]
def F133o2 : List AOper := [⟨some 14, .t (.bin .lss (.t 13) (.t 12)), none⟩]
def F133o3 : List AOper := [⟨some 15, .t (.mv (.t 13)), none⟩,⟨some 16, .t (.iaddr 7 (.t 11) (.t 13)), none⟩,⟨some 17, .m (.load true 7 (.t 16)), none⟩,⟨some 8, .m (.alloc 127 [(.str []), (.int .i64 0), (.int .i64 0), (.int .i64 0), (.str []), .nils, .nils]), none⟩,⟨some 7, .t (.mv (.t 15)), none⟩,⟨none, .m (.store 7 (.t 8) (.t 17)), none⟩]
def F133o4 : List AOper := [⟨some 18, .t (.mv (.t 7)), none⟩,⟨some 19, .t (.mv (.t 1)), none⟩,⟨some 20, .t (.len false (.t 19)), none⟩,⟨some 21, .t (.bin .geq (.t 18) (.t 20)), none⟩]
def F133o5 : List AOper := [⟨some 6, .t (.mv (.c (.int .i64 1))), none⟩]
def F133o6 : List AOper := [⟨some 22, .t (.mv (.t 1)), none⟩,⟨some 23, .t (.mv (.t 7)), none⟩,⟨some 24, .t (.iaddr 7 (.t 22) (.t 23)), none⟩,⟨some 25, .m (.load true 7 (.t 24)), none⟩,⟨some 9, .m (.alloc 127 [(.str []), (.int .i64 0), (.int .i64 0), (.int .i64 0), (.str []), .nils, .nils]), none⟩,⟨none, .m (.store 7 (.t 9) (.t 25)), none⟩]
def F133o7 : List AOper := [⟨some 26, .t (.mv (.t 2)), none⟩,⟨some 27, .m (.load true 7 (.t 8)), none⟩,⟨some 28, .m (.load true 7 (.t 9)), none⟩,⟨some 29, .call (.t 26) [(.t 27), (.t 28)], none⟩,⟨some 10, .t (.mv (.t 29)), none⟩]
def F133o8 : List AOper := [⟨some 30, .t (.mv (.t 10)), none⟩,⟨some 31, .t (.bin .neq (.t 30) (.c (.int .i64 0))), none⟩]
def F133o9 : List AOper := [⟨some 32, .t (.mv (.t 10)), none⟩,⟨some 6, .t (.mv (.t 32)), none⟩]
def F133o10 : List AOper := [⟨some 33, .t (.bin .add (.t 13) (.c (.int .i64 1))), none⟩,⟨some 13, .t (.mv (.t 33)), none⟩]
def F133b11 : ACode :=
(.seq (.ops F133o2 [0, 1, 2, 11, 12, 13, 14])
((.seq (.cond (.t 14)
(.skip)
(.exit 0))
((.seq (.block 1 ((.seq (.ops F133o3 [0, 1, 2, 7, 8, 11, 12, 13])
((.seq ((.seq (.ops F133o4 [0, 1, 2, 7, 8, 11, 12, 13, 21])
(.cond (.t 21)
((.seq (.ops F133o5 [6])
(.ret)))
(.skip))))
((.seq (.ops F133o6 [0, 1, 2, 8, 9, 11, 12, 13])
((.seq (.ops F133o7 [0, 1, 2, 10, 11, 12, 13])
((.seq (.ops F133o8 [0, 1, 2, 10, 11, 12, 13, 31])
(.cond (.t 31)
((.seq (.ops F133o9 [6])
(.ret)))
(.skip)))))))))))))
(.ops F133o10 [0, 1, 2, 11, 12, 13]))))))
def F133o12 : List AOper := [⟨some 34, .t (.mv (.t 0)), none⟩,⟨some 35, .t (.len false (.t 34)), none⟩,⟨some 36, .t (.mv (.t 1)), none⟩,⟨some 37, .t (.len false (.t 36)), none⟩,⟨some 38, .t (.bin .lss (.t 35) (.t 37)), none⟩]
def F133o13 : List AOper := [⟨some 6, .t (.mv (.c (.int .i64 (-1)))), none⟩]
def F133o14 : List AOper := [⟨some 6, .t (.mv (.c (.int .i64 0))), none⟩]
def F133c : ACode :=
(.seq (.ops F133o0 [0, 1, 2])
((.seq ((.seq (.ops F133o1 [0, 1, 2, 11, 12, 13])
(.block 0 (.loop [0, 1, 2, 11, 12, 13] F133b11))))
((.seq ((.seq (.ops F133o12 [38])
(.cond (.t 38)
((.seq (.ops F133o13 [6])
(.ret)))
(.skip))))
((.seq (.ops F133o14 [6])
(.ret))))))))
def F133 : AFn := ⟨39, [.tmp 6], F133c⟩
theorem F133_ok : cFn Tryd.prog [] 133 = some F133 := by kernel_rfl
def F134o0 : List AOper := [⟨some 2, .m (.cbox 127 (.t 0)), none⟩,⟨some 3, .m (.cbox 127 (.t 1)), none⟩,⟨some 4, .t (.mv (.c (.int .i64 0))), none⟩]
def F134o1 : List AOper := [⟨some 5, .t (.faddr 0 (.t 2)), none⟩,⟨some 6, .m (.load false 1 (.t 5)), none⟩,⟨some 7, .t (.faddr 0 (.t 3)), none⟩,⟨some 8, .m (.load false 1 (.t 7)), none⟩,⟨some 9, .call (.c (.clo 102 [] [])) [(.t 6), (.t 8)], none⟩,⟨some 10, .t (.faddr 1 (.t 2)), none⟩,⟨some 11, .m (.load true 6 (.t 10)), none⟩,⟨some 12, .t (.faddr 1 (.t 3)), none⟩,⟨some 13, .m (.load true 6 (.t 12)), none⟩]
def F134p1 : List AOper := [⟨some 14, .call (.c (.clo 118 [] [])) [(.t 11), (.t 13)], none⟩,⟨some 15, .m (.bslice false 3 1 2 [(.t 9), (.t 14)]), none⟩,⟨some 16, .call (.c (.clo 130 [] [])) [(.t 15)], none⟩,⟨some 4, .t (.mv (.t 16)), none⟩]
def F134A1 : List (List Nat) := [[], [0], [], [2], [1, 3, 0, 2], [], [5], [], [7], [6, 8, 4, 5, 7, 1, 3, 0, 2], [9, 6, 8, 4, 5, 7, 1, 3, 0, 2], [10, 9, 6, 8, 4, 5, 7, 1, 3, 0, 2], [11, 10, 9, 6, 8, 4, 5, 7, 1, 3, 0, 2]]
def F134c : ACode :=
(.seq (.ops F134o0 [2, 3])
((.seq (.draw F134A1 F134o1 F134p1 [4])
(.ret))))
def F134 : AFn := ⟨17, [.tmp 4], F134c⟩
theorem F134_ok : cFn Tryd.prog [2, 3] 134 = some F134 := by kernel_rfl
def F144o0 : List AOper := [⟨some 2, .m (.cbox 127 (.t 0)), none⟩,⟨some 3, .t (.mv (.c (.bool false))), none⟩]
def F144o1 : List AOper := [⟨some 4, .t (.faddr 0 (.t 2)), none⟩,⟨some 5, .m (.load false 1 (.t 4)), none⟩,⟨some 6, .m (.load false 1 (.t 1)), none⟩,⟨some 7, .t (.bin .eql (.t 5) (.t 6)), none⟩,⟨some 3, .t (.mv (.t 7)), none⟩]
def F144c : ACode :=
(.seq (.ops F144o0 [1, 2])
((.seq (.ops F144o1 [3])
(.ret))))
def F144 : AFn := ⟨8, [.tmp 3], F144c⟩
theorem F144_ok : cFn Tryd.prog [2] 144 = some F144 := by kernel_rfl
def F145o0 : List AOper := [⟨some 2, .t (.mv (.c (.bool false))), none⟩]
def F145o1 : List AOper := [⟨some 3, .t (.mv (.t 0)), none⟩,⟨some 4, .t (.mv (.t 0)), none⟩,⟨some 5, .t (.bin .neq (.t 3) (.t 4)), none⟩,⟨some 2, .t (.mv (.t 5)), none⟩]
def F145c : ACode :=
(.seq (.ops F145o0 [0])
((.seq (.ops F145o1 [2])
(.ret))))
def F145 : AFn := ⟨6, [.tmp 2], F145c⟩
theorem F145_ok : cFn Tryd.prog [] 145 = some F145 := by kernel_rfl
def F1067o0 : List AOper := [⟨some 2, .m (.cbox 58 (.t 0)), none⟩,⟨some 3, .m (.box 62 (.t 1)), none⟩,⟨some 4, .m (.alloc 62 [(.int .i64 0), (.int .i64 0), (.int .i64 0), (.str []), .nils, .nils]), none⟩]
def F1067o1 : List AOper := [⟨some 5, .t (.faddr 0 (.t 3)), none⟩,⟨some 6, .m (.load false 1 (.t 5)), none⟩,⟨some 7, .t (.faddr 0 (.t 2)), none⟩,⟨some 8, .m (.load false 1 (.t 7)), none⟩,⟨some 9, .t (.bin .neq (.t 6) (.t 8)), none⟩,⟨some 10, .t (.mv (.t 9)), none⟩,⟨some 11, .m (.load true 6 (.t 3)), (some (10, false))⟩,
  ⟨some 12, .call (.c (.clo 84 [] [])) [(.t 11)], (some (10, false))⟩,
  ⟨some 13, .t (.not (.t 12)), (some (10, false))⟩,
  ⟨some 14, .t (.pick (.t 10) (.c (.bool true)) (.t 13)), none⟩]
def F1067o2 : List AOper := [⟨some 15, .m (.load true 6 (.t 3)), none⟩,⟨none, .m (.store 6 (.t 4) (.t 15)), none⟩]
def F1067o3 : List AOper := [⟨some 16, .t (.faddr 0 (.t 2)), none⟩,⟨some 17, .m (.load false 1 (.t 16)), none⟩,⟨some 18, .t (.bin .eql (.t 17) (.c (.int .i64 9))), none⟩]
def F1067o4 : List AOper := [⟨some 19, .t (.faddr 5 (.t 3)), none⟩,⟨some 20, .m (.load false 1 (.t 19)), none⟩,⟨some 21, .call (.c (.clo 96 [] [])) [(.t 20)], none⟩,⟨some 22, .t (.clo 97 [] [(.t 2)]), none⟩,⟨some 23, .call (.c (.clo 95 [] [])) [(.t 21), (.t 22)], none⟩,⟨some 24, .t (.faddr 5 (.t 3)), none⟩,⟨none, .m (.store 1 (.t 24) (.t 23)), none⟩]
def F1067o5 : List AOper := [⟨some 25, .m (.load true 7 (.t 2)), none⟩,⟨some 26, .fz (some (true, 6)) (.t 3), none⟩,⟨some 27, .call (.c (.clo 99 [] [])) [(.t 25), (.t 26), (.c (.clo 67 [] []))], none⟩,⟨none, .m (.store 6 (.t 4) (.t 27)), none⟩]
def F1067c : ACode :=
(.seq (.ops F1067o0 [2, 3, 4])
((.seq ((.seq (.ops F1067o1 [2, 3, 4, 14])
(.cond (.t 14)
((.seq (.ops F1067o2 [4])
(.ret)))
(.skip))))
((.seq ((.seq (.ops F1067o3 [2, 3, 4, 18])
(.cond (.t 18)
(.ops F1067o4 [2, 3, 4])
(.skip))))
((.seq (.ops F1067o5 [4])
(.ret))))))))
def F1067 : AFn := ⟨28, [.cell 4 true 6], F1067c⟩
theorem F1067_ok : cFn Tryd.prog [2, 1000026] 67 = some F1067 := by kernel_rfl
def F1099o0 : List AOper := [⟨some 3, .m (.cbox 58 (.t 0)), none⟩,⟨some 4, .m (.cbox 62 (.t 1)), none⟩,⟨some 6, .m (.alloc 62 [(.int .i64 0), (.int .i64 0), (.int .i64 0), (.str []), .nils, .nils]), none⟩]
def F1099o1 : List AOper := [⟨some 16, .m (.load true 6 (.t 4)), none⟩,⟨some 7, .m (.alloc 62 [(.int .i64 0), (.int .i64 0), (.int .i64 0), (.str []), .nils, .nils]), none⟩,⟨none, .m (.store 6 (.t 7) (.t 16)), none⟩]
def F1099o2 : List AOper := [⟨some 18, .t (.faddr 0 (.t 3)), none⟩,⟨some 19, .m (.load false 1 (.t 18)), none⟩,⟨some 20, .t (.bin .eql (.t 19) (.c (.int .i64 8))), none⟩,⟨some 21, .t (.mv (.t 20)), none⟩,⟨some 22, .t (.faddr 5 (.t 3)), (some (21, true))⟩,
  ⟨some 23, .m (.load false 1 (.t 22)), (some (21, true))⟩,
  ⟨some 24, .t (.len false (.t 23)), (some (21, true))⟩,
  ⟨some 25, .t (.bin .eql (.t 24) (.c (.int .i64 1))), (some (21, true))⟩,
  ⟨some 26, .t (.pick (.t 21) (.t 25) (.c (.bool false))), none⟩,⟨some 17, .t (.mv (.t 26)), none⟩]
def F1099o3 : List AOper := [⟨some 27, .t (.faddr 4 (.t 7)), none⟩,⟨none, .m (.store 1 (.t 27) (.c .nils)), none⟩]
def F1099o4 : List AOper := [⟨some 28, .t (.faddr 4 (.t 4)), none⟩,⟨some 29, .m (.load false 1 (.t 28)), none⟩,⟨some 30, .t (.len false (.t 29)), none⟩,⟨some 31, .t (.mv (.c (.int .i64 0))), none⟩]
def F1099o5 : List AOper := [⟨some 32, .t (.bin .lss (.t 31) (.t 30)), none⟩]
def F1099o6 : List AOper := [⟨some 33, .t (.iaddr 6 (.t 29) (.t 31)), none⟩,⟨some 34, .m (.load true 6 (.t 33)), none⟩,⟨some 9, .m (.alloc 62 [(.int .i64 0), (.int .i64 0), (.int .i64 0), (.str []), .nils, .nils]), none⟩,⟨none, .m (.store 6 (.t 9) (.t 34)), none⟩]
def F1099o7 : List AOper := [⟨some 35, .t (.faddr 4 (.t 7)), none⟩,⟨some 36, .m (.load false 1 (.t 35)), none⟩,⟨some 37, .t (.mv (.t 2)), none⟩,⟨some 38, .t (.faddr 5 (.t 3)), none⟩,⟨some 39, .m (.load false 1 (.t 38)), none⟩,⟨some 40, .t (.iaddr 7 (.t 39) (.c (.int .i64 0))), none⟩,⟨some 41, .m (.load true 7 (.t 40)), none⟩,⟨some 42, .m (.load true 6 (.t 9)), none⟩,⟨some 43, .call (.t 37) [(.t 41), (.t 42)], none⟩,⟨some 44, .m (.bslice false 62 6 1 [(.t 43)]), none⟩]
def F1099p7 : List AOper := [⟨some 45, .m (.append false 62 6 88 (.t 36) (.t 44)), none⟩,⟨some 46, .t (.faddr 4 (.t 7)), none⟩,⟨none, .m (.store 1 (.t 46) (.t 45)), none⟩]
def F1099A7 : List (List Nat) := [[], [0], [], [], [3], [4, 3], [5, 4, 3], [], [2, 6, 7, 5, 4, 3], [8, 2, 6, 7, 5, 4, 3], [1, 9, 0, 8, 2, 6, 7, 5, 4, 3], [10, 1, 9, 0, 8, 2, 6, 7, 5, 4, 3], [11, 10, 1, 9, 0, 8, 2, 6, 7, 5, 4, 3]]
def F1099o8 : List AOper := [⟨some 47, .t (.bin .add (.t 31) (.c (.int .i64 1))), none⟩,⟨some 31, .t (.mv (.t 47)), none⟩]
def F1099b9 : ACode :=
(.seq (.ops F1099o5 [2, 3, 6, 7, 29, 30, 31, 32])
((.seq (.cond (.t 32)
(.skip)
(.exit 1))
((.seq (.block 2 ((.seq (.ops F1099o6 [2, 3, 6, 7, 9, 29, 30, 31])
(.draw F1099A7 F1099o7 F1099p7 [2, 3, 6, 7, 29, 30, 31]))))
(.ops F1099o8 [2, 3, 6, 7, 29, 30, 31]))))))
def F1099o10 : List AOper := [⟨some 49, .t (.faddr 0 (.t 3)), none⟩,⟨some 50, .m (.load false 1 (.t 49)), none⟩,⟨some 51, .t (.bin .eql (.t 50) (.c (.int .i64 9))), none⟩,⟨some 48, .t (.mv (.t 51)), none⟩]
def F1099o11 : List AOper := [⟨some 52, .t (.faddr 5 (.t 7)), none⟩,⟨none, .m (.store 1 (.t 52) (.c .nils)), none⟩]
def F1099o12 : List AOper := [⟨some 53, .t (.faddr 5 (.t 4)), none⟩,⟨some 54, .m (.load false 1 (.t 53)), none⟩,⟨some 55, .t (.len false (.t 54)), none⟩,⟨some 56, .t (.mv (.c (.int .i64 0))), none⟩]
def F1099o13 : List AOper := [⟨some 57, .t (.bin .lss (.t 56) (.t 55)), none⟩]
def F1099o14 : List AOper := [⟨some 58, .t (.iaddr 7 (.t 54) (.t 56)), none⟩,⟨some 59, .m (.load true 7 (.t 58)), none⟩,⟨some 11, .m (.alloc 127 [(.str []), (.int .i64 0), (.int .i64 0), (.int .i64 0), (.str []), .nils, .nils]), none⟩,⟨none, .m (.store 7 (.t 11) (.t 59)), none⟩]
def F1099o15 : List AOper := [⟨some 61, .m (.load true 7 (.t 3)), none⟩,⟨some 62, .t (.faddr 0 (.t 11)), none⟩,⟨some 63, .m (.load false 1 (.t 62)), none⟩,⟨some 64, .call (.c (.clo 89 [] [])) [(.t 61), (.t 63)], none⟩,⟨some 60, .t (.mv (.t 64)), none⟩,⟨some 65, .t (.ext (.t 60) 0), none⟩,⟨some 66, .t (.ext (.t 60) 1), none⟩,⟨some 12, .m (.alloc 79 [(.int .i64 0), (.str []), (.int .i64 0), (.int .i64 0), (.int .i64 0), (.int .i64 0), (.int .i64 0), .nils, .nils, .nils, .nils]), none⟩,⟨none, .m (.store 11 (.t 12) (.t 65)), none⟩,⟨some 13, .t (.mv (.t 66)), none⟩]
def F1099o16 : List AOper := [⟨some 67, .t (.mv (.t 13)), none⟩]
def F1099o17 : List AOper := [⟨some 68, .t (.mv (.t 2)), none⟩,⟨some 69, .t (.faddr 3 (.t 12)), none⟩,⟨some 70, .m (.load true 7 (.t 69)), none⟩,⟨some 71, .t (.faddr 1 (.t 11)), none⟩,⟨some 72, .m (.load true 6 (.t 71)), none⟩,⟨some 73, .call (.t 68) [(.t 70), (.t 72)], none⟩,⟨some 74, .t (.faddr 1 (.t 11)), none⟩,⟨none, .m (.store 6 (.t 74) (.t 73)), none⟩]
def F1099o18 : List AOper := [⟨some 75, .t (.faddr 5 (.t 7)), none⟩,⟨some 76, .m (.load false 1 (.t 75)), none⟩,⟨some 77, .m (.load true 7 (.t 11)), none⟩,⟨some 78, .m (.bslice false 127 7 1 [(.t 77)]), none⟩,⟨some 79, .m (.append false 127 7 104 (.t 76) (.t 78)), none⟩,⟨some 80, .t (.faddr 5 (.t 7)), none⟩,⟨none, .m (.store 1 (.t 80) (.t 79)), none⟩]
def F1099o19 : List AOper := [⟨some 81, .t (.bin .add (.t 56) (.c (.int .i64 1))), none⟩,⟨some 56, .t (.mv (.t 81)), none⟩]
def F1099b20 : ACode :=
(.seq (.ops F1099o13 [2, 3, 6, 7, 54, 55, 56, 57])
((.seq (.cond (.t 57)
(.skip)
(.exit 3))
((.seq (.block 4 ((.seq (.ops F1099o14 [2, 3, 6, 7, 11, 54, 55, 56])
((.seq ((.seq (.ops F1099o15 [2, 3, 6, 7, 11, 12, 13, 54, 55, 56])
((.seq (.ops F1099o16 [2, 3, 6, 7, 11, 12, 54, 55, 56, 67])
(.cond (.t 67)
(.ops F1099o17 [2, 3, 6, 7, 11, 54, 55, 56])
(.skip))))))
(.ops F1099o18 [2, 3, 6, 7, 54, 55, 56]))))))
(.ops F1099o19 [2, 3, 6, 7, 54, 55, 56]))))))
def F1099o21 : List AOper := [⟨some 83, .t (.faddr 0 (.t 3)), none⟩,⟨some 84, .m (.load false 1 (.t 83)), none⟩,⟨some 85, .t (.bin .eql (.t 84) (.c (.int .i64 10))), none⟩,⟨some 82, .t (.mv (.t 85)), none⟩]
def F1099o22 : List AOper := [⟨some 87, .m (.load true 7 (.t 3)), none⟩,⟨some 88, .t (.faddr 3 (.t 4)), none⟩,⟨some 89, .m (.load false 1 (.t 88)), none⟩,⟨some 90, .call (.c (.clo 89 [] [])) [(.t 87), (.t 89)], none⟩,⟨some 86, .t (.mv (.t 90)), none⟩,⟨some 91, .t (.ext (.t 86) 0), none⟩,⟨some 92, .t (.ext (.t 86) 1), none⟩,⟨some 14, .m (.alloc 79 [(.int .i64 0), (.str []), (.int .i64 0), (.int .i64 0), (.int .i64 0), (.int .i64 0), (.int .i64 0), .nils, .nils, .nils, .nils]), none⟩,⟨none, .m (.store 11 (.t 14) (.t 91)), none⟩,⟨some 15, .t (.mv (.t 92)), none⟩]
def F1099o23 : List AOper := [⟨some 93, .t (.mv (.t 15)), none⟩]
def F1099o24 : List AOper := [⟨some 94, .t (.mv (.t 2)), none⟩,⟨some 95, .t (.faddr 3 (.t 14)), none⟩,⟨some 96, .m (.load true 7 (.t 95)), none⟩,⟨some 97, .t (.faddr 4 (.t 4)), none⟩,⟨some 98, .m (.load false 1 (.t 97)), none⟩,⟨some 99, .t (.iaddr 6 (.t 98) (.c (.int .i64 0))), none⟩,⟨some 100, .m (.load true 6 (.t 99)), none⟩]
def F1099p24 : List AOper := [⟨some 101, .call (.t 94) [(.t 96), (.t 100)], none⟩,⟨some 102, .m (.bslice false 62 6 1 [(.t 101)]), none⟩,⟨some 103, .t (.faddr 4 (.t 7)), none⟩,⟨none, .m (.store 1 (.t 103) (.t 102)), none⟩]
def F1099A24 : List (List Nat) := [[], [], [1], [], [3], [4, 3], [5, 4, 3], [0, 2, 6, 1, 5, 4, 3], [7, 0, 2, 6, 1, 5, 4, 3], [8, 7, 0, 2, 6, 1, 5, 4, 3], [9, 8, 7, 0, 2, 6, 1, 5, 4, 3]]
def F1099o25 : List AOper := [⟨some 104, .m (.load true 6 (.t 7)), none⟩,⟨none, .m (.store 6 (.t 6) (.t 104)), none⟩]
def F1099c : ACode :=
(.seq (.ops F1099o0 [2, 3, 4, 6])
((.seq (.ops F1099o1 [2, 3, 4, 6, 7])
((.seq (.block 0 ((.seq (.ops F1099o2 [2, 3, 4, 6, 7, 17])
(.cond (.t 17)
((.seq (.ops F1099o3 [2, 3, 4, 6, 7])
((.seq (.ops F1099o4 [2, 3, 6, 7, 29, 30, 31])
(.block 1 (.loop [2, 3, 6, 7, 29, 30, 31] F1099b9))))))
((.seq (.ops F1099o10 [2, 3, 4, 6, 7, 48])
(.cond (.t 48)
((.seq (.ops F1099o11 [2, 3, 4, 6, 7])
((.seq (.ops F1099o12 [2, 3, 6, 7, 54, 55, 56])
(.block 3 (.loop [2, 3, 6, 7, 54, 55, 56] F1099b20))))))
((.seq (.ops F1099o21 [2, 3, 4, 6, 7, 82])
(.cond (.t 82)
((.seq (.ops F1099o22 [2, 4, 6, 7, 14, 15])
((.seq (.ops F1099o23 [2, 4, 6, 7, 14, 93])
(.cond (.t 93)
(.draw F1099A24 F1099o24 F1099p24 [6, 7])
(.skip))))))
(.skip)))))))))))
((.seq (.ops F1099o25 [6])
(.ret))))))))
def F1099 : AFn := ⟨105, [.cell 6 true 6], F1099c⟩
theorem F1099_ok : cFn Tryd.prog [3, 4] 99 = some F1099 := by kernel_rfl
end Go.Proofs.YtikmckfppnmlnaaDoor
