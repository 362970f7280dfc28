/- Functions of the program as the logic reads them, each with the proof that it is so read. -/
import Derived.Test.YtbaaokocnegdoaaGreatDoorProg
import Derived.Test.YtbaaokocnegdoaaGreatDoorJoiFa
import Derived.Test.YtbaaokocnegdoaaGreatDoorCore5
import Derived.KernelRfl
set_option maxRecDepth 100000
namespace Go.Proofs.YtbaaokocnegdoaaGreatDoor
open Go Go.Ab
def F90o0 : List AOper := [⟨some 2, .t (.mv (.t 0)), none⟩,⟨some 3, .t (.nilck (.t 2)), none⟩,⟨some 4, .t (.faddr 0 (.t 3)), none⟩,⟨some 5, .m (.load false 1 (.t 4)), none⟩,⟨some 6, .t (.beq 1 false (.t 5) (.c .nilp)), none⟩]
def F90o1 : List AOper := [⟨some 7, .t (.mv (.t 0)), none⟩,⟨some 8, .t (.mv (.t 0)), none⟩,⟨some 9, .m (.xop (.ucast 0 0 false (.t 8))), none⟩,⟨some 10, .m (.xop (.noesc (.t 9))), none⟩,⟨some 11, .m (.xop (.ucast 89 2 true (.t 10))), none⟩,⟨some 12, .t (.nilck (.t 7)), none⟩,⟨some 13, .t (.faddr 0 (.t 12)), none⟩,⟨none, .m (.store 1 (.t 13) (.t 11)), none⟩]
def F90o2 : List AOper := [⟨some 14, .t (.mv (.t 0)), none⟩,⟨some 15, .t (.nilck (.t 14)), none⟩,⟨some 16, .t (.faddr 0 (.t 15)), none⟩,⟨some 17, .m (.load false 1 (.t 16)), none⟩,⟨some 18, .t (.mv (.t 0)), none⟩,⟨some 19, .m (.xop (.peq true (.t 17) (.t 18))), none⟩]
def F90o3 : List AOper := [⟨none, .call (.c .undef) [], none⟩]
def F90c : ACode :=
(.seq (.ops F90o0 [0, 6])
(.cond (.t 6)
(.ops F90o1 [])
((.seq (.ops F90o2 [19])
(.cond (.t 19)
(.ops F90o3 [])
(.skip))))))
def F90 : AFn := ⟨20, [], F90c⟩
theorem F90_ok : cFn Tryz.prog [19] 90 = some F90 := by kernel_rfl
def F91o0 : List AOper := [⟨some 2, .t (.mv (.c (.int .i64 0))), none⟩,⟨some 3, .t (.mv (.c (.int .i64 0))), none⟩,⟨some 4, .t (.mv (.c (.int .i64 0))), none⟩,⟨some 5, .t (.mv (.c (.int .i64 0))), none⟩]
def F91o1 : List AOper := [⟨some 7, .t (.mv (.t 0)), none⟩,⟨some 8, .call (.c (.clo 125 [] [])) [(.t 7), (.c (.int .i64 (-719162))), (.c (.int .i64 2932896))], none⟩,⟨some 9, .t (.not (.t 8)), none⟩]
def F91o2 : List AOper := [⟨some 2, .t (.mv (.c (.int .i64 0))), none⟩,⟨some 3, .t (.mv (.c (.int .i64 0))), none⟩,⟨some 4, .t (.mv (.c (.int .i64 0))), none⟩,⟨some 5, .t (.mv (.c (.int .i64 2))), none⟩]
def F91o3 : List AOper := [⟨some 10, .t (.mv (.t 0)), none⟩,⟨some 11, .t (.bin .sub (.t 10) (.c (.int .i64 (-719162)))), none⟩,⟨some 6, .t (.mv (.t 11)), none⟩]
def F91o4 : List AOper := [⟨some 12, .t (.mv (.t 6)), none⟩,⟨some 13, .t (.bin .quo (.t 12) (.c (.int .i64 365))), none⟩,⟨some 14, .t (.bin .add (.t 13) (.c (.int .i64 1))), none⟩,⟨some 15, .t (.imin (.t 14) (.c (.int .i64 9999))), none⟩,⟨some 2, .t (.mv (.t 15)), none⟩]
def F91o5 : List AOper := [⟨some 16, .t (.mv (.t 2)), none⟩,⟨some 17, .call (.c (.clo 126 [] [])) [(.t 16)], none⟩,⟨some 18, .t (.mv (.t 6)), none⟩,⟨some 19, .t (.bin .gtr (.t 17) (.t 18)), none⟩]
def F91o6 : List AOper := [⟨some 20, .t (.mv (.t 2)), none⟩,⟨some 21, .t (.bin .sub (.t 20) (.c (.int .i64 1))), none⟩,⟨some 2, .t (.mv (.t 21)), none⟩]
def F91b7 : ACode :=
(.seq ((.seq (.ops F91o5 [2, 6, 19])
(.cond (.t 19)
(.skip)
(.exit 0))))
(.block 1 (.ops F91o6 [2, 6])))
def F91o8 : List AOper := [⟨some 22, .t (.mv (.t 6)), none⟩,⟨some 23, .t (.mv (.t 2)), none⟩,⟨some 24, .call (.c (.clo 126 [] [])) [(.t 23)], none⟩,⟨some 25, .t (.bin .sub (.t 22) (.t 24)), none⟩,⟨some 6, .t (.mv (.t 25)), none⟩]
def F91o9 : List AOper := [⟨some 3, .t (.mv (.c (.int .i64 1))), none⟩]
def F91o10 : List AOper := [⟨some 26, .t (.mv (.t 6)), none⟩,⟨some 27, .t (.mv (.t 2)), none⟩,⟨some 28, .t (.mv (.t 3)), none⟩,⟨some 29, .call (.c (.clo 127 [] [])) [(.t 27), (.t 28)], none⟩,⟨some 30, .t (.bin .geq (.t 26) (.t 29)), none⟩]
def F91o11 : List AOper := [⟨some 33, .t (.mv (.t 6)), none⟩,⟨some 34, .t (.mv (.t 2)), none⟩,⟨some 35, .t (.mv (.t 3)), none⟩,⟨some 36, .call (.c (.clo 127 [] [])) [(.t 34), (.t 35)], none⟩,⟨some 37, .t (.bin .sub (.t 33) (.t 36)), none⟩,⟨some 6, .t (.mv (.t 37)), none⟩]
def F91o12 : List AOper := [⟨some 31, .t (.mv (.t 3)), none⟩,⟨some 32, .t (.bin .add (.t 31) (.c (.int .i64 1))), none⟩,⟨some 3, .t (.mv (.t 32)), none⟩]
def F91b13 : ACode :=
(.seq ((.seq (.ops F91o10 [2, 3, 6, 30])
(.cond (.t 30)
(.skip)
(.exit 2))))
((.seq (.block 3 (.ops F91o11 [2, 3, 6]))
(.ops F91o12 [2, 3, 6]))))
def F91o14 : List AOper := [⟨some 38, .t (.mv (.t 2)), none⟩,⟨some 39, .t (.mv (.t 3)), none⟩,⟨some 40, .t (.mv (.t 6)), none⟩,⟨some 41, .t (.bin .add (.t 40) (.c (.int .i64 1))), none⟩,⟨some 2, .t (.mv (.t 38)), none⟩,⟨some 3, .t (.mv (.t 39)), none⟩,⟨some 4, .t (.mv (.t 41)), none⟩,⟨some 5, .t (.mv (.c (.int .i64 0))), none⟩]
def F91c : ACode :=
(.seq (.ops F91o0 [0])
((.seq ((.seq (.ops F91o1 [0, 9])
(.cond (.t 9)
((.seq (.ops F91o2 [2, 3, 4, 5])
(.ret)))
(.skip))))
((.seq (.ops F91o3 [6])
((.seq (.ops F91o4 [2, 6])
((.seq (.block 0 (.loop [2, 6] F91b7))
((.seq (.ops F91o8 [2, 6])
((.seq ((.seq (.ops F91o9 [2, 3, 6])
(.block 2 (.loop [2, 3, 6] F91b13))))
((.seq (.ops F91o14 [2, 3, 4, 5])
(.ret))))))))))))))))
def F91 : AFn := ⟨42, [.tmp 2, .tmp 3, .tmp 4, .tmp 5], F91c⟩
theorem F91_ok : cFn Tryz.prog [] 91 = some F91 := by kernel_rfl
def F92o0 : List AOper := [⟨some 4, .t (.mv (.c (.str []))), none⟩]
def F92o1 : List AOper := [⟨some 6, .t (.mv (.t 0)), none⟩,⟨some 7, .call (.c (.clo 87 [] [])) [(.t 6)], none⟩,⟨some 5, .t (.mv (.t 7)), none⟩]
def F92o2 : List AOper := [⟨some 8, .t (.mv (.t 1)), none⟩,⟨some 9, .t (.mv (.t 5)), none⟩,⟨some 10, .t (.len true (.t 9)), none⟩,⟨some 11, .t (.bin .sub (.t 8) (.t 10)), none⟩,⟨some 12, .t (.imax (.c (.int .i64 0)) (.t 11)), none⟩,⟨some 13, .call (.c (.clo 89 [] [])) [(.c (.str [48])), (.t 12)], none⟩,⟨some 14, .t (.mv (.t 5)), none⟩,⟨some 15, .t (.bin .add (.t 13) (.t 14)), none⟩,⟨some 4, .t (.mv (.t 15)), none⟩]
def F92c : ACode :=
(.seq (.ops F92o0 [0, 1])
((.seq (.ops F92o1 [1, 5])
((.seq (.ops F92o2 [4])
(.ret))))))
def F92 : AFn := ⟨16, [.tmp 4], F92c⟩
theorem F92_ok : cFn Tryz.prog [] 92 = some F92 := by kernel_rfl
def F94o0 : List AOper := [⟨some 3, .m (.box 26 (.t 0)), none⟩,⟨some 6, .t (.mv (.c (.int .i64 0))), none⟩]
def F94o1 : List AOper := [⟨some 12, .t (.mv (.t 2)), none⟩,⟨some 13, .t (.nilck (.t 12)), none⟩,⟨some 14, .m (.load false 1 (.t 13)), none⟩,⟨some 15, .t (.bin .eql (.t 14) (.c (.int .i64 0))), none⟩,⟨some 11, .t (.mv (.t 15)), none⟩]
def F94o2 : List AOper := [⟨some 6, .t (.mv (.c (.int .i64 9))), none⟩]
def F94o3 : List AOper := [⟨some 17, .t (.mv (.t 1)), none⟩,⟨some 18, .t (.bin .gtr (.t 17) (.c (.int .i64 8))), none⟩,⟨some 16, .t (.mv (.t 18)), none⟩]
def F94o4 : List AOper := [⟨some 6, .t (.mv (.c (.int .i64 23))), none⟩]
def F94o5 : List AOper := [⟨some 19, .t (.mv (.t 2)), none⟩,⟨some 20, .t (.nilck (.t 19)), none⟩,⟨some 21, .m (.load false 1 (.t 20)), none⟩,⟨some 22, .t (.bin .sub (.t 21) (.c (.int .i64 1))), none⟩,⟨some 23, .t (.nilck (.t 19)), none⟩,⟨none, .m (.store 1 (.t 23) (.t 22)), none⟩]
def F94o6 : List AOper := [⟨some 24, .m (.load true 7 (.t 3)), none⟩,⟨some 25, .call (.c (.clo 143 [] [])) [(.t 24)], none⟩,⟨some 7, .t (.mv (.t 25)), none⟩]
def F94o7 : List AOper := [⟨some 26, .t (.mv (.t 7)), none⟩,⟨some 27, .t (.bin .neq (.t 26) (.c (.int .i64 0))), none⟩]
def F94o8 : List AOper := [⟨some 28, .t (.mv (.t 7)), none⟩,⟨some 6, .t (.mv (.t 28)), none⟩]
def F94o9 : List AOper := [⟨some 29, .m (.load true 7 (.t 3)), none⟩,⟨some 30, .call (.c (.clo 144 [] [])) [(.t 29)], none⟩,⟨some 31, .t (.len false (.t 30)), none⟩,⟨some 32, .t (.mv (.c (.int .i64 0))), none⟩]
def F94o10 : List AOper := [⟨some 33, .t (.bin .lss (.t 32) (.t 31)), none⟩]
def F94o11 : List AOper := [⟨some 34, .t (.mv (.t 32)), none⟩,⟨some 35, .t (.iaddr 7 (.t 30) (.t 32)), none⟩,⟨some 36, .m (.load true 7 (.t 35)), none⟩,⟨some 9, .m (.alloc 26 [(.int .i64 0), (.int .i64 0), (.int .i64 0), (.int .i64 0), .nils, .nils, .nils]), none⟩,⟨some 8, .t (.mv (.t 34)), none⟩,⟨none, .m (.store 7 (.t 9) (.t 36)), none⟩]
def F94o12 : List AOper := [⟨some 37, .m (.load true 7 (.t 9)), none⟩,⟨some 38, .t (.mv (.t 1)), none⟩,⟨some 39, .t (.bin .add (.t 38) (.c (.int .i64 1))), none⟩,⟨some 40, .t (.mv (.t 2)), none⟩,⟨some 41, .call (.c (.clo 94 [] [])) [(.t 37), (.t 39), (.t 40)], none⟩,⟨some 10, .t (.mv (.t 41)), none⟩]
def F94o13 : List AOper := [⟨some 42, .t (.mv (.t 10)), none⟩,⟨some 43, .t (.bin .neq (.t 42) (.c (.int .i64 0))), none⟩]
def F94o14 : List AOper := [⟨some 44, .t (.mv (.t 10)), none⟩,⟨some 6, .t (.mv (.t 44)), none⟩]
def F94o15 : List AOper := [⟨some 45, .t (.faddr 0 (.t 3)), none⟩,⟨some 46, .m (.load false 1 (.t 45)), none⟩,⟨some 47, .t (.bin .eql (.t 46) (.c (.int .i64 9))), none⟩,⟨some 48, .t (.mv (.t 47)), none⟩,⟨some 49, .t (.faddr 6 (.t 3)), (some (48, true))⟩,
  ⟨some 50, .m (.load false 1 (.t 49)), (some (48, true))⟩,
  ⟨some 51, .t (.mv (.t 8)), (some (48, true))⟩,
  ⟨some 52, .t (.iaddr 11 (.t 50) (.t 51)), (some (48, true))⟩,
  ⟨some 53, .t (.faddr 2 (.t 52)), (some (48, true))⟩,
  ⟨some 54, .m (.load false 1 (.t 53)), (some (48, true))⟩,
  ⟨some 55, .t (.bin .eql (.t 54) (.c (.int .i64 3))), (some (48, true))⟩,
  ⟨some 56, .t (.pick (.t 48) (.t 55) (.c (.bool false))), none⟩,⟨some 57, .t (.mv (.t 56)), none⟩,⟨some 58, .m (.load true 7 (.t 9)), (some (57, true))⟩,
  ⟨some 59, .t (.faddr 6 (.t 3)), (some (57, true))⟩,
  ⟨some 60, .m (.load false 1 (.t 59)), (some (57, true))⟩,
  ⟨some 61, .t (.mv (.t 8)), (some (57, true))⟩,
  ⟨some 62, .t (.iaddr 11 (.t 60) (.t 61)), (some (57, true))⟩,
  ⟨some 63, .t (.faddr 10 (.t 62)), (some (57, true))⟩,
  ⟨some 64, .m (.load false 1 (.t 63)), (some (57, true))⟩,
  ⟨some 65, .t (.iaddr 6 (.t 64) (.c (.int .i64 0))), (some (57, true))⟩,
  ⟨some 66, .m (.load true 6 (.t 65)), (some (57, true))⟩]
def F94p15 : List AOper := [⟨some 67, .call (.c (.clo 145 [] [])) [(.t 58), (.t 66)], (some (57, true))⟩,
  ⟨some 68, .t (.not (.t 67)), (some (57, true))⟩,
  ⟨some 69, .t (.pick (.t 57) (.t 68) (.c (.bool false))), none⟩]
def F94A15 : List (List Nat) := [[], [0], [1, 0], [2, 1, 0], [3, 2, 1, 0], [4, 3, 2, 1, 0], [3, 2, 1, 0], [5, 6, 4, 3, 2, 1, 0], [7, 5, 6, 4, 3, 2, 1, 0], [8, 7, 5, 6, 4, 3, 2, 1, 0], [9, 8, 7, 5, 6, 4, 3, 2, 1, 0], [10, 9, 8, 7, 5, 6, 4, 3, 2, 1, 0], [11, 10, 9, 8, 7, 5, 6, 4, 3, 2, 1, 0], [12, 11, 10, 9, 8, 7, 5, 6, 4, 3, 2, 1, 0], [12, 11, 10, 9, 8, 7, 5, 6, 4, 3, 2, 1, 0], [14, 12, 11, 10, 9, 8, 7, 5, 6, 4, 3, 2, 1, 0], [12, 11, 10, 9, 8, 7, 5, 6, 4, 3, 2, 1, 0], [15, 16, 14, 12, 11, 10, 9, 8, 7, 5, 6, 4, 3, 2, 1, 0], [17, 15, 16, 14, 12, 11, 10, 9, 8, 7, 5, 6, 4, 3, 2, 1, 0], [18, 17, 15, 16, 14, 12, 11, 10, 9, 8, 7, 5, 6, 4, 3, 2, 1, 0], [19, 18, 17, 15, 16, 14, 12, 11, 10, 9, 8, 7, 5, 6, 4, 3, 2, 1, 0], [20, 19, 18, 17, 15, 16, 14, 12, 11, 10, 9, 8, 7, 5, 6, 4, 3, 2, 1, 0], [13, 21, 20, 19, 18, 17, 15, 16, 14, 12, 11, 10, 9, 8, 7, 5, 6, 4, 3, 2, 1, 0], [22, 13, 21, 20, 19, 18, 17, 15, 16, 14, 12, 11, 10, 9, 8, 7, 5, 6, 4, 3, 2, 1, 0], [23, 22, 13, 21, 20, 19, 18, 17, 15, 16, 14, 12, 11, 10, 9, 8, 7, 5, 6, 4, 3, 2, 1, 0]]
def F94o16 : List AOper := [⟨some 6, .t (.mv (.c (.int .i64 18))), none⟩]
def F94o17 : List AOper := [⟨some 70, .t (.bin .add (.t 32) (.c (.int .i64 1))), none⟩,⟨some 32, .t (.mv (.t 70)), none⟩]
def F94b18 : ACode :=
(.seq (.ops F94o10 [1, 2, 3, 30, 31, 32, 33])
((.seq (.cond (.t 33)
(.skip)
(.exit 1))
((.seq (.block 2 ((.seq (.ops F94o11 [1, 2, 3, 8, 9, 30, 31, 32])
((.seq ((.seq (.ops F94o12 [1, 2, 3, 8, 9, 10, 30, 31, 32])
((.seq (.ops F94o13 [1, 2, 3, 8, 9, 10, 30, 31, 32, 43])
(.cond (.t 43)
((.seq (.ops F94o14 [6])
(.ret)))
(.skip))))))
((.seq (.draw F94A15 F94o15 F94p15 [1, 2, 3, 30, 31, 32, 69])
(.cond (.t 69)
((.seq (.ops F94o16 [6])
(.ret)))
(.skip)))))))))
(.ops F94o17 [1, 2, 3, 30, 31, 32]))))))
def F94o19 : List AOper := [⟨some 6, .t (.mv (.c (.int .i64 0))), none⟩]
def F94c : ACode :=
(.seq (.ops F94o0 [1, 2, 3])
((.seq (.block 0 ((.seq (.ops F94o1 [1, 2, 3, 11])
(.cond (.t 11)
((.seq (.ops F94o2 [6])
(.ret)))
((.seq (.ops F94o3 [1, 2, 3, 16])
(.cond (.t 16)
((.seq (.ops F94o4 [6])
(.ret)))
(.skip))))))))
((.seq (.ops F94o5 [1, 2, 3])
((.seq ((.seq (.ops F94o6 [1, 2, 3, 7])
((.seq (.ops F94o7 [1, 2, 3, 7, 27])
(.cond (.t 27)
((.seq (.ops F94o8 [6])
(.ret)))
(.skip))))))
((.seq ((.seq (.ops F94o9 [1, 2, 3, 30, 31, 32])
(.block 1 (.loop [1, 2, 3, 30, 31, 32] F94b18))))
((.seq (.ops F94o19 [6])
(.ret))))))))))))
def F94 : AFn := ⟨71, [.tmp 6], F94c⟩
theorem F94_ok : cFn Tryz.prog [] 94 = some F94 := by kernel_rfl
def F95o0 : List AOper := [⟨some 1, .m (.box 26 (.t 0)), none⟩,⟨some 2, .t (.mv (.c (.int .i64 0))), none⟩]
def F95o1 : List AOper := [⟨some 8, .m (.load true 7 (.t 1)), none⟩,⟨some 9, .call (.c (.clo 146 [] [])) [(.t 8)], none⟩,⟨some 3, .t (.mv (.t 9)), none⟩]
def F95o2 : List AOper := [⟨some 10, .t (.faddr 5 (.t 1)), none⟩,⟨some 11, .m (.load false 1 (.t 10)), none⟩,⟨some 12, .t (.len false (.t 11)), none⟩,⟨some 13, .t (.mv (.c (.int .i64 0))), none⟩]
def F95o3 : List AOper := [⟨some 14, .t (.bin .lss (.t 13) (.t 12)), none⟩]
def F95o4 : List AOper := [⟨some 15, .t (.iaddr 7 (.t 11) (.t 13)), none⟩,⟨some 16, .m (.load true 7 (.t 15)), none⟩,⟨some 5, .m (.alloc 26 [(.int .i64 0), (.int .i64 0), (.int .i64 0), (.int .i64 0), .nils, .nils, .nils]), none⟩,⟨none, .m (.store 7 (.t 5) (.t 16)), none⟩]
def F95o5 : List AOper := [⟨some 17, .t (.mv (.t 3)), none⟩,⟨some 18, .m (.load true 7 (.t 5)), none⟩,⟨some 19, .call (.c (.clo 95 [] [])) [(.t 18)], none⟩,⟨some 20, .t (.imax (.t 17) (.t 19)), none⟩,⟨some 3, .t (.mv (.t 20)), none⟩]
def F95o6 : List AOper := [⟨some 21, .t (.bin .add (.t 13) (.c (.int .i64 1))), none⟩,⟨some 13, .t (.mv (.t 21)), none⟩]
def F95b7 : ACode :=
(.seq (.ops F95o3 [1, 3, 11, 12, 13, 14])
((.seq (.cond (.t 14)
(.skip)
(.exit 0))
((.seq (.block 1 ((.seq (.ops F95o4 [1, 3, 5, 11, 12, 13])
(.ops F95o5 [1, 3, 11, 12, 13]))))
(.ops F95o6 [1, 3, 11, 12, 13]))))))
def F95o8 : List AOper := [⟨some 22, .t (.faddr 6 (.t 1)), none⟩,⟨some 23, .m (.load false 1 (.t 22)), none⟩,⟨some 24, .t (.len false (.t 23)), none⟩,⟨some 25, .t (.mv (.c (.int .i64 0))), none⟩]
def F95o9 : List AOper := [⟨some 26, .t (.bin .lss (.t 25) (.t 24)), none⟩]
def F95o10 : List AOper := [⟨some 27, .t (.iaddr 11 (.t 23) (.t 25)), none⟩,⟨some 28, .m (.load true 11 (.t 27)), none⟩,⟨some 7, .m (.alloc 98 [(.int .i64 0), (.str []), (.int .i64 0), (.int .i64 0), (.int .i64 0), (.int .i64 0), (.int .i64 0), .nils, .nils, .nils, .nils]), none⟩,⟨none, .m (.store 11 (.t 7) (.t 28)), none⟩]
def F95o11 : List AOper := [⟨some 29, .t (.mv (.t 3)), none⟩,⟨some 30, .t (.faddr 3 (.t 7)), none⟩,⟨some 31, .m (.load true 7 (.t 30)), none⟩,⟨some 32, .call (.c (.clo 95 [] [])) [(.t 31)], none⟩,⟨some 33, .t (.imax (.t 29) (.t 32)), none⟩,⟨some 3, .t (.mv (.t 33)), none⟩]
def F95o12 : List AOper := [⟨some 34, .t (.bin .add (.t 25) (.c (.int .i64 1))), none⟩,⟨some 25, .t (.mv (.t 34)), none⟩]
def F95b13 : ACode :=
(.seq (.ops F95o9 [3, 23, 24, 25, 26])
((.seq (.cond (.t 26)
(.skip)
(.exit 2))
((.seq (.block 3 ((.seq (.ops F95o10 [3, 7, 23, 24, 25])
(.ops F95o11 [3, 23, 24, 25]))))
(.ops F95o12 [3, 23, 24, 25]))))))
def F95o14 : List AOper := [⟨some 35, .t (.mv (.t 3)), none⟩,⟨some 2, .t (.mv (.t 35)), none⟩]
def F95c : ACode :=
(.seq (.ops F95o0 [1])
((.seq (.ops F95o1 [1, 3])
((.seq ((.seq (.ops F95o2 [1, 3, 11, 12, 13])
(.block 0 (.loop [1, 3, 11, 12, 13] F95b7))))
((.seq ((.seq (.ops F95o8 [3, 23, 24, 25])
(.block 2 (.loop [3, 23, 24, 25] F95b13))))
((.seq (.ops F95o14 [2])
(.ret))))))))))
def F95 : AFn := ⟨36, [.tmp 2], F95c⟩
theorem F95_ok : cFn Tryz.prog [] 95 = some F95 := by kernel_rfl
def F96o0 : List AOper := [⟨some 4, .t (.mv (.c (.bool false))), none⟩]
def F96o1 : List AOper := [⟨some 5, .t (.mv (.t 0)), none⟩,⟨some 6, .t (.mv (.t 1)), none⟩,⟨some 7, .call (.c (.clo 147 [] [])) [(.t 5), (.t 6)], none⟩,⟨some 8, .t (.bin .geq (.t 7) (.c (.int .i64 0))), none⟩,⟨some 4, .t (.mv (.t 8)), none⟩]
def F96c : ACode :=
(.seq (.ops F96o0 [0, 1])
((.seq (.ops F96o1 [4])
(.ret))))
def F96 : AFn := ⟨9, [.tmp 4], F96c⟩
theorem F96_ok : cFn Tryz.prog [] 96 = some F96 := by kernel_rfl
def F97o0 : List AOper := [⟨some 1, .m (.box 98 (.t 0)), none⟩,⟨some 2, .t (.mv (.c (.bool false))), none⟩]
def F97o1 : List AOper := [⟨some 3, .t (.faddr 3 (.t 1)), none⟩,⟨some 4, .t (.faddr 0 (.t 3)), none⟩,⟨some 5, .m (.load false 1 (.t 4)), none⟩,⟨some 6, .t (.bin .lss (.t 5) (.c (.int .i64 1))), none⟩,⟨some 7, .t (.mv (.t 6)), none⟩,⟨some 8, .t (.faddr 3 (.t 1)), (some (7, false))⟩,
  ⟨some 9, .t (.faddr 0 (.t 8)), (some (7, false))⟩,
  ⟨some 10, .m (.load false 1 (.t 9)), (some (7, false))⟩,
  ⟨some 11, .t (.bin .gtr (.t 10) (.c (.int .i64 7))), (some (7, false))⟩,
  ⟨some 12, .t (.pick (.t 7) (.c (.bool true)) (.t 11)), none⟩,⟨some 2, .t (.mv (.t 12)), none⟩]
def F97c : ACode :=
(.seq (.ops F97o0 [1])
((.seq (.ops F97o1 [2])
(.ret))))
def F97 : AFn := ⟨13, [.tmp 2], F97c⟩
theorem F97_ok : cFn Tryz.prog [] 97 = some F97 := by kernel_rfl
def F100o0 : List AOper := [⟨some 2, .m (.box 31 (.t 0)), none⟩,⟨some 3, .m (.box 9 (.t 1)), none⟩,⟨some 4, .t (.mv (.c (.int .i64 0))), none⟩]
def F100o1 : List AOper := [⟨some 5, .t (.faddr 5 (.t 2)), none⟩,⟨some 6, .m (.load false 1 (.t 5)), none⟩,⟨some 7, .t (.clo 152 [] [(.t 3)]), none⟩,⟨some 8, .call (.c (.clo 151 [] [])) [(.t 6), (.t 7)], none⟩,⟨some 4, .t (.mv (.t 8)), none⟩]
def F100c : ACode :=
(.seq (.ops F100o0 [2, 3])
((.seq (.ops F100o1 [4])
(.ret))))
def F100 : AFn := ⟨9, [.tmp 4], F100c⟩
theorem F100_ok : cFn Tryz.prog [] 100 = some F100 := by kernel_rfl
def F108o0 : List AOper := [⟨some 2, .t (.mv (.c .nilf)), none⟩]
def F108o1 : List AOper := [⟨some 3, .t (.mv (.t 0)), none⟩,⟨some 4, .t (.nilck (.t 3)), none⟩,⟨some 5, .t (.faddr 3 (.t 4)), none⟩,⟨some 6, .m (.load false 1 (.t 5)), none⟩,⟨some 7, .t (.len false (.t 6)), none⟩,⟨some 8, .t (.bin .eql (.t 7) (.c (.int .i64 64))), none⟩]
def F108o2 : List AOper := [⟨some 9, .t (.mv (.t 0)), none⟩,⟨some 10, .t (.mv (.t 0)), none⟩,⟨some 11, .t (.nilck (.t 10)), none⟩,⟨some 12, .t (.faddr 2 (.t 11)), none⟩,⟨some 13, .m (.load false 1 (.t 12)), none⟩,⟨some 14, .call (.c (.clo 159 [] [])) [(.t 9), (.t 13), (.c (.int .i64 9))], none⟩,⟨some 2, .t (.mv (.t 14)), none⟩]
def F108o3 : List AOper := [⟨some 15, .t (.mv (.t 0)), none⟩,⟨some 16, .t (.mv (.t 0)), none⟩,⟨some 17, .t (.nilck (.t 16)), none⟩,⟨some 18, .t (.faddr 4 (.t 17)), none⟩,⟨some 19, .m (.load false 1 (.t 18)), none⟩,⟨some 20, .t (.mv (.t 0)), none⟩,⟨some 21, .t (.nilck (.t 20)), none⟩,⟨some 22, .t (.faddr 2 (.t 21)), none⟩,⟨some 23, .m (.load false 1 (.t 22)), none⟩,⟨some 24, .m (.bslice false 3 1 1 [(.t 23)]), none⟩,⟨some 25, .m (.append false 3 1 8 (.t 19) (.t 24)), none⟩]
def F108p3 : List AOper := [⟨some 26, .t (.nilck (.t 15)), none⟩,⟨some 27, .t (.faddr 4 (.t 26)), none⟩,⟨none, .m (.store 1 (.t 27) (.t 25)), none⟩]
def F108A3 : List (List Nat) := [[], [], [1], [2, 1], [3, 2, 1], [], [5], [6, 5], [7, 6, 5], [8, 7, 6, 5], [4, 9, 3, 2, 1, 8, 7, 6, 5], [0, 10, 4, 9, 3, 2, 1, 8, 7, 6, 5], [11, 0, 10, 4, 9, 3, 2, 1, 8, 7, 6, 5], [12, 11, 0, 10, 4, 9, 3, 2, 1, 8, 7, 6, 5]]
def F108o4 : List AOper := [⟨some 28, .t (.mv (.t 0)), none⟩,⟨some 29, .t (.nilck (.t 28)), none⟩,⟨some 30, .t (.faddr 2 (.t 29)), none⟩,⟨some 31, .m (.load false 1 (.t 30)), none⟩,⟨some 32, .t (.mv (.t 0)), none⟩,⟨some 33, .t (.nilck (.t 32)), none⟩,⟨some 34, .t (.faddr 0 (.t 33)), none⟩,⟨some 35, .m (.load false 1 (.t 34)), none⟩,⟨some 36, .t (.len true (.t 35)), none⟩,⟨some 37, .t (.bin .lss (.t 31) (.t 36)), none⟩,⟨some 38, .t (.mv (.t 37)), none⟩,⟨some 39, .t (.mv (.t 0)), (some (38, true))⟩,
  ⟨some 40, .t (.nilck (.t 39)), (some (38, true))⟩,
  ⟨some 41, .t (.faddr 0 (.t 40)), (some (38, true))⟩,
  ⟨some 42, .m (.load false 1 (.t 41)), (some (38, true))⟩,
  ⟨some 43, .t (.mv (.t 0)), (some (38, true))⟩,
  ⟨some 44, .t (.nilck (.t 43)), (some (38, true))⟩,
  ⟨some 45, .t (.faddr 2 (.t 44)), (some (38, true))⟩,
  ⟨some 46, .m (.load false 1 (.t 45)), (some (38, true))⟩]
def F108p4 : List AOper := [⟨some 47, .t (.index (.t 42) (.t 46)), (some (38, true))⟩,
  ⟨some 48, .t (.bin .eql (.t 47) (.c (.int .u8 34))), (some (38, true))⟩,
  ⟨some 49, .t (.pick (.t 38) (.t 48) (.c (.bool false))), none⟩]
def F108A4 : List (List Nat) := [[], [0], [1, 0], [2, 1, 0], [], [4], [5, 4], [6, 5, 4], [7, 6, 5, 4], [3, 8, 2, 1, 0, 7, 6, 5, 4], [9, 3, 8, 2, 1, 0, 7, 6, 5, 4], [10, 9, 3, 8, 2, 1, 0, 7, 6, 5, 4], [11, 10, 9, 3, 8, 2, 1, 0, 7, 6, 5, 4], [12, 11, 10, 9, 3, 8, 2, 1, 0, 7, 6, 5, 4], [13, 12, 11, 10, 9, 3, 8, 2, 1, 0, 7, 6, 5, 4], [10, 9, 3, 8, 2, 1, 0, 7, 6, 5, 4], [15, 10, 9, 3, 8, 2, 1, 0, 7, 6, 5, 4], [16, 15, 10, 9, 3, 8, 2, 1, 0, 7, 6, 5, 4], [17, 16, 15, 10, 9, 3, 8, 2, 1, 0, 7, 6, 5, 4], [14, 18, 13, 12, 11, 17, 16, 15, 10, 9, 3, 8, 2, 1, 0, 7, 6, 5, 4], [19, 14, 18, 13, 12, 11, 17, 16, 15, 10, 9, 3, 8, 2, 1, 0, 7, 6, 5, 4], [20, 19, 14, 18, 13, 12, 11, 17, 16, 15, 10, 9, 3, 8, 2, 1, 0, 7, 6, 5, 4]]
def F108o5 : List AOper := [⟨some 50, .t (.mv (.t 0)), none⟩,⟨some 51, .t (.nilck (.t 50)), none⟩,⟨some 52, .t (.faddr 2 (.t 51)), none⟩,⟨some 53, .m (.load false 1 (.t 52)), none⟩,⟨some 54, .t (.bin .add (.t 53) (.c (.int .i64 1))), none⟩,⟨some 55, .t (.nilck (.t 50)), none⟩,⟨some 56, .t (.faddr 2 (.t 55)), none⟩,⟨none, .m (.store 1 (.t 56) (.t 54)), none⟩]
def F108o6 : List AOper := [⟨some 2, .t (.mv (.c (.clo 160 [] []))), none⟩]
def F108o7 : List AOper := [⟨some 2, .t (.mv (.c (.clo 161 [] []))), none⟩]
def F108c : ACode :=
(.seq (.ops F108o0 [0])
((.seq ((.seq (.ops F108o1 [0, 8])
(.cond (.t 8)
((.seq (.ops F108o2 [2])
(.ret)))
(.skip))))
((.seq (.draw F108A3 F108o3 F108p3 [0])
((.seq ((.seq (.draw F108A4 F108o4 F108p4 [0, 49])
(.cond (.t 49)
((.seq (.ops F108o5 [])
((.seq (.ops F108o6 [2])
(.ret)))))
(.skip))))
((.seq (.ops F108o7 [2])
(.ret))))))))))
def F108 : AFn := ⟨57, [.tmp 2], F108c⟩
theorem F108_ok : cFn Tryz.prog [] 108 = some F108 := by kernel_rfl
def F109o0 : List AOper := [⟨some 4, .t (.mv (.c (.bool false))), none⟩]
def F109o1 : List AOper := [⟨some 5, .t (.mv (.t 0)), none⟩,⟨some 6, .t (.mv (.t 1)), none⟩,⟨some 7, .call (.c (.clo 151 [] [])) [(.t 5), (.t 6)], none⟩,⟨some 8, .t (.bin .geq (.t 7) (.c (.int .i64 0))), none⟩,⟨some 4, .t (.mv (.t 8)), none⟩]
def F109c : ACode :=
(.seq (.ops F109o0 [0, 1])
((.seq (.ops F109o1 [4])
(.ret))))
def F109 : AFn := ⟨9, [.tmp 4], F109c⟩
theorem F109_ok : cFn Tryz.prog [] 109 = some F109 := by kernel_rfl
def F110o0 : List AOper := [⟨some 2, .m (.box 83 (.t 0)), none⟩,⟨some 3, .t (.mv (.c (.bool false))), none⟩]
def F110o1 : List AOper := [⟨some 4, .t (.faddr 0 (.t 2)), none⟩,⟨some 5, .m (.load false 1 (.t 4)), none⟩,⟨some 6, .t (.faddr 0 (.t 1)), none⟩,⟨some 7, .m (.load false 1 (.t 6)), none⟩,⟨some 8, .t (.bin .eql (.t 5) (.t 7)), none⟩,⟨some 9, .t (.mv (.t 8)), none⟩,⟨some 10, .t (.faddr 1 (.t 2)), (some (9, true))⟩,
  ⟨some 11, .m (.load true 6 (.t 10)), (some (9, true))⟩,
  ⟨some 12, .call (.c (.clo 111 [] [])) [(.t 11)], (some (9, true))⟩,
  ⟨some 13, .t (.not (.t 12)), (some (9, true))⟩,
  ⟨some 14, .t (.pick (.t 9) (.t 13) (.c (.bool false))), none⟩,⟨some 3, .t (.mv (.t 14)), none⟩]
def F110c : ACode :=
(.seq (.ops F110o0 [1, 2])
((.seq (.ops F110o1 [3])
(.ret))))
def F110 : AFn := ⟨15, [.tmp 3], F110c⟩
theorem F110_ok : cFn Tryz.prog [] 110 = some F110 := by kernel_rfl
def F111o0 : List AOper := [⟨some 1, .m (.box 31 (.t 0)), none⟩,⟨some 2, .t (.mv (.c (.bool false))), none⟩]
def F111o1 : List AOper := [⟨some 3, .t (.faddr 0 (.t 1)), none⟩,⟨some 4, .m (.load false 1 (.t 3)), none⟩,⟨some 5, .t (.bin .eql (.t 4) (.c (.int .i64 0))), none⟩,⟨some 6, .t (.mv (.t 5)), none⟩,⟨some 7, .t (.faddr 1 (.t 1)), (some (6, true))⟩,
  ⟨some 8, .m (.load false 1 (.t 7)), (some (6, true))⟩,
  ⟨some 9, .t (.bin .eql (.t 8) (.c (.int .i64 0))), (some (6, true))⟩,
  ⟨some 10, .t (.pick (.t 6) (.t 9) (.c (.bool false))), none⟩,⟨some 11, .t (.mv (.t 10)), none⟩,⟨some 12, .t (.faddr 2 (.t 1)), (some (11, true))⟩,
  ⟨some 13, .m (.load false 1 (.t 12)), (some (11, true))⟩,
  ⟨some 14, .t (.bin .eql (.t 13) (.c (.int .i64 0))), (some (11, true))⟩,
  ⟨some 15, .t (.pick (.t 11) (.t 14) (.c (.bool false))), none⟩,⟨some 16, .t (.mv (.t 15)), none⟩,⟨some 17, .t (.faddr 3 (.t 1)), (some (16, true))⟩,
  ⟨some 18, .m (.load false 1 (.t 17)), (some (16, true))⟩,
  ⟨some 19, .t (.bin .eql (.t 18) (.c (.str []))), (some (16, true))⟩,
  ⟨some 20, .t (.pick (.t 16) (.t 19) (.c (.bool false))), none⟩,⟨some 21, .t (.mv (.t 20)), none⟩,⟨some 22, .t (.faddr 4 (.t 1)), (some (21, true))⟩,
  ⟨some 23, .m (.load false 1 (.t 22)), (some (21, true))⟩,
  ⟨some 24, .t (.len false (.t 23)), (some (21, true))⟩,
  ⟨some 25, .t (.bin .eql (.t 24) (.c (.int .i64 0))), (some (21, true))⟩,
  ⟨some 26, .t (.pick (.t 21) (.t 25) (.c (.bool false))), none⟩,⟨some 27, .t (.mv (.t 26)), none⟩,⟨some 28, .t (.faddr 5 (.t 1)), (some (27, true))⟩,
  ⟨some 29, .m (.load false 1 (.t 28)), (some (27, true))⟩,
  ⟨some 30, .t (.len false (.t 29)), (some (27, true))⟩,
  ⟨some 31, .t (.bin .eql (.t 30) (.c (.int .i64 0))), (some (27, true))⟩,
  ⟨some 32, .t (.pick (.t 27) (.t 31) (.c (.bool false))), none⟩,⟨some 2, .t (.mv (.t 32)), none⟩]
def F111c : ACode :=
(.seq (.ops F111o0 [1])
((.seq (.ops F111o1 [2])
(.ret))))
def F111 : AFn := ⟨33, [.tmp 2], F111c⟩
theorem F111_ok : cFn Tryz.prog [] 111 = some F111 := by kernel_rfl
def F112o0 : List AOper := [⟨some 5, .t (.mv (.t 0)), none⟩,⟨some 6, .t (.len false (.t 5)), none⟩,⟨some 4, .t (.mv (.t 6)), none⟩]
def F112o1 : List AOper := [⟨some 7, .t (.mv (.t 0)), none⟩,⟨some 8, .t (.mv (.t 4)), none⟩,⟨some 9, .t (.mv (.t 4)), none⟩,⟨some 10, .t (.conv .u64 (.t 9)), none⟩,⟨some 11, .call (.c (.clo 163 [] [])) [(.t 10)], none⟩,⟨some 12, .t (.mv (.t 1)), none⟩,⟨some 13, .call (.c (.clo 162 [] [])) [(.t 7), (.c (.int .i64 0)), (.t 8), (.t 11), (.t 12)], none⟩]
def F112c : ACode :=
(.seq (.ops F112o0 [0, 1, 4])
(.ops F112o1 []))
def F112 : AFn := ⟨14, [], F112c⟩
theorem F112_ok : cFn Tryz.prog [] 112 = some F112 := by kernel_rfl
def F113o0 : List AOper := [⟨some 2, .m (.box 83 (.t 0)), none⟩,⟨some 3, .m (.box 83 (.t 1)), none⟩,⟨some 4, .t (.mv (.c (.int .i64 0))), none⟩]
def F113o1 : List AOper := [⟨some 5, .t (.faddr 0 (.t 2)), none⟩,⟨some 6, .m (.load false 1 (.t 5)), none⟩,⟨some 7, .t (.faddr 0 (.t 3)), none⟩,⟨some 8, .m (.load false 1 (.t 7)), none⟩,⟨some 9, .call (.c (.clo 114 [] [])) [(.t 6), (.t 8)], none⟩,⟨some 4, .t (.mv (.t 9)), none⟩]
def F113c : ACode :=
(.seq (.ops F113o0 [2, 3])
((.seq (.ops F113o1 [4])
(.ret))))
def F113 : AFn := ⟨10, [.tmp 4], F113c⟩
theorem F113_ok : cFn Tryz.prog [] 113 = some F113 := by kernel_rfl
def F120o0 : List AOper := [⟨some 4, .t (.mv (.c (.str []))), none⟩,⟨some 5, .t (.mv (.c (.str []))), none⟩,⟨some 6, .t (.mv (.c (.bool false))), none⟩]
def F120o1 : List AOper := [⟨some 8, .t (.mv (.t 0)), none⟩,⟨some 9, .t (.mv (.t 1)), none⟩,⟨some 10, .call (.c (.clo 169 [] [])) [(.t 8), (.t 9)], none⟩,⟨some 7, .t (.mv (.t 10)), none⟩]
def F120o2 : List AOper := [⟨some 11, .t (.mv (.t 7)), none⟩,⟨some 12, .t (.bin .geq (.t 11) (.c (.int .i64 0))), none⟩]
def F120o3 : List AOper := [⟨some 13, .t (.mv (.t 0)), none⟩,⟨some 14, .t (.mv (.t 7)), none⟩,⟨some 15, .t (.sliceS (.t 13) none (some (.t 14))), none⟩,⟨some 16, .t (.mv (.t 0)), none⟩,⟨some 17, .t (.mv (.t 7)), none⟩,⟨some 18, .t (.mv (.t 1)), none⟩,⟨some 19, .t (.len true (.t 18)), none⟩,⟨some 20, .t (.bin .add (.t 17) (.t 19)), none⟩,⟨some 21, .t (.sliceS (.t 16) (some (.t 20)) none), none⟩,⟨some 4, .t (.mv (.t 15)), none⟩]
def F120p3 : List AOper := [⟨some 5, .t (.mv (.t 21)), none⟩,⟨some 6, .t (.mv (.c (.bool true))), none⟩]
def F120A3 : List (List Nat) := [[], [], [0, 1], [], [], [], [5], [4, 6, 5], [3, 7, 4, 6, 5], [2, 0, 1], [8, 9, 3, 7, 4, 6, 5, 2, 0, 1], [10, 8, 9, 3, 7, 4, 6, 5, 2, 0, 1]]
def F120o4 : List AOper := [⟨some 22, .t (.mv (.t 0)), none⟩,⟨some 4, .t (.mv (.t 22)), none⟩,⟨some 5, .t (.mv (.c (.str []))), none⟩,⟨some 6, .t (.mv (.c (.bool false))), none⟩]
def F120c : ACode :=
(.seq (.ops F120o0 [0, 1])
((.seq ((.seq (.ops F120o1 [0, 1, 7])
((.seq (.ops F120o2 [0, 1, 7, 12])
(.cond (.t 12)
((.seq (.draw F120A3 F120o3 F120p3 [4, 5, 6])
(.ret)))
(.skip))))))
((.seq (.ops F120o4 [4, 5, 6])
(.ret))))))
def F120 : AFn := ⟨23, [.tmp 4, .tmp 5, .tmp 6], F120c⟩
theorem F120_ok : cFn Tryz.prog [] 120 = some F120 := by kernel_rfl
def F121o0 : List AOper := [⟨some 2, .t (.mv (.c (.int .i64 0))), none⟩,⟨some 3, .t (.mv (.c .nili)), none⟩]
def F121o1 : List AOper := [⟨some 11, .t (.mv (.t 0)), none⟩,⟨some 12, .t (.len true (.t 11)), none⟩,⟨some 4, .t (.mv (.t 12)), none⟩]
def F121o2 : List AOper := [⟨some 13, .t (.mv (.c (.bool false))), none⟩,⟨some 14, .t (.mv (.t 4)), (some (13, true))⟩,
  ⟨some 15, .t (.bin .lss (.c (.int .i64 0)) (.t 14)), (some (13, true))⟩,
  ⟨some 16, .t (.mv (.t 15)), (some (13, true))⟩,
  ⟨some 17, .t (.mv (.t 4)), (some (16, true))⟩,
  ⟨some 18, .t (.bin .lss (.t 17) (.c (.int .i64 10))), (some (16, true))⟩,
  ⟨some 19, .t (.pick (.t 16) (.t 18) (.c (.bool false))), (some (13, true))⟩,
  ⟨some 20, .t (.pick (.t 13) (.t 19) (.c (.bool false))), none⟩,⟨some 21, .t (.mv (.t 20)), none⟩,⟨some 22, .t (.mv (.c (.bool true))), (some (21, false))⟩,
  ⟨some 23, .t (.mv (.t 4)), (some (22, true))⟩,
  ⟨some 24, .t (.bin .lss (.c (.int .i64 0)) (.t 23)), (some (22, true))⟩,
  ⟨some 25, .t (.mv (.t 24)), (some (22, true))⟩,
  ⟨some 26, .t (.mv (.t 4)), (some (25, true))⟩,
  ⟨some 27, .t (.bin .lss (.t 26) (.c (.int .i64 19))), (some (25, true))⟩,
  ⟨some 28, .t (.pick (.t 25) (.t 27) (.c (.bool false))), (some (22, true))⟩,
  ⟨some 29, .t (.pick (.t 22) (.t 28) (.c (.bool false))), (some (21, false))⟩,
  ⟨some 30, .t (.pick (.t 21) (.c (.bool true)) (.t 29)), none⟩]
def F121o3 : List AOper := [⟨some 31, .t (.mv (.t 0)), none⟩,⟨some 5, .t (.mv (.t 31)), none⟩]
def F121o4 : List AOper := [⟨some 32, .t (.mv (.t 0)), none⟩,⟨some 33, .t (.index (.t 32) (.c (.int .i64 0))), none⟩,⟨some 34, .t (.bin .eql (.t 33) (.c (.int .u8 45))), none⟩,⟨some 35, .t (.mv (.t 34)), none⟩,⟨some 36, .t (.mv (.t 0)), (some (35, false))⟩,
  ⟨some 37, .t (.index (.t 36) (.c (.int .i64 0))), (some (35, false))⟩,
  ⟨some 38, .t (.bin .eql (.t 37) (.c (.int .u8 43))), (some (35, false))⟩,
  ⟨some 39, .t (.pick (.t 35) (.c (.bool true)) (.t 38)), none⟩]
def F121o5 : List AOper := [⟨some 40, .t (.mv (.t 0)), none⟩,⟨some 41, .t (.sliceS (.t 40) (some (.c (.int .i64 1))) none), none⟩,⟨some 0, .t (.mv (.t 41)), none⟩]
def F121o6 : List AOper := [⟨some 42, .t (.mv (.t 0)), none⟩,⟨some 43, .t (.len true (.t 42)), none⟩,⟨some 44, .t (.bin .lss (.t 43) (.c (.int .i64 1))), none⟩]
def F121o7 : List AOper := [⟨some 45, .m (.xop (.mki 200 (.c (.int .i64 2)))), none⟩,⟨some 2, .t (.mv (.c (.int .i64 0))), none⟩,⟨some 3, .t (.mv (.t 45)), none⟩]
def F121o8 : List AOper := [⟨some 6, .t (.mv (.c (.int .i64 0))), none⟩]
def F121o9 : List AOper := [⟨some 46, .t (.mv (.t 0)), none⟩,⟨some 47, .m (.xop (.ofStr (.t 46))), none⟩,⟨some 48, .t (.len false (.t 47)), none⟩,⟨some 49, .t (.mv (.c (.int .i64 0))), none⟩]
def F121o10 : List AOper := [⟨some 50, .t (.bin .lss (.t 49) (.t 48)), none⟩]
def F121o11 : List AOper := [⟨some 51, .t (.iaddr 1 (.t 47) (.t 49)), none⟩,⟨some 52, .m (.load false 1 (.t 51)), none⟩,⟨some 8, .t (.mv (.t 52)), none⟩]
def F121o12 : List AOper := [⟨some 53, .t (.mv (.t 8)), none⟩,⟨some 54, .t (.bin .sub (.t 53) (.c (.int .u8 48))), none⟩,⟨some 8, .t (.mv (.t 54)), none⟩]
def F121o13 : List AOper := [⟨some 55, .t (.mv (.t 8)), none⟩,⟨some 56, .t (.bin .gtr (.t 55) (.c (.int .u8 9))), none⟩]
def F121o14 : List AOper := [⟨some 57, .m (.xop (.mki 200 (.c (.int .i64 2)))), none⟩,⟨some 2, .t (.mv (.c (.int .i64 0))), none⟩,⟨some 3, .t (.mv (.t 57)), none⟩]
def F121o15 : List AOper := [⟨some 58, .t (.mv (.t 6)), none⟩,⟨some 59, .t (.bin .mul (.t 58) (.c (.int .i64 10))), none⟩,⟨some 60, .t (.mv (.t 8)), none⟩,⟨some 61, .t (.conv .i64 (.t 60)), none⟩,⟨some 62, .t (.bin .add (.t 59) (.t 61)), none⟩,⟨some 6, .t (.mv (.t 62)), none⟩]
def F121o16 : List AOper := [⟨some 63, .t (.bin .add (.t 49) (.c (.int .i64 1))), none⟩,⟨some 49, .t (.mv (.t 63)), none⟩]
def F121b17 : ACode :=
(.seq (.ops F121o10 [5, 6, 47, 48, 49, 50])
((.seq (.cond (.t 50)
(.skip)
(.exit 0))
((.seq (.block 1 ((.seq (.ops F121o11 [5, 6, 8, 47, 48, 49])
((.seq (.ops F121o12 [5, 6, 8, 47, 48, 49])
((.seq ((.seq (.ops F121o13 [5, 6, 8, 47, 48, 49, 56])
(.cond (.t 56)
((.seq (.ops F121o14 [2, 3])
(.ret)))
(.skip))))
(.ops F121o15 [5, 6, 47, 48, 49]))))))))
(.ops F121o16 [5, 6, 47, 48, 49]))))))
def F121o18 : List AOper := [⟨some 64, .t (.mv (.t 5)), none⟩,⟨some 65, .t (.index (.t 64) (.c (.int .i64 0))), none⟩,⟨some 66, .t (.bin .eql (.t 65) (.c (.int .u8 45))), none⟩]
def F121o19 : List AOper := [⟨some 67, .t (.mv (.t 6)), none⟩,⟨some 68, .t (.neg (.t 67)), none⟩,⟨some 6, .t (.mv (.t 68)), none⟩]
def F121o20 : List AOper := [⟨some 69, .t (.mv (.t 6)), none⟩,⟨some 2, .t (.mv (.t 69)), none⟩,⟨some 3, .t (.mv (.c .nili)), none⟩]
def F121o21 : List AOper := [⟨some 71, .t (.mv (.t 0)), none⟩,⟨some 72, .call (.c (.clo 170 [] [])) [(.t 71), (.c (.int .i64 10)), (.c (.int .i64 0))], none⟩,⟨some 70, .t (.mv (.t 72)), none⟩,⟨some 73, .t (.ext (.t 70) 0), none⟩,⟨some 74, .t (.ext (.t 70) 1), none⟩,⟨some 9, .t (.mv (.t 73)), none⟩,⟨some 10, .t (.mv (.t 74)), none⟩]
def F121o22 : List AOper := [⟨some 75, .t (.mv (.t 9)), none⟩,⟨some 76, .t (.mv (.t 10)), none⟩,⟨some 2, .t (.mv (.t 75)), none⟩,⟨some 3, .t (.mv (.t 76)), none⟩]
def F121c : ACode :=
(.seq (.ops F121o0 [0])
((.seq (.ops F121o1 [0, 4])
((.seq ((.seq (.ops F121o2 [0, 30])
(.cond (.t 30)
((.seq (.ops F121o3 [0, 5])
((.seq ((.seq (.ops F121o4 [0, 5, 39])
(.cond (.t 39)
((.seq (.ops F121o5 [0, 5])
((.seq (.ops F121o6 [0, 5, 44])
(.cond (.t 44)
((.seq (.ops F121o7 [2, 3])
(.ret)))
(.skip))))))
(.skip))))
((.seq (.ops F121o8 [0, 5, 6])
((.seq ((.seq (.ops F121o9 [5, 6, 47, 48, 49])
(.block 0 (.loop [5, 6, 47, 48, 49] F121b17))))
((.seq ((.seq (.ops F121o18 [6, 66])
(.cond (.t 66)
(.ops F121o19 [6])
(.skip))))
((.seq (.ops F121o20 [2, 3])
(.ret)))))))))))))
(.skip))))
((.seq (.ops F121o21 [9, 10])
((.seq (.ops F121o22 [2, 3])
(.ret))))))))))
def F121 : AFn := ⟨77, [.tmp 2, .tmp 3], F121c⟩
theorem F121_ok : cFn Tryz.prog [] 121 = some F121 := by kernel_rfl
def F123o0 : List AOper := [⟨some 4, .t (.mv (.c (.int .i64 0))), none⟩]
def F123o1 : List AOper := [⟨some 5, .t (.mv (.t 0)), none⟩,⟨some 6, .t (.mv (.t 1)), none⟩,⟨some 7, .m (.xop (.idxb (.t 5) (.t 6))), none⟩,⟨some 4, .t (.mv (.t 7)), none⟩]
def F123c : ACode :=
(.seq (.ops F123o0 [0, 1])
((.seq (.ops F123o1 [4])
(.ret))))
def F123 : AFn := ⟨8, [.tmp 4], F123c⟩
theorem F123_ok : cFn Tryz.prog [] 123 = some F123 := by kernel_rfl
def F124o0 : List AOper := [⟨some 4, .t (.mv (.c (.int .i64 0))), none⟩,⟨some 5, .t (.mv (.c (.int .i64 0))), none⟩]
def F124o1 : List AOper := [⟨some 6, .t (.mv (.t 0)), none⟩,⟨some 7, .call (.c (.clo 125 [] [])) [(.t 6), (.c (.int .i64 1)), (.c (.int .i64 9999))], none⟩,⟨some 8, .t (.not (.t 7)), none⟩,⟨some 9, .t (.mv (.t 8)), none⟩,⟨some 10, .t (.mv (.t 1)), (some (9, false))⟩,
  ⟨some 11, .call (.c (.clo 125 [] [])) [(.t 10), (.c (.int .i64 1)), (.c (.int .i64 12))], (some (9, false))⟩,
  ⟨some 12, .t (.not (.t 11)), (some (9, false))⟩,
  ⟨some 13, .t (.pick (.t 9) (.c (.bool true)) (.t 12)), none⟩]
def F124o2 : List AOper := [⟨some 4, .t (.mv (.c (.int .i64 0))), none⟩,⟨some 5, .t (.mv (.c (.int .i64 17))), none⟩]
def F124o3 : List AOper := [⟨some 14, .t (.mv (.t 0)), none⟩,⟨some 15, .t (.mv (.t 1)), none⟩,⟨some 16, .call (.c (.clo 127 [] [])) [(.t 14), (.t 15)], none⟩,⟨some 4, .t (.mv (.t 16)), none⟩,⟨some 5, .t (.mv (.c (.int .i64 0))), none⟩]
def F124c : ACode :=
(.seq (.ops F124o0 [0, 1])
((.seq ((.seq (.ops F124o1 [0, 1, 13])
(.cond (.t 13)
((.seq (.ops F124o2 [4, 5])
(.ret)))
(.skip))))
((.seq (.ops F124o3 [4, 5])
(.ret))))))
def F124 : AFn := ⟨17, [.tmp 4, .tmp 5], F124c⟩
theorem F124_ok : cFn Tryz.prog [] 124 = some F124 := by kernel_rfl
def F125o0 : List AOper := [⟨some 6, .t (.mv (.c (.bool false))), none⟩]
def F125o1 : List AOper := [⟨some 7, .t (.mv (.t 0)), none⟩,⟨some 8, .t (.mv (.t 1)), none⟩,⟨some 9, .t (.bin .geq (.t 7) (.t 8)), none⟩,⟨some 10, .t (.mv (.t 9)), none⟩,⟨some 11, .t (.mv (.t 0)), (some (10, true))⟩,
  ⟨some 12, .t (.mv (.t 2)), (some (10, true))⟩,
  ⟨some 13, .t (.bin .leq (.t 11) (.t 12)), (some (10, true))⟩,
  ⟨some 14, .t (.pick (.t 10) (.t 13) (.c (.bool false))), none⟩,⟨some 6, .t (.mv (.t 14)), none⟩]
def F125c : ACode :=
(.seq (.ops F125o0 [0, 1, 2])
((.seq (.ops F125o1 [6])
(.ret))))
def F125 : AFn := ⟨15, [.tmp 6], F125c⟩
theorem F125_ok : cFn Tryz.prog [] 125 = some F125 := by kernel_rfl
def F126o0 : List AOper := [⟨some 2, .t (.mv (.c (.int .i64 0))), none⟩]
def F126o1 : List AOper := [⟨some 4, .t (.mv (.t 0)), none⟩,⟨some 5, .t (.bin .sub (.t 4) (.c (.int .i64 1))), none⟩,⟨some 3, .t (.mv (.t 5)), none⟩]
def F126o2 : List AOper := [⟨some 6, .t (.mv (.t 3)), none⟩,⟨some 7, .t (.bin .mul (.c (.int .i64 365)) (.t 6)), none⟩,⟨some 8, .t (.mv (.t 3)), none⟩,⟨some 9, .t (.bin .quo (.t 8) (.c (.int .i64 4))), none⟩,⟨some 10, .t (.bin .add (.t 7) (.t 9)), none⟩,⟨some 11, .t (.mv (.t 3)), none⟩,⟨some 12, .t (.bin .quo (.t 11) (.c (.int .i64 100))), none⟩,⟨some 13, .t (.bin .sub (.t 10) (.t 12)), none⟩,⟨some 14, .t (.mv (.t 3)), none⟩,⟨some 15, .t (.bin .quo (.t 14) (.c (.int .i64 400))), none⟩,⟨some 16, .t (.bin .add (.t 13) (.t 15)), none⟩,⟨some 2, .t (.mv (.t 16)), none⟩]
def F126c : ACode :=
(.seq (.ops F126o0 [0])
((.seq (.ops F126o1 [3])
((.seq (.ops F126o2 [2])
(.ret))))))
def F126 : AFn := ⟨17, [.tmp 2], F126c⟩
theorem F126_ok : cFn Tryz.prog [] 126 = some F126 := by kernel_rfl
def F127o0 : List AOper := [⟨some 4, .t (.mv (.c (.int .i64 0))), none⟩]
def F127o1 : List AOper := [⟨some 5, .t (.mv (.t 1)), none⟩,⟨some 6, .t (.bin .eql (.t 5) (.c (.int .i64 2))), none⟩,⟨some 7, .t (.mv (.t 6)), none⟩,⟨some 8, .t (.mv (.t 0)), (some (7, true))⟩,
  ⟨some 9, .call (.c (.clo 176 [] [])) [(.t 8)], (some (7, true))⟩,
  ⟨some 10, .t (.pick (.t 7) (.t 9) (.c (.bool false))), none⟩]
def F127o2 : List AOper := [⟨some 4, .t (.mv (.c (.int .i64 29))), none⟩]
def F127o3 : List AOper := [⟨some 11, .t (.build [(.int .i64 0), (.int .i64 0), (.int .i64 0), (.int .i64 0), (.int .i64 0), (.int .i64 0), (.int .i64 0), (.int .i64 0), (.int .i64 0), (.int .i64 0), (.int .i64 0), (.int .i64 0)] [(0, 1, (.c (.int .i64 31))), (1, 1, (.c (.int .i64 28))), (2, 1, (.c (.int .i64 31))), (3, 1, (.c (.int .i64 30))), (4, 1, (.c (.int .i64 31))), (5, 1, (.c (.int .i64 30))), (6, 1, (.c (.int .i64 31))), (7, 1, (.c (.int .i64 31))), (8, 1, (.c (.int .i64 30))), (9, 1, (.c (.int .i64 31))), (10, 1, (.c (.int .i64 30))), (11, 1, (.c (.int .i64 31)))]), none⟩,⟨some 12, .t (.mv (.t 1)), none⟩,⟨some 13, .t (.bin .sub (.t 12) (.c (.int .i64 1))), none⟩,⟨some 14, .t (.indexA false 12 1 (.t 11) (.t 13)), none⟩,⟨some 4, .t (.mv (.t 14)), none⟩]
def F127c : ACode :=
(.seq (.ops F127o0 [0, 1])
((.seq ((.seq (.ops F127o1 [1, 10])
(.cond (.t 10)
((.seq (.ops F127o2 [4])
(.ret)))
(.skip))))
((.seq (.ops F127o3 [4])
(.ret))))))
def F127 : AFn := ⟨15, [.tmp 4], F127c⟩
theorem F127_ok : cFn Tryz.prog [] 127 = some F127 := by kernel_rfl
def F128o0 : List AOper := [⟨some 4, .t (.mv (.c (.str []))), none⟩,⟨some 5, .t (.mv (.c (.bool false))), none⟩]
def F128o1 : List AOper := [⟨some 6, .t (.mv (.t 0)), none⟩,⟨some 7, .t (.mv (.t 1)), none⟩,⟨some 8, .call (.c (.clo 177 [] [])) [(.t 6), (.t 7)], none⟩,⟨some 9, .t (.not (.t 8)), none⟩]
def F128o2 : List AOper := [⟨some 10, .t (.mv (.t 0)), none⟩,⟨some 4, .t (.mv (.t 10)), none⟩,⟨some 5, .t (.mv (.c (.bool false))), none⟩]
def F128o3 : List AOper := [⟨some 11, .t (.mv (.t 0)), none⟩,⟨some 12, .t (.mv (.t 1)), none⟩,⟨some 13, .t (.len true (.t 12)), none⟩,⟨some 14, .t (.sliceS (.t 11) (some (.t 13)) none), none⟩,⟨some 4, .t (.mv (.t 14)), none⟩,⟨some 5, .t (.mv (.c (.bool true))), none⟩]
def F128c : ACode :=
(.seq (.ops F128o0 [0, 1])
((.seq ((.seq (.ops F128o1 [0, 1, 9])
(.cond (.t 9)
((.seq (.ops F128o2 [4, 5])
(.ret)))
(.skip))))
((.seq (.ops F128o3 [4, 5])
(.ret))))))
def F128 : AFn := ⟨15, [.tmp 4, .tmp 5], F128c⟩
theorem F128_ok : cFn Tryz.prog [] 128 = some F128 := by kernel_rfl
def F130o0 : List AOper := [⟨some 1, .m (.box 31 (.t 0)), none⟩,⟨some 2, .t (.mv (.c (.bool false))), none⟩]
def F130o1 : List AOper := [⟨some 5, .m (.load true 6 (.t 1)), none⟩,⟨some 3, .m (.alloc 31 [(.int .i64 0), (.int .i64 0), (.int .i64 0), (.str []), .nils, .nils]), none⟩,⟨none, .m (.store 6 (.t 3) (.t 5)), none⟩]
def F130o2 : List AOper := [⟨some 6, .t (.faddr 0 (.t 1)), none⟩,⟨some 7, .m (.load false 1 (.t 6)), none⟩]
def F130o3 : List AOper := [⟨some 9, .t (.bin .eql (.t 7) (.c (.int .i64 1))), none⟩,⟨some 8, .t (.mv (.t 9)), none⟩]
def F130o4 : List AOper := [⟨some 10, .t (.faddr 1 (.t 1)), none⟩,⟨some 11, .m (.load false 1 (.t 10)), none⟩,⟨some 12, .t (.bin .neq (.t 11) (.c (.int .i64 0))), none⟩,⟨some 13, .t (.mv (.t 12)), none⟩,⟨some 14, .t (.faddr 1 (.t 1)), (some (13, true))⟩,
  ⟨some 15, .m (.load false 1 (.t 14)), (some (13, true))⟩,
  ⟨some 16, .t (.bin .neq (.t 15) (.c (.int .i64 1))), (some (13, true))⟩,
  ⟨some 17, .t (.pick (.t 13) (.t 16) (.c (.bool false))), none⟩]
def F130o5 : List AOper := [⟨some 2, .t (.mv (.c (.bool false))), none⟩]
def F130o6 : List AOper := [⟨some 18, .t (.faddr 1 (.t 3)), none⟩,⟨none, .m (.store 1 (.t 18) (.c (.int .i64 0))), none⟩]
def F130o7 : List AOper := [⟨some 20, .t (.bin .eql (.t 7) (.c (.int .i64 2))), none⟩,⟨some 19, .t (.mv (.t 20)), none⟩]
def F130o8 : List AOper := [⟨some 21, .t (.bin .eql (.t 7) (.c (.int .i64 6))), none⟩,⟨some 19, .t (.mv (.t 21)), none⟩]
def F130o9 : List AOper := [⟨some 22, .t (.bin .eql (.t 7) (.c (.int .i64 7))), none⟩,⟨some 19, .t (.mv (.t 22)), none⟩]
def F130o10 : List AOper := [⟨some 23, .t (.faddr 1 (.t 3)), none⟩,⟨none, .m (.store 1 (.t 23) (.c (.int .i64 0))), none⟩]
def F130o11 : List AOper := [⟨some 25, .t (.bin .eql (.t 7) (.c (.int .i64 3))), none⟩,⟨some 24, .t (.mv (.t 25)), none⟩]
def F130o12 : List AOper := [⟨some 26, .t (.faddr 1 (.t 3)), none⟩,⟨none, .m (.store 1 (.t 26) (.c (.int .i64 0))), none⟩,⟨some 27, .t (.faddr 2 (.t 3)), none⟩,⟨none, .m (.store 1 (.t 27) (.c (.int .i64 0))), none⟩]
def F130o13 : List AOper := [⟨some 29, .t (.bin .eql (.t 7) (.c (.int .i64 4))), none⟩,⟨some 28, .t (.mv (.t 29)), none⟩]
def F130o14 : List AOper := [⟨some 30, .t (.faddr 3 (.t 1)), none⟩,⟨some 31, .m (.load false 1 (.t 30)), none⟩,⟨some 32, .call (.c (.clo 178 [] [])) [(.t 31)], none⟩,⟨some 33, .t (.not (.t 32)), none⟩]
def F130o15 : List AOper := [⟨some 2, .t (.mv (.c (.bool false))), none⟩]
def F130o16 : List AOper := [⟨some 34, .t (.faddr 3 (.t 3)), none⟩,⟨none, .m (.store 1 (.t 34) (.c (.str []))), none⟩]
def F130o17 : List AOper := [⟨some 36, .t (.bin .eql (.t 7) (.c (.int .i64 5))), none⟩,⟨some 35, .t (.mv (.t 36)), none⟩]
def F130o18 : List AOper := [⟨some 37, .t (.faddr 3 (.t 3)), none⟩,⟨none, .m (.store 1 (.t 37) (.c (.str []))), none⟩]
def F130o19 : List AOper := [⟨some 39, .t (.bin .eql (.t 7) (.c (.int .i64 8))), none⟩,⟨some 38, .t (.mv (.t 39)), none⟩]
def F130o20 : List AOper := [⟨some 40, .t (.faddr 4 (.t 3)), none⟩,⟨none, .m (.store 1 (.t 40) (.c .nils)), none⟩]
def F130o21 : List AOper := [⟨some 42, .t (.bin .eql (.t 7) (.c (.int .i64 9))), none⟩,⟨some 41, .t (.mv (.t 42)), none⟩]
def F130o22 : List AOper := [⟨some 4, .t (.mv (.c (.int .i64 1))), none⟩]
def F130o23 : List AOper := [⟨some 43, .t (.mv (.t 4)), none⟩,⟨some 44, .t (.faddr 5 (.t 1)), none⟩,⟨some 45, .m (.load false 1 (.t 44)), none⟩,⟨some 46, .t (.len false (.t 45)), none⟩,⟨some 47, .t (.bin .lss (.t 43) (.t 46)), none⟩]
def F130o24 : List AOper := [⟨some 50, .t (.faddr 5 (.t 1)), none⟩,⟨some 51, .m (.load false 1 (.t 50)), none⟩,⟨some 52, .t (.mv (.t 4)), none⟩,⟨some 53, .t (.bin .sub (.t 52) (.c (.int .i64 1))), none⟩,⟨some 54, .t (.iaddr 7 (.t 51) (.t 53)), none⟩,⟨some 55, .t (.faddr 0 (.t 54)), none⟩,⟨some 56, .m (.load false 1 (.t 55)), none⟩,⟨some 57, .t (.faddr 5 (.t 1)), none⟩,⟨some 58, .m (.load false 1 (.t 57)), none⟩,⟨some 59, .t (.mv (.t 4)), none⟩,⟨some 60, .t (.iaddr 7 (.t 58) (.t 59)), none⟩,⟨some 61, .t (.faddr 0 (.t 60)), none⟩,⟨some 62, .m (.load false 1 (.t 61)), none⟩]
def F130p24 : List AOper := [⟨some 63, .t (.bin .geq (.t 56) (.t 62)), none⟩]
def F130A24 : List (List Nat) := [[], [0], [], [2], [1, 3, 0, 2], [4, 1, 3, 0, 2], [5, 4, 1, 3, 0, 2], [], [7], [], [8, 9, 7], [10, 8, 9, 7], [11, 10, 8, 9, 7], [6, 12, 5, 4, 1, 3, 0, 2, 11, 10, 8, 9, 7]]
def F130o25 : List AOper := [⟨some 2, .t (.mv (.c (.bool false))), none⟩]
def F130o26 : List AOper := [⟨some 48, .t (.mv (.t 4)), none⟩,⟨some 49, .t (.bin .add (.t 48) (.c (.int .i64 1))), none⟩,⟨some 4, .t (.mv (.t 49)), none⟩]
def F130b27 : ACode :=
(.seq ((.seq (.ops F130o23 [1, 3, 4, 47])
(.cond (.t 47)
(.skip)
(.exit 1))))
((.seq (.block 2 ((.seq (.draw F130A24 F130o24 F130p24 [1, 3, 4, 63])
(.cond (.t 63)
((.seq (.ops F130o25 [2])
(.ret)))
(.skip)))))
(.ops F130o26 [1, 3, 4]))))
def F130o28 : List AOper := [⟨some 64, .t (.faddr 5 (.t 3)), none⟩,⟨none, .m (.store 1 (.t 64) (.c .nils)), none⟩]
def F130o29 : List AOper := [⟨some 66, .t (.bin .eql (.t 7) (.c (.int .i64 10))), none⟩,⟨some 65, .t (.mv (.t 66)), none⟩]
def F130o30 : List AOper := [⟨some 67, .t (.faddr 4 (.t 1)), none⟩,⟨some 68, .m (.load false 1 (.t 67)), none⟩,⟨some 69, .t (.len false (.t 68)), none⟩,⟨some 70, .t (.bin .neq (.t 69) (.c (.int .i64 1))), none⟩]
def F130o31 : List AOper := [⟨some 2, .t (.mv (.c (.bool false))), none⟩]
def F130o32 : List AOper := [⟨some 71, .t (.faddr 3 (.t 3)), none⟩,⟨none, .m (.store 1 (.t 71) (.c (.str []))), none⟩,⟨some 72, .t (.faddr 4 (.t 3)), none⟩,⟨none, .m (.store 1 (.t 72) (.c .nils)), none⟩]
def F130o33 : List AOper := [⟨some 73, .t (.faddr 1 (.t 3)), none⟩,⟨some 74, .m (.load false 1 (.t 73)), none⟩,⟨some 75, .t (.bin .eql (.t 74) (.c (.int .i64 0))), none⟩,⟨some 76, .t (.mv (.t 75)), none⟩,⟨some 77, .t (.faddr 2 (.t 3)), (some (76, true))⟩,
  ⟨some 78, .m (.load false 1 (.t 77)), (some (76, true))⟩,
  ⟨some 79, .t (.bin .eql (.t 78) (.c (.int .i64 0))), (some (76, true))⟩,
  ⟨some 80, .t (.pick (.t 76) (.t 79) (.c (.bool false))), none⟩,⟨some 81, .t (.mv (.t 80)), none⟩,⟨some 82, .t (.faddr 3 (.t 3)), (some (81, true))⟩,
  ⟨some 83, .m (.load false 1 (.t 82)), (some (81, true))⟩,
  ⟨some 84, .t (.bin .eql (.t 83) (.c (.str []))), (some (81, true))⟩,
  ⟨some 85, .t (.pick (.t 81) (.t 84) (.c (.bool false))), none⟩,⟨some 86, .t (.mv (.t 85)), none⟩,⟨some 87, .t (.faddr 4 (.t 3)), (some (86, true))⟩,
  ⟨some 88, .m (.load false 1 (.t 87)), (some (86, true))⟩,
  ⟨some 89, .t (.len false (.t 88)), (some (86, true))⟩,
  ⟨some 90, .t (.bin .eql (.t 89) (.c (.int .i64 0))), (some (86, true))⟩,
  ⟨some 91, .t (.pick (.t 86) (.t 90) (.c (.bool false))), none⟩,⟨some 92, .t (.mv (.t 91)), none⟩,⟨some 93, .t (.faddr 5 (.t 3)), (some (92, true))⟩,
  ⟨some 94, .m (.load false 1 (.t 93)), (some (92, true))⟩,
  ⟨some 95, .t (.len false (.t 94)), (some (92, true))⟩,
  ⟨some 96, .t (.bin .eql (.t 95) (.c (.int .i64 0))), (some (92, true))⟩,
  ⟨some 97, .t (.pick (.t 92) (.t 96) (.c (.bool false))), none⟩,⟨some 2, .t (.mv (.t 97)), none⟩]
def F130c : ACode :=
(.seq (.ops F130o0 [1])
((.seq (.ops F130o1 [1, 3])
((.seq ((.seq (.ops F130o2 [1, 3, 7])
(.block 0 ((.seq (.ops F130o3 [1, 3, 7, 8])
(.cond (.t 8)
((.seq ((.seq (.ops F130o4 [3, 17])
(.cond (.t 17)
((.seq (.ops F130o5 [2])
(.ret)))
(.skip))))
(.ops F130o6 [3])))
((.seq ((.seq (.ops F130o7 [1, 3, 7, 19])
(.cond (.t 19)
(.skip)
((.seq (.ops F130o8 [1, 3, 7, 19])
(.cond (.t 19)
(.skip)
(.ops F130o9 [1, 3, 7, 19])))))))
(.cond (.t 19)
(.ops F130o10 [3])
((.seq (.ops F130o11 [1, 3, 7, 24])
(.cond (.t 24)
(.ops F130o12 [3])
((.seq (.ops F130o13 [1, 3, 7, 28])
(.cond (.t 28)
((.seq ((.seq (.ops F130o14 [3, 33])
(.cond (.t 33)
((.seq (.ops F130o15 [2])
(.ret)))
(.skip))))
(.ops F130o16 [3])))
((.seq (.ops F130o17 [1, 3, 7, 35])
(.cond (.t 35)
(.ops F130o18 [3])
((.seq (.ops F130o19 [1, 3, 7, 38])
(.cond (.t 38)
(.ops F130o20 [3])
((.seq (.ops F130o21 [1, 3, 7, 41])
(.cond (.t 41)
((.seq ((.seq (.ops F130o22 [1, 3, 4])
(.block 1 (.loop [1, 3, 4] F130b27))))
(.ops F130o28 [3])))
((.seq (.ops F130o29 [1, 3, 65])
(.cond (.t 65)
((.seq ((.seq (.ops F130o30 [3, 70])
(.cond (.t 70)
((.seq (.ops F130o31 [2])
(.ret)))
(.skip))))
(.ops F130o32 [3])))
(.skip))))))))))))))))))))))))))))
((.seq (.ops F130o33 [2])
(.ret))))))))
def F130 : AFn := ⟨98, [.tmp 2], F130c⟩
theorem F130_ok : cFn Tryz.prog [] 130 = some F130 := by kernel_rfl
def F131o0 : List AOper := [⟨some 5, .m (.box 26 (.t 1)), none⟩]
def F131o1 : List AOper := [⟨some 8, .t (.mv (.t 3)), none⟩,⟨some 9, .t (.faddr 1 (.t 5)), none⟩,⟨some 10, .m (.load false 1 (.t 9)), none⟩,⟨some 11, .t (.bin .lss (.t 8) (.t 10)), none⟩,⟨some 12, .t (.mv (.t 11)), none⟩,⟨some 13, .t (.mv (.t 3)), (some (12, false))⟩,
  ⟨some 14, .t (.faddr 2 (.t 5)), (some (12, false))⟩,
  ⟨some 15, .m (.load false 1 (.t 14)), (some (12, false))⟩,
  ⟨some 16, .t (.bin .gtr (.t 13) (.t 15)), (some (12, false))⟩,
  ⟨some 17, .t (.pick (.t 12) (.c (.bool true)) (.t 16)), none⟩]
def F131o2 : List AOper := [⟨some 18, .t (.mv (.t 0)), none⟩,⟨some 19, .t (.mv (.t 2)), none⟩,⟨some 20, .call (.c (.clo 129 [] [])) [(.t 18), (.t 19), (.c (.int .i64 2))], none⟩]
def F131c : ACode :=
(.seq (.ops F131o0 [0, 2, 3, 5])
((.seq (.ops F131o1 [0, 2, 17])
(.cond (.t 17)
(.ops F131o2 [])
(.skip)))))
def F131 : AFn := ⟨21, [], F131c⟩
theorem F131_ok : cFn Tryz.prog [] 131 = some F131 := by kernel_rfl
def F133o0 : List AOper := [⟨some 5, .m (.box 26 (.t 1)), none⟩,⟨some 6, .m (.box 31 (.t 2)), none⟩]
def F133o1 : List AOper := [⟨some 16, .t (.faddr 6 (.t 5)), none⟩,⟨some 17, .m (.load false 1 (.t 16)), none⟩,⟨some 18, .t (.len false (.t 17)), none⟩,⟨some 19, .t (.mv (.c (.int .i64 0))), none⟩]
def F133o2 : List AOper := [⟨some 20, .t (.bin .lss (.t 19) (.t 18)), none⟩]
def F133o3 : List AOper := [⟨some 21, .t (.iaddr 11 (.t 17) (.t 19)), none⟩,⟨some 22, .m (.load true 11 (.t 21)), none⟩,⟨some 9, .m (.alloc 98 [(.int .i64 0), (.str []), (.int .i64 0), (.int .i64 0), (.int .i64 0), (.int .i64 0), (.int .i64 0), .nils, .nils, .nils, .nils]), none⟩,⟨none, .m (.store 11 (.t 9) (.t 22)), none⟩]
def F133o4 : List AOper := [⟨some 24, .m (.load true 6 (.t 6)), none⟩,⟨some 25, .t (.faddr 1 (.t 9)), none⟩,⟨some 26, .m (.load false 1 (.t 25)), none⟩,⟨some 27, .call (.c (.clo 52 [] [])) [(.t 24), (.t 26)], none⟩,⟨some 23, .t (.mv (.t 27)), none⟩,⟨some 28, .t (.ext (.t 23) 0), none⟩,⟨some 29, .t (.ext (.t 23) 1), none⟩,⟨some 10, .m (.alloc 31 [(.int .i64 0), (.int .i64 0), (.int .i64 0), (.str []), .nils, .nils]), none⟩,⟨none, .m (.store 6 (.t 10) (.t 28)), none⟩,⟨some 11, .t (.mv (.t 29)), none⟩]
def F133o5 : List AOper := [⟨some 30, .t (.mv (.t 11)), none⟩]
def F133o6 : List AOper := [⟨some 31, .t (.mv (.t 0)), none⟩,⟨some 32, .t (.faddr 3 (.t 9)), none⟩,⟨some 33, .m (.load true 7 (.t 32)), none⟩,⟨some 34, .m (.load true 6 (.t 10)), none⟩,⟨some 35, .t (.mv (.t 3)), none⟩,⟨some 36, .t (.faddr 1 (.t 9)), none⟩,⟨some 37, .m (.load false 1 (.t 36)), none⟩,⟨some 38, .call (.c (.clo 180 [] [])) [(.t 35), (.t 37)], none⟩]
def F133p6 : List AOper := [⟨some 39, .call (.c (.clo 80 [] [])) [(.t 31), (.t 33), (.t 34), (.t 38)], none⟩]
def F133A6 : List (List Nat) := [[], [], [1], [], [], [], [5], [4, 6, 5], [0, 2, 3, 7, 1, 4, 6, 5]]
def F133o7 : List AOper := [⟨some 40, .t (.faddr 2 (.t 9)), none⟩,⟨some 41, .m (.load false 1 (.t 40)), none⟩,⟨some 42, .t (.bin .neq (.t 41) (.c (.int .i64 2))), none⟩]
def F133o8 : List AOper := [⟨some 43, .t (.mv (.t 0)), none⟩,⟨some 44, .t (.mv (.t 3)), none⟩,⟨some 45, .t (.faddr 1 (.t 9)), none⟩,⟨some 46, .m (.load false 1 (.t 45)), none⟩,⟨some 47, .call (.c (.clo 180 [] [])) [(.t 44), (.t 46)], none⟩,⟨some 48, .call (.c (.clo 129 [] [])) [(.t 43), (.t 47), (.c (.int .i64 5))], none⟩]
def F133o9 : List AOper := [⟨some 49, .t (.bin .add (.t 19) (.c (.int .i64 1))), none⟩,⟨some 19, .t (.mv (.t 49)), none⟩]
def F133b10 : ACode :=
(.seq (.ops F133o2 [0, 3, 5, 6, 17, 18, 19, 20])
((.seq (.cond (.t 20)
(.skip)
(.exit 0))
((.seq (.block 1 ((.seq (.ops F133o3 [0, 3, 5, 6, 9, 17, 18, 19])
((.seq (.ops F133o4 [0, 3, 5, 6, 9, 10, 11, 17, 18, 19])
((.seq (.ops F133o5 [0, 3, 5, 6, 9, 10, 17, 18, 19, 30])
(.cond (.t 30)
(.draw F133A6 F133o6 F133p6 [0, 3, 5, 6, 17, 18, 19])
((.seq (.ops F133o7 [0, 3, 5, 6, 9, 17, 18, 19, 42])
(.cond (.t 42)
(.ops F133o8 [0, 3, 5, 6, 17, 18, 19])
(.skip))))))))))))
(.ops F133o9 [0, 3, 5, 6, 17, 18, 19]))))))
def F133o11 : List AOper := [⟨some 50, .t (.faddr 5 (.t 6)), none⟩,⟨some 51, .m (.load false 1 (.t 50)), none⟩,⟨some 52, .t (.len false (.t 51)), none⟩,⟨some 53, .t (.mv (.c (.int .i64 0))), none⟩]
def F133o12 : List AOper := [⟨some 54, .t (.bin .lss (.t 53) (.t 52)), none⟩]
def F133o13 : List AOper := [⟨some 55, .t (.iaddr 7 (.t 51) (.t 53)), none⟩,⟨some 56, .m (.load true 7 (.t 55)), none⟩,⟨some 13, .m (.alloc 83 [(.str []), (.int .i64 0), (.int .i64 0), (.int .i64 0), (.str []), .nils, .nils]), none⟩,⟨none, .m (.store 7 (.t 13) (.t 56)), none⟩]
def F133o14 : List AOper := [⟨some 58, .m (.load true 7 (.t 5)), none⟩,⟨some 59, .t (.faddr 0 (.t 13)), none⟩,⟨some 60, .m (.load false 1 (.t 59)), none⟩,⟨some 61, .call (.c (.clo 134 [] [])) [(.t 58), (.t 60)], none⟩,⟨some 57, .t (.mv (.t 61)), none⟩,⟨some 62, .t (.ext (.t 57) 0), none⟩,⟨some 63, .t (.ext (.t 57) 1), none⟩,⟨some 14, .m (.alloc 98 [(.int .i64 0), (.str []), (.int .i64 0), (.int .i64 0), (.int .i64 0), (.int .i64 0), (.int .i64 0), .nils, .nils, .nils, .nils]), none⟩,⟨none, .m (.store 11 (.t 14) (.t 62)), none⟩,⟨some 15, .t (.mv (.t 63)), none⟩]
def F133o15 : List AOper := [⟨some 64, .t (.mv (.t 15)), none⟩,⟨some 65, .t (.not (.t 64)), none⟩]
def F133o16 : List AOper := [⟨some 66, .t (.mv (.t 0)), none⟩,⟨some 67, .t (.mv (.t 3)), none⟩,⟨some 68, .t (.faddr 0 (.t 13)), none⟩,⟨some 69, .m (.load false 1 (.t 68)), none⟩,⟨some 70, .call (.c (.clo 180 [] [])) [(.t 67), (.t 69)], none⟩,⟨some 71, .call (.c (.clo 129 [] [])) [(.t 66), (.t 70), (.c (.int .i64 6))], none⟩]
def F133o17 : List AOper := [⟨some 72, .t (.bin .add (.t 53) (.c (.int .i64 1))), none⟩,⟨some 53, .t (.mv (.t 72)), none⟩]
def F133b18 : ACode :=
(.seq (.ops F133o12 [0, 3, 5, 51, 52, 53, 54])
((.seq (.cond (.t 54)
(.skip)
(.exit 2))
((.seq (.block 3 ((.seq (.ops F133o13 [0, 3, 5, 13, 51, 52, 53])
((.seq (.ops F133o14 [0, 3, 5, 13, 15, 51, 52, 53])
((.seq (.ops F133o15 [0, 3, 5, 13, 51, 52, 53, 65])
(.cond (.t 65)
(.ops F133o16 [0, 3, 5, 51, 52, 53])
(.skip)))))))))
(.ops F133o17 [0, 3, 5, 51, 52, 53]))))))
def F133c : ACode :=
(.seq (.ops F133o0 [0, 3, 5, 6])
((.seq ((.seq (.ops F133o1 [0, 3, 5, 6, 17, 18, 19])
(.block 0 (.loop [0, 3, 5, 6, 17, 18, 19] F133b10))))
((.seq (.ops F133o11 [0, 3, 5, 51, 52, 53])
(.block 2 (.loop [0, 3, 5, 51, 52, 53] F133b18)))))))
def F133 : AFn := ⟨73, [], F133c⟩
theorem F133_ok : cFn Tryz.prog [] 133 = some F133 := by kernel_rfl
def F134o0 : List AOper := [⟨some 2, .m (.box 26 (.t 0)), none⟩,⟨some 3, .m (.box 9 (.t 1)), none⟩,⟨some 4, .m (.alloc 98 [(.int .i64 0), (.str []), (.int .i64 0), (.int .i64 0), (.int .i64 0), (.int .i64 0), (.int .i64 0), .nils, .nils, .nils, .nils]), none⟩,⟨some 5, .t (.mv (.c (.bool false))), none⟩]
def F134o1 : List AOper := [⟨some 7, .t (.faddr 6 (.t 2)), none⟩,⟨some 8, .m (.load false 1 (.t 7)), none⟩,⟨some 9, .t (.clo 181 [] [(.t 3)]), none⟩,⟨some 10, .call (.c (.clo 147 [] [])) [(.t 8), (.t 9)], none⟩,⟨some 6, .t (.mv (.t 10)), none⟩]
def F134o2 : List AOper := [⟨some 11, .t (.mv (.t 6)), none⟩,⟨some 12, .t (.bin .lss (.t 11) (.c (.int .i64 0))), none⟩]
def F134o3 : List AOper := [⟨some 13, .t (.build [(.int .i64 0), (.str []), (.int .i64 0), (.int .i64 0), (.int .i64 0), (.int .i64 0), (.int .i64 0), .nils, .nils, .nils, .nils] []), none⟩,⟨none, .m (.store 11 (.t 4) (.t 13)), none⟩,⟨some 5, .t (.mv (.c (.bool false))), none⟩]
def F134o4 : List AOper := [⟨some 14, .t (.faddr 6 (.t 2)), none⟩,⟨some 15, .m (.load false 1 (.t 14)), none⟩,⟨some 16, .t (.mv (.t 6)), none⟩,⟨some 17, .t (.iaddr 11 (.t 15) (.t 16)), none⟩,⟨some 18, .m (.load true 11 (.t 17)), none⟩,⟨none, .m (.store 11 (.t 4) (.t 18)), none⟩,⟨some 5, .t (.mv (.c (.bool true))), none⟩]
def F134c : ACode :=
(.seq (.ops F134o0 [2, 3, 4])
((.seq (.ops F134o1 [2, 4, 6])
((.seq ((.seq (.ops F134o2 [2, 4, 6, 12])
(.cond (.t 12)
((.seq (.ops F134o3 [4, 5])
(.ret)))
(.skip))))
((.seq (.ops F134o4 [4, 5])
(.ret))))))))
def F134 : AFn := ⟨19, [.cell 4 true 11, .tmp 5], F134c⟩
theorem F134_ok : cFn Tryz.prog [] 134 = some F134 := by kernel_rfl
def F143o0 : List AOper := [⟨some 1, .m (.box 26 (.t 0)), none⟩,⟨some 2, .t (.mv (.c (.int .i64 0))), none⟩]
def F143o1 : List AOper := [⟨some 8, .t (.faddr 0 (.t 1)), none⟩,⟨some 9, .m (.load false 1 (.t 8)), none⟩,⟨some 10, .call (.c (.clo 187 [] [])) [(.t 9), (.c (.int .i64 1)), (.c (.int .i64 10))], none⟩,⟨some 11, .t (.not (.t 10)), none⟩]
def F143o2 : List AOper := [⟨some 2, .t (.mv (.c (.int .i64 11))), none⟩]
def F143o3 : List AOper := [⟨some 12, .call (.c (.clo 188 [] [])) [], none⟩,⟨some 13, .t (.faddr 0 (.t 1)), none⟩,⟨some 14, .m (.load false 1 (.t 13)), none⟩,⟨some 15, .t (.indexA true 11 8 (.t 12) (.t 14)), none⟩,⟨some 3, .m (.alloc 217 [(.str []), (.int .i64 0), (.int .i64 0), (.bool false), (.bool false), (.bool false), (.bool false), (.bool false)]), none⟩]
def F143p3 : List AOper := [⟨none, .m (.store 8 (.t 3) (.t 15)), none⟩]
def F143A3 : List (List Nat) := [[], [], [1], [0, 2, 1], [], [3, 4, 0, 2, 1]]
def F143o4 : List AOper := [⟨some 16, .m (.load true 7 (.t 1)), none⟩,⟨some 17, .m (.load true 8 (.t 3)), none⟩,⟨some 18, .call (.c (.clo 189 [] [])) [(.t 16), (.t 17)], none⟩,⟨some 4, .t (.mv (.t 18)), none⟩]
def F143o5 : List AOper := [⟨some 19, .t (.mv (.t 4)), none⟩,⟨some 20, .t (.bin .neq (.t 19) (.c (.int .i64 0))), none⟩]
def F143o6 : List AOper := [⟨some 21, .t (.mv (.t 4)), none⟩,⟨some 2, .t (.mv (.t 21)), none⟩]
def F143o7 : List AOper := [⟨some 23, .t (.faddr 0 (.t 1)), none⟩,⟨some 24, .m (.load false 1 (.t 23)), none⟩,⟨some 25, .t (.bin .eql (.t 24) (.c (.int .i64 4))), none⟩,⟨some 26, .t (.mv (.t 25)), none⟩,⟨some 27, .t (.faddr 4 (.t 1)), (some (26, true))⟩,
  ⟨some 28, .m (.load false 1 (.t 27)), (some (26, true))⟩,
  ⟨some 29, .t (.len false (.t 28)), (some (26, true))⟩,
  ⟨some 30, .t (.bin .gtr (.t 29) (.c (.int .i64 0))), (some (26, true))⟩,
  ⟨some 31, .t (.pick (.t 26) (.t 30) (.c (.bool false))), none⟩,⟨some 22, .t (.mv (.t 31)), none⟩]
def F143o8 : List AOper := [⟨some 32, .m (.load true 7 (.t 1)), none⟩,⟨some 33, .call (.c (.clo 190 [] [])) [(.t 32)], none⟩,⟨some 5, .t (.mv (.t 33)), none⟩]
def F143o9 : List AOper := [⟨some 34, .t (.mv (.t 5)), none⟩,⟨some 35, .t (.bin .neq (.t 34) (.c (.int .i64 0))), none⟩]
def F143o10 : List AOper := [⟨some 36, .t (.mv (.t 5)), none⟩,⟨some 2, .t (.mv (.t 36)), none⟩]
def F143o11 : List AOper := [⟨some 38, .t (.faddr 3 (.t 3)), none⟩,⟨some 39, .m (.load false 1 (.t 38)), none⟩,⟨some 40, .t (.mv (.t 39)), none⟩,⟨some 41, .t (.faddr 1 (.t 1)), (some (40, true))⟩,
  ⟨some 42, .m (.load false 1 (.t 41)), (some (40, true))⟩,
  ⟨some 43, .t (.faddr 2 (.t 1)), (some (40, true))⟩,
  ⟨some 44, .m (.load false 1 (.t 43)), (some (40, true))⟩,
  ⟨some 45, .t (.bin .gtr (.t 42) (.t 44)), (some (40, true))⟩,
  ⟨some 46, .t (.mv (.t 45)), (some (40, true))⟩,
  ⟨some 47, .t (.faddr 1 (.t 1)), (some (46, false))⟩,
  ⟨some 48, .m (.load false 1 (.t 47)), (some (46, false))⟩,
  ⟨some 49, .t (.faddr 1 (.t 3)), (some (46, false))⟩,
  ⟨some 50, .m (.load false 1 (.t 49)), (some (46, false))⟩,
  ⟨some 51, .t (.bin .lss (.t 48) (.t 50)), (some (46, false))⟩,
  ⟨some 52, .t (.pick (.t 46) (.c (.bool true)) (.t 51)), (some (40, true))⟩,
  ⟨some 53, .t (.mv (.t 52)), (some (40, true))⟩,
  ⟨some 54, .t (.faddr 2 (.t 1)), (some (53, false))⟩,
  ⟨some 55, .m (.load false 1 (.t 54)), (some (53, false))⟩,
  ⟨some 56, .t (.faddr 2 (.t 3)), (some (53, false))⟩,
  ⟨some 57, .m (.load false 1 (.t 56)), (some (53, false))⟩,
  ⟨some 58, .t (.bin .gtr (.t 55) (.t 57)), (some (53, false))⟩,
  ⟨some 59, .t (.pick (.t 53) (.c (.bool true)) (.t 58)), (some (40, true))⟩,
  ⟨some 60, .t (.pick (.t 40) (.t 59) (.c (.bool false))), none⟩,⟨some 37, .t (.mv (.t 60)), none⟩]
def F143o12 : List AOper := [⟨some 61, .t (.faddr 4 (.t 3)), none⟩,⟨some 62, .m (.load false 1 (.t 61)), none⟩,⟨some 63, .t (.mv (.t 62)), none⟩,⟨some 64, .t (.faddr 3 (.t 1)), (some (63, true))⟩,
  ⟨some 65, .m (.load false 1 (.t 64)), (some (63, true))⟩,
  ⟨some 66, .call (.c (.clo 187 [] [])) [(.t 65), (.c (.int .i64 0)), (.c (.int .i64 12))], (some (63, true))⟩,
  ⟨some 67, .t (.not (.t 66)), (some (63, true))⟩,
  ⟨some 68, .t (.pick (.t 63) (.t 67) (.c (.bool false))), none⟩,⟨some 37, .t (.mv (.t 68)), none⟩]
def F143o13 : List AOper := [⟨some 2, .t (.mv (.c (.int .i64 2))), none⟩]
def F143o14 : List AOper := [⟨some 70, .t (.faddr 0 (.t 1)), none⟩,⟨some 71, .m (.load false 1 (.t 70)), none⟩,⟨some 72, .t (.bin .eql (.t 71) (.c (.int .i64 8))), none⟩,⟨some 73, .t (.mv (.t 72)), none⟩,⟨some 74, .t (.faddr 5 (.t 1)), (some (73, true))⟩,
  ⟨some 75, .m (.load false 1 (.t 74)), (some (73, true))⟩,
  ⟨some 76, .t (.len false (.t 75)), (some (73, true))⟩,
  ⟨some 77, .t (.bin .eql (.t 76) (.c (.int .i64 0))), (some (73, true))⟩,
  ⟨some 78, .t (.pick (.t 73) (.t 77) (.c (.bool false))), none⟩,⟨some 69, .t (.mv (.t 78)), none⟩]
def F143o15 : List AOper := [⟨some 79, .t (.faddr 0 (.t 1)), none⟩,⟨some 80, .m (.load false 1 (.t 79)), none⟩,⟨some 81, .t (.bin .eql (.t 80) (.c (.int .i64 10))), none⟩,⟨some 82, .t (.mv (.t 81)), none⟩,⟨some 83, .t (.faddr 6 (.t 1)), (some (82, true))⟩,
  ⟨some 84, .m (.load false 1 (.t 83)), (some (82, true))⟩,
  ⟨some 85, .t (.len false (.t 84)), (some (82, true))⟩,
  ⟨some 86, .t (.bin .eql (.t 85) (.c (.int .i64 0))), (some (82, true))⟩,
  ⟨some 87, .t (.pick (.t 82) (.t 86) (.c (.bool false))), none⟩,⟨some 69, .t (.mv (.t 87)), none⟩]
def F143o16 : List AOper := [⟨some 2, .t (.mv (.c (.int .i64 4))), none⟩]
def F143o17 : List AOper := [⟨some 89, .t (.faddr 0 (.t 1)), none⟩,⟨some 90, .m (.load false 1 (.t 89)), none⟩,⟨some 91, .t (.bin .eql (.t 90) (.c (.int .i64 8))), none⟩,⟨some 92, .t (.mv (.t 91)), none⟩,⟨some 93, .t (.faddr 5 (.t 1)), (some (92, true))⟩,
  ⟨some 94, .m (.load false 1 (.t 93)), (some (92, true))⟩,
  ⟨some 95, .t (.len false (.t 94)), (some (92, true))⟩,
  ⟨some 96, .t (.bin .gtr (.t 95) (.c (.int .i64 1))), (some (92, true))⟩,
  ⟨some 97, .t (.pick (.t 92) (.t 96) (.c (.bool false))), none⟩,⟨some 88, .t (.mv (.t 97)), none⟩]
def F143o18 : List AOper := [⟨some 2, .t (.mv (.c (.int .i64 3))), none⟩]
def F143o19 : List AOper := [⟨some 99, .t (.faddr 6 (.t 1)), none⟩,⟨some 100, .m (.load false 1 (.t 99)), none⟩,⟨some 101, .t (.len false (.t 100)), none⟩,⟨some 102, .t (.bin .gtr (.t 101) (.c (.int .i64 64))), none⟩,⟨some 98, .t (.mv (.t 102)), none⟩]
def F143o20 : List AOper := [⟨some 2, .t (.mv (.c (.int .i64 9))), none⟩]
def F143o21 : List AOper := [⟨some 103, .t (.faddr 6 (.t 1)), none⟩,⟨some 104, .m (.load false 1 (.t 103)), none⟩,⟨some 105, .t (.len false (.t 104)), none⟩,⟨some 106, .t (.mv (.c (.int .i64 0))), none⟩]
def F143o22 : List AOper := [⟨some 107, .t (.bin .lss (.t 106) (.t 105)), none⟩]
def F143o23 : List AOper := [⟨some 108, .t (.mv (.t 106)), none⟩,⟨some 6, .t (.mv (.t 108)), none⟩]
def F143o24 : List AOper := [⟨some 109, .m (.load true 7 (.t 1)), none⟩,⟨some 110, .t (.mv (.t 6)), none⟩,⟨some 111, .call (.c (.clo 191 [] [])) [(.t 109), (.t 110)], none⟩,⟨some 7, .t (.mv (.t 111)), none⟩]
def F143o25 : List AOper := [⟨some 112, .t (.mv (.t 7)), none⟩,⟨some 113, .t (.bin .neq (.t 112) (.c (.int .i64 0))), none⟩]
def F143o26 : List AOper := [⟨some 114, .t (.mv (.t 7)), none⟩,⟨some 2, .t (.mv (.t 114)), none⟩]
def F143o27 : List AOper := [⟨some 115, .t (.bin .add (.t 106) (.c (.int .i64 1))), none⟩,⟨some 106, .t (.mv (.t 115)), none⟩]
def F143b28 : ACode :=
(.seq (.ops F143o22 [1, 105, 106, 107])
((.seq (.cond (.t 107)
(.skip)
(.exit 2))
((.seq (.block 3 ((.seq (.ops F143o23 [1, 6, 105, 106])
((.seq (.ops F143o24 [1, 7, 105, 106])
((.seq (.ops F143o25 [1, 7, 105, 106, 113])
(.cond (.t 113)
((.seq (.ops F143o26 [2])
(.ret)))
(.skip)))))))))
(.ops F143o27 [1, 105, 106]))))))
def F143o29 : List AOper := [⟨some 2, .t (.mv (.c (.int .i64 0))), none⟩]
def F143c : ACode :=
(.seq (.ops F143o0 [1])
((.seq ((.seq (.ops F143o1 [1, 11])
(.cond (.t 11)
((.seq (.ops F143o2 [2])
(.ret)))
(.skip))))
((.seq (.draw F143A3 F143o3 F143p3 [1, 3])
((.seq ((.seq (.ops F143o4 [1, 3, 4])
((.seq (.ops F143o5 [1, 3, 4, 20])
(.cond (.t 20)
((.seq (.ops F143o6 [2])
(.ret)))
(.skip))))))
((.seq (.block 0 ((.seq (.ops F143o7 [1, 3, 22])
(.cond (.t 22)
((.seq (.ops F143o8 [1, 5])
((.seq (.ops F143o9 [1, 5, 35])
(.cond (.t 35)
((.seq (.ops F143o10 [2])
(.ret)))
(.skip))))))
((.seq ((.seq (.ops F143o11 [1, 3, 37])
(.cond (.t 37)
(.skip)
(.ops F143o12 [1, 37]))))
(.cond (.t 37)
((.seq (.ops F143o13 [2])
(.ret)))
(.skip))))))))
((.seq (.block 1 ((.seq ((.seq (.ops F143o14 [1, 69])
(.cond (.t 69)
(.skip)
(.ops F143o15 [1, 69]))))
(.cond (.t 69)
((.seq (.ops F143o16 [2])
(.ret)))
((.seq (.ops F143o17 [1, 88])
(.cond (.t 88)
((.seq (.ops F143o18 [2])
(.ret)))
((.seq (.ops F143o19 [1, 98])
(.cond (.t 98)
((.seq (.ops F143o20 [2])
(.ret)))
(.skip)))))))))))
((.seq ((.seq (.ops F143o21 [1, 105, 106])
(.block 2 (.loop [1, 105, 106] F143b28))))
((.seq (.ops F143o29 [2])
(.ret))))))))))))))))
def F143 : AFn := ⟨116, [.tmp 2], F143c⟩
theorem F143_ok : cFn Tryz.prog [] 143 = some F143 := by kernel_rfl
def F144o0 : List AOper := [⟨some 1, .m (.box 26 (.t 0)), none⟩,⟨some 2, .t (.mv (.c .nils)), none⟩]
def F144o1 : List AOper := [⟨some 6, .t (.faddr 0 (.t 1)), none⟩,⟨some 7, .m (.load false 1 (.t 6)), none⟩]
def F144o2 : List AOper := [⟨some 9, .t (.bin .eql (.t 7) (.c (.int .i64 8))), none⟩,⟨some 8, .t (.mv (.t 9)), none⟩]
def F144o3 : List AOper := [⟨some 10, .t (.faddr 5 (.t 1)), none⟩,⟨some 11, .m (.load false 1 (.t 10)), none⟩,⟨some 2, .t (.mv (.t 11)), none⟩]
def F144o4 : List AOper := [⟨some 13, .t (.bin .eql (.t 7) (.c (.int .i64 9))), none⟩,⟨some 12, .t (.mv (.t 13)), none⟩]
def F144o5 : List AOper := [⟨some 14, .t (.bin .eql (.t 7) (.c (.int .i64 10))), none⟩,⟨some 12, .t (.mv (.t 14)), none⟩]
def F144o6 : List AOper := [⟨some 15, .t (.faddr 6 (.t 1)), none⟩,⟨some 16, .m (.load false 1 (.t 15)), none⟩,⟨some 17, .t (.len false (.t 16)), none⟩,⟨some 18, .m (.mk false 26 7 104 [(.int .i64 0), (.int .i64 0), (.int .i64 0), (.int .i64 0), .nils, .nils, .nils] (.c (.int .i64 0)) (.t 17)), none⟩,⟨some 3, .t (.mv (.t 18)), none⟩]
def F144o7 : List AOper := [⟨some 19, .t (.faddr 6 (.t 1)), none⟩,⟨some 20, .m (.load false 1 (.t 19)), none⟩,⟨some 21, .t (.len false (.t 20)), none⟩,⟨some 22, .t (.mv (.c (.int .i64 0))), none⟩]
def F144o8 : List AOper := [⟨some 23, .t (.bin .lss (.t 22) (.t 21)), none⟩]
def F144o9 : List AOper := [⟨some 24, .t (.iaddr 11 (.t 20) (.t 22)), none⟩,⟨some 25, .m (.load true 11 (.t 24)), none⟩,⟨some 5, .m (.alloc 98 [(.int .i64 0), (.str []), (.int .i64 0), (.int .i64 0), (.int .i64 0), (.int .i64 0), (.int .i64 0), .nils, .nils, .nils, .nils]), none⟩,⟨none, .m (.store 11 (.t 5) (.t 25)), none⟩]
def F144o10 : List AOper := [⟨some 26, .t (.mv (.t 3)), none⟩,⟨some 27, .t (.faddr 3 (.t 5)), none⟩,⟨some 28, .m (.load true 7 (.t 27)), none⟩,⟨some 29, .m (.bslice false 26 7 1 [(.t 28)]), none⟩,⟨some 30, .m (.append false 26 7 104 (.t 26) (.t 29)), none⟩,⟨some 3, .t (.mv (.t 30)), none⟩]
def F144o11 : List AOper := [⟨some 31, .t (.bin .add (.t 22) (.c (.int .i64 1))), none⟩,⟨some 22, .t (.mv (.t 31)), none⟩]
def F144b12 : ACode :=
(.seq (.ops F144o8 [3, 20, 21, 22, 23])
((.seq (.cond (.t 23)
(.skip)
(.exit 1))
((.seq (.block 2 ((.seq (.ops F144o9 [3, 5, 20, 21, 22])
(.ops F144o10 [3, 20, 21, 22]))))
(.ops F144o11 [3, 20, 21, 22]))))))
def F144o13 : List AOper := [⟨some 32, .t (.mv (.t 3)), none⟩,⟨some 2, .t (.mv (.t 32)), none⟩]
def F144o14 : List AOper := [⟨some 2, .t (.mv (.c .nils)), none⟩]
def F144c : ACode :=
(.seq (.ops F144o0 [1])
((.seq ((.seq (.ops F144o1 [1, 7])
(.block 0 ((.seq (.ops F144o2 [1, 7, 8])
(.cond (.t 8)
((.seq (.ops F144o3 [2])
(.ret)))
((.seq ((.seq (.ops F144o4 [1, 7, 12])
(.cond (.t 12)
(.skip)
(.ops F144o5 [1, 12]))))
(.cond (.t 12)
((.seq (.ops F144o6 [1, 3])
((.seq ((.seq (.ops F144o7 [3, 20, 21, 22])
(.block 1 (.loop [3, 20, 21, 22] F144b12))))
((.seq (.ops F144o13 [2])
(.ret)))))))
(.skip))))))))))
((.seq (.ops F144o14 [2])
(.ret))))))
def F144 : AFn := ⟨33, [.tmp 2], F144c⟩
theorem F144_ok : cFn Tryz.prog [] 144 = some F144 := by kernel_rfl
def F146o0 : List AOper := [⟨some 1, .m (.box 26 (.t 0)), none⟩,⟨some 2, .t (.mv (.c (.int .i64 0))), none⟩]
def F146o1 : List AOper := [⟨some 3, .t (.mv (.c (.int .i64 1))), none⟩]
def F146o2 : List AOper := [⟨some 6, .t (.faddr 0 (.t 1)), none⟩,⟨some 7, .m (.load false 1 (.t 6)), none⟩]
def F146o3 : List AOper := [⟨some 9, .t (.bin .eql (.t 7) (.c (.int .i64 8))), none⟩,⟨some 8, .t (.mv (.t 9)), none⟩]
def F146o4 : List AOper := [⟨some 10, .t (.faddr 1 (.t 1)), none⟩,⟨some 11, .m (.load false 1 (.t 10)), none⟩,⟨some 12, .t (.bin .gtr (.t 11) (.c (.int .i64 0))), none⟩]
def F146o5 : List AOper := [⟨some 13, .t (.mv (.t 3)), none⟩,⟨some 14, .t (.faddr 1 (.t 1)), none⟩,⟨some 15, .m (.load false 1 (.t 14)), none⟩,⟨some 16, .t (.faddr 5 (.t 1)), none⟩,⟨some 17, .m (.load false 1 (.t 16)), none⟩,⟨some 18, .t (.iaddr 7 (.t 17) (.c (.int .i64 0))), none⟩,⟨some 19, .m (.load true 7 (.t 18)), none⟩,⟨some 20, .call (.c (.clo 146 [] [])) [(.t 19)], none⟩,⟨some 21, .t (.bin .mul (.t 15) (.t 20)), none⟩]
def F146p5 : List AOper := [⟨some 22, .t (.bin .add (.t 13) (.t 21)), none⟩,⟨some 3, .t (.mv (.t 22)), none⟩]
def F146A5 : List (List Nat) := [[], [], [1], [], [3], [4, 3], [5, 4, 3], [6, 5, 4, 3], [2, 7, 1, 6, 5, 4, 3], [0, 8, 2, 7, 1, 6, 5, 4, 3], [9, 0, 8, 2, 7, 1, 6, 5, 4, 3]]
def F146o6 : List AOper := [⟨some 24, .t (.bin .eql (.t 7) (.c (.int .i64 10))), none⟩,⟨some 23, .t (.mv (.t 24)), none⟩]
def F146o7 : List AOper := [⟨some 25, .t (.mv (.t 3)), none⟩,⟨some 26, .t (.faddr 6 (.t 1)), none⟩,⟨some 27, .m (.load false 1 (.t 26)), none⟩,⟨some 28, .t (.iaddr 11 (.t 27) (.c (.int .i64 0))), none⟩,⟨some 29, .t (.faddr 3 (.t 28)), none⟩,⟨some 30, .m (.load true 7 (.t 29)), none⟩,⟨some 31, .call (.c (.clo 146 [] [])) [(.t 30)], none⟩,⟨some 32, .t (.bin .add (.t 25) (.t 31)), none⟩,⟨some 3, .t (.mv (.t 32)), none⟩]
def F146o8 : List AOper := [⟨some 34, .t (.bin .eql (.t 7) (.c (.int .i64 9))), none⟩,⟨some 33, .t (.mv (.t 34)), none⟩]
def F146o9 : List AOper := [⟨some 35, .t (.faddr 6 (.t 1)), none⟩,⟨some 36, .m (.load false 1 (.t 35)), none⟩,⟨some 37, .t (.len false (.t 36)), none⟩,⟨some 38, .t (.mv (.c (.int .i64 0))), none⟩]
def F146o10 : List AOper := [⟨some 39, .t (.bin .lss (.t 38) (.t 37)), none⟩]
def F146o11 : List AOper := [⟨some 40, .t (.iaddr 11 (.t 36) (.t 38)), none⟩,⟨some 41, .m (.load true 11 (.t 40)), none⟩,⟨some 5, .m (.alloc 98 [(.int .i64 0), (.str []), (.int .i64 0), (.int .i64 0), (.int .i64 0), (.int .i64 0), (.int .i64 0), .nils, .nils, .nils, .nils]), none⟩,⟨none, .m (.store 11 (.t 5) (.t 41)), none⟩]
def F146o12 : List AOper := [⟨some 42, .t (.faddr 2 (.t 5)), none⟩,⟨some 43, .m (.load false 1 (.t 42)), none⟩]
def F146o13 : List AOper := [⟨some 45, .t (.bin .eql (.t 43) (.c (.int .i64 1))), none⟩,⟨some 44, .t (.mv (.t 45)), none⟩]
def F146o14 : List AOper := [⟨some 46, .t (.mv (.t 3)), none⟩,⟨some 47, .t (.faddr 3 (.t 5)), none⟩,⟨some 48, .m (.load true 7 (.t 47)), none⟩,⟨some 49, .call (.c (.clo 146 [] [])) [(.t 48)], none⟩,⟨some 50, .t (.bin .add (.t 46) (.t 49)), none⟩,⟨some 3, .t (.mv (.t 50)), none⟩]
def F146o15 : List AOper := [⟨some 52, .t (.bin .eql (.t 43) (.c (.int .i64 3))), none⟩,⟨some 51, .t (.mv (.t 52)), none⟩]
def F146o16 : List AOper := [⟨some 53, .t (.mv (.t 3)), none⟩,⟨some 54, .t (.faddr 10 (.t 5)), none⟩,⟨some 55, .m (.load false 1 (.t 54)), none⟩,⟨some 56, .t (.iaddr 6 (.t 55) (.c (.int .i64 0))), none⟩,⟨some 57, .m (.load true 6 (.t 56)), none⟩,⟨some 58, .call (.c (.clo 194 [] [])) [(.t 57)], none⟩,⟨some 59, .t (.bin .add (.t 53) (.t 58)), none⟩,⟨some 3, .t (.mv (.t 59)), none⟩]
def F146o17 : List AOper := [⟨some 60, .t (.bin .add (.t 38) (.c (.int .i64 1))), none⟩,⟨some 38, .t (.mv (.t 60)), none⟩]
def F146b18 : ACode :=
(.seq (.ops F146o10 [3, 36, 37, 38, 39])
((.seq (.cond (.t 39)
(.skip)
(.exit 1))
((.seq (.block 2 ((.seq (.ops F146o11 [3, 5, 36, 37, 38])
((.seq (.ops F146o12 [3, 5, 36, 37, 38, 43])
(.block 3 ((.seq (.ops F146o13 [3, 5, 36, 37, 38, 43, 44])
(.cond (.t 44)
(.ops F146o14 [3, 36, 37, 38])
((.seq (.ops F146o15 [3, 5, 36, 37, 38, 51])
(.cond (.t 51)
(.ops F146o16 [3, 36, 37, 38])
(.skip)))))))))))))
(.ops F146o17 [3, 36, 37, 38]))))))
def F146o19 : List AOper := [⟨some 61, .t (.mv (.t 3)), none⟩,⟨some 62, .t (.imin (.t 61) (.c (.int .i64 4097))), none⟩,⟨some 2, .t (.mv (.t 62)), none⟩]
def F146c : ACode :=
(.seq (.ops F146o0 [1])
((.seq (.ops F146o1 [1, 3])
((.seq ((.seq (.ops F146o2 [1, 3, 7])
(.block 0 ((.seq (.ops F146o3 [1, 3, 7, 8])
(.cond (.t 8)
((.seq (.ops F146o4 [1, 3, 12])
(.cond (.t 12)
(.draw F146A5 F146o5 F146p5 [3])
(.skip))))
((.seq (.ops F146o6 [1, 3, 7, 23])
(.cond (.t 23)
(.ops F146o7 [3])
((.seq (.ops F146o8 [1, 3, 33])
(.cond (.t 33)
((.seq (.ops F146o9 [3, 36, 37, 38])
(.block 1 (.loop [3, 36, 37, 38] F146b18))))
(.skip)))))))))))))
((.seq (.ops F146o19 [2])
(.ret))))))))
def F146 : AFn := ⟨63, [.tmp 2], F146c⟩
theorem F146_ok : cFn Tryz.prog [] 146 = some F146 := by kernel_rfl
def F147o0 : List AOper := [⟨some 4, .t (.mv (.c (.int .i64 0))), none⟩]
def F147o1 : List AOper := [⟨some 6, .t (.mv (.t 0)), none⟩,⟨some 7, .t (.len false (.t 6)), none⟩,⟨some 8, .t (.mv (.c (.int .i64 0))), none⟩]
def F147o2 : List AOper := [⟨some 9, .t (.bin .lss (.t 8) (.t 7)), none⟩]
def F147o3 : List AOper := [⟨some 10, .t (.mv (.t 8)), none⟩,⟨some 5, .t (.mv (.t 10)), none⟩]
def F147o4 : List AOper := [⟨some 11, .t (.mv (.t 1)), none⟩,⟨some 12, .t (.mv (.t 0)), none⟩,⟨some 13, .t (.mv (.t 5)), none⟩,⟨some 14, .t (.iaddr 11 (.t 12) (.t 13)), none⟩,⟨some 15, .m (.load true 11 (.t 14)), none⟩,⟨some 16, .call (.t 11) [(.t 15)], none⟩]
def F147o5 : List AOper := [⟨some 17, .t (.mv (.t 5)), none⟩,⟨some 4, .t (.mv (.t 17)), none⟩]
def F147o6 : List AOper := [⟨some 18, .t (.bin .add (.t 8) (.c (.int .i64 1))), none⟩,⟨some 8, .t (.mv (.t 18)), none⟩]
def F147b7 : ACode :=
(.seq (.ops F147o2 [0, 1, 7, 8, 9])
((.seq (.cond (.t 9)
(.skip)
(.exit 0))
((.seq (.block 1 ((.seq (.ops F147o3 [0, 1, 5, 7, 8])
((.seq (.ops F147o4 [0, 1, 5, 7, 8, 16])
(.cond (.t 16)
((.seq (.ops F147o5 [4])
(.ret)))
(.skip)))))))
(.ops F147o6 [0, 1, 7, 8]))))))
def F147o8 : List AOper := [⟨some 4, .t (.mv (.c (.int .i64 (-1)))), none⟩]
def F147c : ACode :=
(.seq (.ops F147o0 [0, 1])
((.seq ((.seq (.ops F147o1 [0, 1, 7, 8])
(.block 0 (.loop [0, 1, 7, 8] F147b7))))
((.seq (.ops F147o8 [4])
(.ret))))))
def F147 : AFn := ⟨19, [.tmp 4], F147c⟩
theorem F147_ok : cFn Tryz.prog [] 147 = some F147 := by kernel_rfl
def F151o0 : List AOper := [⟨some 4, .t (.mv (.c (.int .i64 0))), none⟩]
def F151o1 : List AOper := [⟨some 6, .t (.mv (.t 0)), none⟩,⟨some 7, .t (.len false (.t 6)), none⟩,⟨some 8, .t (.mv (.c (.int .i64 0))), none⟩]
def F151o2 : List AOper := [⟨some 9, .t (.bin .lss (.t 8) (.t 7)), none⟩]
def F151o3 : List AOper := [⟨some 10, .t (.mv (.t 8)), none⟩,⟨some 5, .t (.mv (.t 10)), none⟩]
def F151o4 : List AOper := [⟨some 11, .t (.mv (.t 1)), none⟩,⟨some 12, .t (.mv (.t 0)), none⟩,⟨some 13, .t (.mv (.t 5)), none⟩,⟨some 14, .t (.iaddr 7 (.t 12) (.t 13)), none⟩,⟨some 15, .m (.load true 7 (.t 14)), none⟩,⟨some 16, .call (.t 11) [(.t 15)], none⟩]
def F151o5 : List AOper := [⟨some 17, .t (.mv (.t 5)), none⟩,⟨some 4, .t (.mv (.t 17)), none⟩]
def F151o6 : List AOper := [⟨some 18, .t (.bin .add (.t 8) (.c (.int .i64 1))), none⟩,⟨some 8, .t (.mv (.t 18)), none⟩]
def F151b7 : ACode :=
(.seq (.ops F151o2 [0, 1, 7, 8, 9])
((.seq (.cond (.t 9)
(.skip)
(.exit 0))
((.seq (.block 1 ((.seq (.ops F151o3 [0, 1, 5, 7, 8])
((.seq (.ops F151o4 [0, 1, 5, 7, 8, 16])
(.cond (.t 16)
((.seq (.ops F151o5 [4])
(.ret)))
(.skip)))))))
(.ops F151o6 [0, 1, 7, 8]))))))
def F151o8 : List AOper := [⟨some 4, .t (.mv (.c (.int .i64 (-1)))), none⟩]
def F151c : ACode :=
(.seq (.ops F151o0 [0, 1])
((.seq ((.seq (.ops F151o1 [0, 1, 7, 8])
(.block 0 (.loop [0, 1, 7, 8] F151b7))))
((.seq (.ops F151o8 [4])
(.ret))))))
def F151 : AFn := ⟨19, [.tmp 4], F151c⟩
theorem F151_ok : cFn Tryz.prog [] 151 = some F151 := by kernel_rfl
def F152o0 : List AOper := [⟨some 2, .m (.box 83 (.t 0)), none⟩,⟨some 3, .t (.mv (.c (.bool false))), none⟩]
def F152o1 : List AOper := [⟨some 4, .t (.faddr 0 (.t 2)), none⟩,⟨some 5, .m (.load false 1 (.t 4)), none⟩,⟨some 6, .m (.load false 1 (.t 1)), none⟩,⟨some 7, .t (.bin .eql (.t 5) (.t 6)), none⟩,⟨some 3, .t (.mv (.t 7)), none⟩]
def F152c : ACode :=
(.seq (.ops F152o0 [1, 2])
((.seq (.ops F152o1 [3])
(.ret))))
def F152 : AFn := ⟨8, [.tmp 3], F152c⟩
theorem F152_ok : cFn Tryz.prog [] 152 = some F152 := by kernel_rfl
def F159o0 : List AOper := [⟨some 6, .t (.mv (.c .nilf)), none⟩]
def F159o1 : List AOper := [⟨some 7, .t (.mv (.t 0)), none⟩,⟨some 8, .t (.mv (.t 0)), none⟩,⟨some 9, .t (.mv (.t 1)), none⟩,⟨some 10, .t (.mv (.t 2)), none⟩,⟨some 11, .t (.nilck (.t 7)), none⟩,⟨some 12, .t (.faddr 5 (.t 11)), none⟩,⟨none, .m (.store 1 (.t 12) (.t 9)), none⟩,⟨some 13, .t (.nilck (.t 8)), none⟩,⟨some 14, .t (.faddr 6 (.t 13)), none⟩,⟨none, .m (.store 1 (.t 14) (.t 10)), none⟩]
def F159o2 : List AOper := [⟨some 6, .t (.mv (.c .nilf)), none⟩]
def F159c : ACode :=
(.seq (.ops F159o0 [0, 1, 2])
((.seq (.ops F159o1 [])
((.seq (.ops F159o2 [6])
(.ret))))))
def F159 : AFn := ⟨15, [.tmp 6], F159c⟩
theorem F159_ok : cFn Tryz.prog [] 159 = some F159 := by kernel_rfl
def F160o0 : List AOper := [⟨some 2, .t (.mv (.c .nilf)), none⟩]
def F160o1 : List AOper := [⟨some 3, .m (.alloc 89 [.nilp, .nils]), none⟩]
def F160o2 : List AOper := [⟨some 5, .t (.mv (.t 0)), none⟩,⟨some 6, .t (.nilck (.t 5)), none⟩,⟨some 7, .t (.faddr 0 (.t 6)), none⟩,⟨some 8, .m (.load false 1 (.t 7)), none⟩,⟨some 9, .t (.mv (.t 0)), none⟩,⟨some 10, .t (.nilck (.t 9)), none⟩,⟨some 11, .t (.faddr 2 (.t 10)), none⟩,⟨some 12, .m (.load false 1 (.t 11)), none⟩]
def F160p2 : List AOper := [⟨some 13, .t (.sliceS (.t 8) (some (.t 12)) none), none⟩,⟨some 14, .call (.c (.clo 73 [] [])) [(.t 13), (.c (.int .u8 34))], none⟩,⟨some 4, .t (.mv (.t 14)), none⟩]
def F160A2 : List (List Nat) := [[], [0], [1, 0], [2, 1, 0], [], [4], [5, 4], [6, 5, 4], [3, 7, 2, 1, 0, 6, 5, 4], [8, 3, 7, 2, 1, 0, 6, 5, 4], [9, 8, 3, 7, 2, 1, 0, 6, 5, 4]]
def F160o3 : List AOper := [⟨some 15, .t (.mv (.t 4)), none⟩,⟨some 16, .t (.bin .lss (.t 15) (.c (.int .i64 0))), none⟩]
def F160o4 : List AOper := [⟨some 17, .t (.mv (.t 0)), none⟩,⟨some 18, .t (.mv (.t 0)), none⟩,⟨some 19, .t (.nilck (.t 18)), none⟩,⟨some 20, .t (.faddr 0 (.t 19)), none⟩,⟨some 21, .m (.load false 1 (.t 20)), none⟩,⟨some 22, .t (.len true (.t 21)), none⟩,⟨some 23, .call (.c (.clo 159 [] [])) [(.t 17), (.t 22), (.c (.int .i64 29))], none⟩,⟨some 2, .t (.mv (.t 23)), none⟩]
def F160o5 : List AOper := [⟨some 24, .t (.mv (.t 0)), none⟩,⟨some 25, .t (.nilck (.t 24)), none⟩,⟨some 26, .t (.faddr 0 (.t 25)), none⟩,⟨some 27, .m (.load false 1 (.t 26)), none⟩,⟨some 28, .t (.mv (.t 0)), none⟩,⟨some 29, .t (.nilck (.t 28)), none⟩,⟨some 30, .t (.faddr 2 (.t 29)), none⟩,⟨some 31, .m (.load false 1 (.t 30)), none⟩,⟨some 32, .t (.mv (.t 0)), none⟩,⟨some 33, .t (.nilck (.t 32)), none⟩,⟨some 34, .t (.faddr 2 (.t 33)), none⟩,⟨some 35, .m (.load false 1 (.t 34)), none⟩,⟨some 36, .t (.mv (.t 4)), none⟩,⟨some 37, .t (.bin .add (.t 35) (.t 36)), none⟩]
def F160p5 : List AOper := [⟨some 38, .t (.sliceS (.t 27) (some (.t 31)) (some (.t 37))), none⟩,⟨some 39, .call (.c (.clo 66 [] [])) [(.t 3), (.t 38)], none⟩]
def F160A5 : List (List Nat) := [[], [0], [1, 0], [2, 1, 0], [], [4], [5, 4], [6, 5, 4], [], [8], [9, 8], [10, 9, 8], [], [11, 12, 10, 9, 8], [3, 7, 13, 2, 1, 0, 6, 5, 4, 11, 12, 10, 9, 8], [14, 3, 7, 13, 2, 1, 0, 6, 5, 4, 11, 12, 10, 9, 8]]
def F160o6 : List AOper := [⟨some 40, .t (.mv (.t 0)), none⟩,⟨some 41, .t (.nilck (.t 40)), none⟩,⟨some 42, .t (.faddr 2 (.t 41)), none⟩,⟨some 43, .m (.load false 1 (.t 42)), none⟩,⟨some 44, .t (.mv (.t 4)), none⟩,⟨some 45, .t (.bin .add (.t 44) (.c (.int .i64 1))), none⟩,⟨some 46, .t (.bin .add (.t 43) (.t 45)), none⟩,⟨some 47, .t (.nilck (.t 40)), none⟩,⟨some 48, .t (.faddr 2 (.t 47)), none⟩,⟨none, .m (.store 1 (.t 48) (.t 46)), none⟩]
def F160o7 : List AOper := [⟨some 49, .t (.mv (.t 0)), none⟩,⟨some 50, .t (.nilck (.t 49)), none⟩,⟨some 51, .t (.faddr 2 (.t 50)), none⟩,⟨some 52, .m (.load false 1 (.t 51)), none⟩,⟨some 53, .t (.mv (.t 0)), none⟩,⟨some 54, .t (.nilck (.t 53)), none⟩,⟨some 55, .t (.faddr 0 (.t 54)), none⟩,⟨some 56, .m (.load false 1 (.t 55)), none⟩,⟨some 57, .t (.len true (.t 56)), none⟩,⟨some 58, .t (.bin .geq (.t 52) (.t 57)), none⟩,⟨some 59, .t (.mv (.t 58)), none⟩,⟨some 60, .t (.mv (.t 0)), (some (59, false))⟩,
  ⟨some 61, .t (.nilck (.t 60)), (some (59, false))⟩,
  ⟨some 62, .t (.faddr 0 (.t 61)), (some (59, false))⟩,
  ⟨some 63, .m (.load false 1 (.t 62)), (some (59, false))⟩,
  ⟨some 64, .t (.mv (.t 0)), (some (59, false))⟩,
  ⟨some 65, .t (.nilck (.t 64)), (some (59, false))⟩,
  ⟨some 66, .t (.faddr 2 (.t 65)), (some (59, false))⟩,
  ⟨some 67, .m (.load false 1 (.t 66)), (some (59, false))⟩]
def F160p7 : List AOper := [⟨some 68, .t (.index (.t 63) (.t 67)), (some (59, false))⟩,
  ⟨some 69, .t (.bin .neq (.t 68) (.c (.int .u8 34))), (some (59, false))⟩,
  ⟨some 70, .t (.pick (.t 59) (.c (.bool true)) (.t 69)), none⟩]
def F160A7 : List (List Nat) := [[], [0], [1, 0], [2, 1, 0], [], [4], [5, 4], [6, 5, 4], [7, 6, 5, 4], [3, 8, 2, 1, 0, 7, 6, 5, 4], [9, 3, 8, 2, 1, 0, 7, 6, 5, 4], [10, 9, 3, 8, 2, 1, 0, 7, 6, 5, 4], [11, 10, 9, 3, 8, 2, 1, 0, 7, 6, 5, 4], [12, 11, 10, 9, 3, 8, 2, 1, 0, 7, 6, 5, 4], [13, 12, 11, 10, 9, 3, 8, 2, 1, 0, 7, 6, 5, 4], [10, 9, 3, 8, 2, 1, 0, 7, 6, 5, 4], [15, 10, 9, 3, 8, 2, 1, 0, 7, 6, 5, 4], [16, 15, 10, 9, 3, 8, 2, 1, 0, 7, 6, 5, 4], [17, 16, 15, 10, 9, 3, 8, 2, 1, 0, 7, 6, 5, 4], [14, 18, 13, 12, 11, 17, 16, 15, 10, 9, 3, 8, 2, 1, 0, 7, 6, 5, 4], [19, 14, 18, 13, 12, 11, 17, 16, 15, 10, 9, 3, 8, 2, 1, 0, 7, 6, 5, 4], [20, 19, 14, 18, 13, 12, 11, 17, 16, 15, 10, 9, 3, 8, 2, 1, 0, 7, 6, 5, 4]]
def F160o8 : List AOper := [⟨some 71, .call (.c (.clo 43 [] [])) [(.t 3), (.c (.int .u8 34))], none⟩]
def F160o9 : List AOper := [⟨some 72, .t (.mv (.t 0)), none⟩,⟨some 73, .t (.nilck (.t 72)), none⟩,⟨some 74, .t (.faddr 2 (.t 73)), none⟩,⟨some 75, .m (.load false 1 (.t 74)), none⟩,⟨some 76, .t (.bin .add (.t 75) (.c (.int .i64 1))), none⟩,⟨some 77, .t (.nilck (.t 72)), none⟩,⟨some 78, .t (.faddr 2 (.t 77)), none⟩,⟨none, .m (.store 1 (.t 78) (.t 76)), none⟩]
def F160b10 : ACode :=
  .block 1 ((.seq (.draw F160A2 F160o2 F160p2 [0, 3, 4])
((.seq ((.seq (.ops F160o3 [0, 3, 4, 16])
(.cond (.t 16)
((.seq (.ops F160o4 [2])
(.ret)))
(.skip))))
((.seq (.draw F160A5 F160o5 F160p5 [0, 3, 4])
((.seq (.ops F160o6 [0, 3])
((.seq ((.seq (.draw F160A7 F160o7 F160p7 [0, 3, 70])
(.cond (.t 70)
(.exit 0)
(.skip))))
((.seq (.ops F160o8 [0, 3])
(.ops F160o9 [0, 3])))))))))))))
def F160o11 : List AOper := [⟨some 79, .t (.mv (.t 0)), none⟩,⟨some 80, .t (.nilck (.t 79)), none⟩,⟨some 81, .t (.faddr 2 (.t 80)), none⟩,⟨some 82, .m (.load false 1 (.t 81)), none⟩,⟨some 83, .t (.mv (.t 0)), none⟩,⟨some 84, .t (.nilck (.t 83)), none⟩,⟨some 85, .t (.faddr 0 (.t 84)), none⟩,⟨some 86, .m (.load false 1 (.t 85)), none⟩,⟨some 87, .t (.len true (.t 86)), none⟩,⟨some 88, .t (.bin .lss (.t 82) (.t 87)), none⟩,⟨some 89, .t (.mv (.t 88)), none⟩,⟨some 90, .t (.mv (.t 0)), (some (89, true))⟩,
  ⟨some 91, .t (.nilck (.t 90)), (some (89, true))⟩,
  ⟨some 92, .t (.faddr 0 (.t 91)), (some (89, true))⟩,
  ⟨some 93, .m (.load false 1 (.t 92)), (some (89, true))⟩,
  ⟨some 94, .t (.mv (.t 0)), (some (89, true))⟩,
  ⟨some 95, .t (.nilck (.t 94)), (some (89, true))⟩,
  ⟨some 96, .t (.faddr 2 (.t 95)), (some (89, true))⟩,
  ⟨some 97, .m (.load false 1 (.t 96)), (some (89, true))⟩,
  ⟨some 98, .t (.index (.t 93) (.t 97)), (some (89, true))⟩,
  ⟨some 99, .t (.mv (.t 0)), (some (89, true))⟩,
  ⟨some 100, .t (.nilck (.t 99)), (some (89, true))⟩,
  ⟨some 101, .t (.faddr 1 (.t 100)), (some (89, true))⟩,
  ⟨some 102, .m (.load false 1 (.t 101)), (some (89, true))⟩]
def F160p11 : List AOper := [⟨some 103, .t (.bin .neq (.t 98) (.t 102)), (some (89, true))⟩,
  ⟨some 104, .t (.pick (.t 89) (.t 103) (.c (.bool false))), none⟩]
def F160A11 : List (List Nat) := [[], [0], [1, 0], [2, 1, 0], [], [4], [5, 4], [6, 5, 4], [7, 6, 5, 4], [3, 8, 2, 1, 0, 7, 6, 5, 4], [9, 3, 8, 2, 1, 0, 7, 6, 5, 4], [10, 9, 3, 8, 2, 1, 0, 7, 6, 5, 4], [11, 10, 9, 3, 8, 2, 1, 0, 7, 6, 5, 4], [12, 11, 10, 9, 3, 8, 2, 1, 0, 7, 6, 5, 4], [13, 12, 11, 10, 9, 3, 8, 2, 1, 0, 7, 6, 5, 4], [10, 9, 3, 8, 2, 1, 0, 7, 6, 5, 4], [15, 10, 9, 3, 8, 2, 1, 0, 7, 6, 5, 4], [16, 15, 10, 9, 3, 8, 2, 1, 0, 7, 6, 5, 4], [17, 16, 15, 10, 9, 3, 8, 2, 1, 0, 7, 6, 5, 4], [14, 18, 13, 12, 11, 17, 16, 15, 10, 9, 3, 8, 2, 1, 0, 7, 6, 5, 4], [10, 9, 3, 8, 2, 1, 0, 7, 6, 5, 4], [20, 10, 9, 3, 8, 2, 1, 0, 7, 6, 5, 4], [21, 20, 10, 9, 3, 8, 2, 1, 0, 7, 6, 5, 4], [22, 21, 20, 10, 9, 3, 8, 2, 1, 0, 7, 6, 5, 4], [19, 23, 14, 18, 13, 12, 11, 17, 16, 15, 22, 21, 20, 10, 9, 3, 8, 2, 1, 0, 7, 6, 5, 4], [24, 19, 23, 14, 18, 13, 12, 11, 17, 16, 15, 22, 21, 20, 10, 9, 3, 8, 2, 1, 0, 7, 6, 5, 4]]
def F160o12 : List AOper := [⟨some 105, .t (.mv (.t 0)), none⟩,⟨some 106, .t (.mv (.t 0)), none⟩,⟨some 107, .t (.nilck (.t 106)), none⟩,⟨some 108, .t (.faddr 2 (.t 107)), none⟩,⟨some 109, .m (.load false 1 (.t 108)), none⟩,⟨some 110, .call (.c (.clo 159 [] [])) [(.t 105), (.t 109), (.c (.int .i64 13))], none⟩,⟨some 2, .t (.mv (.t 110)), none⟩]
def F160o13 : List AOper := [⟨some 111, .t (.mv (.t 0)), none⟩,⟨some 112, .t (.mv (.t 0)), none⟩,⟨some 113, .t (.nilck (.t 112)), none⟩,⟨some 114, .t (.faddr 3 (.t 113)), none⟩,⟨some 115, .m (.load false 1 (.t 114)), none⟩,⟨some 116, .call (.c (.clo 44 [] [])) [(.t 3)], none⟩,⟨some 117, .t (.build [(.str []), (.bool false)] [(0, 1, (.t 116)), (1, 1, (.c (.bool true)))]), none⟩,⟨some 118, .m (.bslice false 66 2 1 [(.t 117)]), none⟩,⟨some 119, .m (.append false 66 2 24 (.t 115) (.t 118)), none⟩]
def F160p13 : List AOper := [⟨some 120, .t (.nilck (.t 111)), none⟩,⟨some 121, .t (.faddr 3 (.t 120)), none⟩,⟨none, .m (.store 1 (.t 121) (.t 119)), none⟩]
def F160A13 : List (List Nat) := [[], [], [1], [2, 1], [3, 2, 1], [], [5], [6, 5], [4, 7, 3, 2, 1, 6, 5], [0, 8, 4, 7, 3, 2, 1, 6, 5], [9, 0, 8, 4, 7, 3, 2, 1, 6, 5], [10, 9, 0, 8, 4, 7, 3, 2, 1, 6, 5]]
def F160o14 : List AOper := [⟨some 2, .t (.mv (.c (.clo 209 [] []))), none⟩]
def F160c : ACode :=
(.seq (.ops F160o0 [0])
((.seq (.ops F160o1 [0, 3])
((.seq (.block 0 (.loop [0, 3] F160b10))
((.seq ((.seq (.draw F160A11 F160o11 F160p11 [0, 3, 104])
(.cond (.t 104)
((.seq (.ops F160o12 [2])
(.ret)))
(.skip))))
((.seq (.draw F160A13 F160o13 F160p13 [])
((.seq (.ops F160o14 [2])
(.ret))))))))))))
def F160 : AFn := ⟨122, [.tmp 2], F160c⟩
theorem F160_ok : cFn Tryz.prog [] 160 = some F160 := by kernel_rfl
def F161o0 : List AOper := [⟨some 2, .t (.mv (.c .nilf)), none⟩]
def F161o1 : List AOper := [⟨some 5, .t (.mv (.t 0)), none⟩,⟨some 6, .t (.nilck (.t 5)), none⟩,⟨some 7, .t (.faddr 2 (.t 6)), none⟩,⟨some 8, .m (.load false 1 (.t 7)), none⟩,⟨some 3, .t (.mv (.t 8)), none⟩]
def F161o2 : List AOper := [⟨some 9, .t (.mv (.t 0)), none⟩,⟨some 10, .t (.nilck (.t 9)), none⟩,⟨some 11, .t (.faddr 2 (.t 10)), none⟩,⟨some 12, .m (.load false 1 (.t 11)), none⟩,⟨some 13, .t (.mv (.t 0)), none⟩,⟨some 14, .t (.nilck (.t 13)), none⟩,⟨some 15, .t (.faddr 0 (.t 14)), none⟩,⟨some 16, .m (.load false 1 (.t 15)), none⟩,⟨some 17, .t (.len true (.t 16)), none⟩,⟨some 18, .t (.bin .lss (.t 12) (.t 17)), none⟩,⟨some 19, .t (.mv (.t 18)), none⟩,⟨some 20, .t (.mv (.t 0)), (some (19, true))⟩,
  ⟨some 21, .t (.nilck (.t 20)), (some (19, true))⟩,
  ⟨some 22, .t (.faddr 0 (.t 21)), (some (19, true))⟩,
  ⟨some 23, .m (.load false 1 (.t 22)), (some (19, true))⟩,
  ⟨some 24, .t (.mv (.t 0)), (some (19, true))⟩,
  ⟨some 25, .t (.nilck (.t 24)), (some (19, true))⟩,
  ⟨some 26, .t (.faddr 2 (.t 25)), (some (19, true))⟩,
  ⟨some 27, .m (.load false 1 (.t 26)), (some (19, true))⟩,
  ⟨some 28, .t (.index (.t 23) (.t 27)), (some (19, true))⟩,
  ⟨some 29, .t (.mv (.t 0)), (some (19, true))⟩,
  ⟨some 30, .t (.nilck (.t 29)), (some (19, true))⟩,
  ⟨some 31, .t (.faddr 1 (.t 30)), (some (19, true))⟩,
  ⟨some 32, .m (.load false 1 (.t 31)), (some (19, true))⟩]
def F161p2 : List AOper := [⟨some 33, .t (.bin .neq (.t 28) (.t 32)), (some (19, true))⟩,
  ⟨some 34, .t (.pick (.t 19) (.t 33) (.c (.bool false))), none⟩]
def F161A2 : List (List Nat) := [[], [0], [1, 0], [2, 1, 0], [], [4], [5, 4], [6, 5, 4], [7, 6, 5, 4], [3, 8, 2, 1, 0, 7, 6, 5, 4], [9, 3, 8, 2, 1, 0, 7, 6, 5, 4], [10, 9, 3, 8, 2, 1, 0, 7, 6, 5, 4], [11, 10, 9, 3, 8, 2, 1, 0, 7, 6, 5, 4], [12, 11, 10, 9, 3, 8, 2, 1, 0, 7, 6, 5, 4], [13, 12, 11, 10, 9, 3, 8, 2, 1, 0, 7, 6, 5, 4], [10, 9, 3, 8, 2, 1, 0, 7, 6, 5, 4], [15, 10, 9, 3, 8, 2, 1, 0, 7, 6, 5, 4], [16, 15, 10, 9, 3, 8, 2, 1, 0, 7, 6, 5, 4], [17, 16, 15, 10, 9, 3, 8, 2, 1, 0, 7, 6, 5, 4], [14, 18, 13, 12, 11, 17, 16, 15, 10, 9, 3, 8, 2, 1, 0, 7, 6, 5, 4], [10, 9, 3, 8, 2, 1, 0, 7, 6, 5, 4], [20, 10, 9, 3, 8, 2, 1, 0, 7, 6, 5, 4], [21, 20, 10, 9, 3, 8, 2, 1, 0, 7, 6, 5, 4], [22, 21, 20, 10, 9, 3, 8, 2, 1, 0, 7, 6, 5, 4], [19, 23, 14, 18, 13, 12, 11, 17, 16, 15, 22, 21, 20, 10, 9, 3, 8, 2, 1, 0, 7, 6, 5, 4], [24, 19, 23, 14, 18, 13, 12, 11, 17, 16, 15, 22, 21, 20, 10, 9, 3, 8, 2, 1, 0, 7, 6, 5, 4]]
def F161o3 : List AOper := [⟨some 35, .t (.mv (.t 0)), none⟩,⟨some 36, .t (.nilck (.t 35)), none⟩,⟨some 37, .t (.faddr 0 (.t 36)), none⟩,⟨some 38, .m (.load false 1 (.t 37)), none⟩,⟨some 39, .t (.mv (.t 0)), none⟩,⟨some 40, .t (.nilck (.t 39)), none⟩,⟨some 41, .t (.faddr 2 (.t 40)), none⟩,⟨some 42, .m (.load false 1 (.t 41)), none⟩]
def F161p3 : List AOper := [⟨some 43, .t (.index (.t 38) (.t 42)), none⟩,⟨some 4, .t (.mv (.t 43)), none⟩]
def F161A3 : List (List Nat) := [[], [0], [1, 0], [2, 1, 0], [], [4], [5, 4], [6, 5, 4], [3, 7, 2, 1, 0, 6, 5, 4], [8, 3, 7, 2, 1, 0, 6, 5, 4]]
def F161o4 : List AOper := [⟨some 44, .t (.mv (.t 4)), none⟩,⟨some 45, .t (.bin .eql (.t 44) (.c (.int .u8 34))), none⟩,⟨some 46, .t (.mv (.t 45)), none⟩,⟨some 47, .t (.mv (.t 4)), (some (46, false))⟩,
  ⟨some 48, .t (.bin .eql (.t 47) (.c (.int .u8 13))), (some (46, false))⟩,
  ⟨some 49, .t (.pick (.t 46) (.c (.bool true)) (.t 48)), none⟩,⟨some 50, .t (.mv (.t 49)), none⟩,⟨some 51, .t (.mv (.t 4)), (some (50, false))⟩,
  ⟨some 52, .t (.bin .eql (.t 51) (.c (.int .u8 10))), (some (50, false))⟩,
  ⟨some 53, .t (.pick (.t 50) (.c (.bool true)) (.t 52)), none⟩]
def F161o5 : List AOper := [⟨some 54, .t (.mv (.t 0)), none⟩,⟨some 55, .t (.mv (.t 0)), none⟩,⟨some 56, .t (.nilck (.t 55)), none⟩,⟨some 57, .t (.faddr 2 (.t 56)), none⟩,⟨some 58, .m (.load false 1 (.t 57)), none⟩,⟨some 59, .call (.c (.clo 159 [] [])) [(.t 54), (.t 58), (.c (.int .i64 6))], none⟩,⟨some 2, .t (.mv (.t 59)), none⟩]
def F161o6 : List AOper := [⟨some 60, .t (.mv (.t 0)), none⟩,⟨some 61, .t (.nilck (.t 60)), none⟩,⟨some 62, .t (.faddr 2 (.t 61)), none⟩,⟨some 63, .m (.load false 1 (.t 62)), none⟩,⟨some 64, .t (.bin .add (.t 63) (.c (.int .i64 1))), none⟩,⟨some 65, .t (.nilck (.t 60)), none⟩,⟨some 66, .t (.faddr 2 (.t 65)), none⟩,⟨none, .m (.store 1 (.t 66) (.t 64)), none⟩]
def F161b7 : ACode :=
(.seq ((.seq (.draw F161A2 F161o2 F161p2 [0, 3, 34])
(.cond (.t 34)
(.skip)
(.exit 0))))
(.block 1 ((.seq ((.seq (.draw F161A3 F161o3 F161p3 [0, 3, 4])
((.seq (.ops F161o4 [0, 3, 53])
(.cond (.t 53)
((.seq (.ops F161o5 [2])
(.ret)))
(.skip))))))
(.ops F161o6 [0, 3])))))
def F161o8 : List AOper := [⟨some 67, .t (.mv (.t 0)), none⟩,⟨some 68, .t (.mv (.t 0)), none⟩,⟨some 69, .t (.nilck (.t 68)), none⟩,⟨some 70, .t (.faddr 3 (.t 69)), none⟩,⟨some 71, .m (.load false 1 (.t 70)), none⟩,⟨some 72, .t (.mv (.t 0)), none⟩,⟨some 73, .t (.nilck (.t 72)), none⟩,⟨some 74, .t (.faddr 0 (.t 73)), none⟩,⟨some 75, .m (.load false 1 (.t 74)), none⟩,⟨some 76, .t (.mv (.t 3)), none⟩,⟨some 77, .t (.mv (.t 0)), none⟩,⟨some 78, .t (.nilck (.t 77)), none⟩,⟨some 79, .t (.faddr 2 (.t 78)), none⟩,⟨some 80, .m (.load false 1 (.t 79)), none⟩,⟨some 81, .t (.sliceS (.t 75) (some (.t 76)) (some (.t 80))), none⟩,⟨some 82, .t (.build [(.str []), (.bool false)] [(0, 1, (.t 81))]), none⟩,⟨some 83, .m (.bslice false 66 2 1 [(.t 82)]), none⟩,⟨some 84, .m (.append false 66 2 24 (.t 71) (.t 83)), none⟩]
def F161p8 : List AOper := [⟨some 85, .t (.nilck (.t 67)), none⟩,⟨some 86, .t (.faddr 3 (.t 85)), none⟩,⟨none, .m (.store 1 (.t 86) (.t 84)), none⟩]
def F161A8 : List (List Nat) := [[], [], [1], [2, 1], [3, 2, 1], [], [5], [6, 5], [7, 6, 5], [], [], [10], [11, 10], [12, 11, 10], [8, 9, 13, 7, 6, 5, 12, 11, 10], [14, 8, 9, 13, 7, 6, 5, 12, 11, 10], [15, 14, 8, 9, 13, 7, 6, 5, 12, 11, 10], [4, 16, 3, 2, 1, 15, 14, 8, 9, 13, 7, 6, 5, 12, 11, 10], [0, 17, 4, 16, 3, 2, 1, 15, 14, 8, 9, 13, 7, 6, 5, 12, 11, 10], [18, 0, 17, 4, 16, 3, 2, 1, 15, 14, 8, 9, 13, 7, 6, 5, 12, 11, 10], [19, 18, 0, 17, 4, 16, 3, 2, 1, 15, 14, 8, 9, 13, 7, 6, 5, 12, 11, 10]]
def F161o9 : List AOper := [⟨some 2, .t (.mv (.c (.clo 209 [] []))), none⟩]
def F161c : ACode :=
(.seq (.ops F161o0 [0])
((.seq (.ops F161o1 [0, 3])
((.seq (.block 0 (.loop [0, 3] F161b7))
((.seq (.draw F161A8 F161o8 F161p8 [])
((.seq (.ops F161o9 [2])
(.ret))))))))))
def F161 : AFn := ⟨87, [.tmp 2], F161c⟩
theorem F161_ok : cFn Tryz.prog [] 161 = some F161 := by kernel_rfl
def F162o0 : List AOper := [⟨some 10, .t (.mv (.c (.bool true))), none⟩]
def F162o1 : List AOper := [⟨some 11, .t (.mv (.c (.bool true))), none⟩]
def F162o2 : List AOper := [⟨some 21, .t (.mv (.t 2)), none⟩,⟨some 22, .t (.mv (.t 1)), none⟩,⟨some 23, .t (.bin .sub (.t 21) (.t 22)), none⟩,⟨some 12, .t (.mv (.t 23)), none⟩]
def F162o3 : List AOper := [⟨some 24, .t (.mv (.t 12)), none⟩,⟨some 25, .t (.bin .leq (.t 24) (.c (.int .i64 12))), none⟩]
def F162o4 : List AOper := [⟨some 26, .t (.mv (.t 0)), none⟩,⟨some 27, .t (.mv (.t 1)), none⟩,⟨some 28, .t (.mv (.t 2)), none⟩,⟨some 29, .t (.mv (.t 4)), none⟩,⟨some 30, .call (.c (.clo 210 [] [])) [(.t 26), (.t 27), (.t 28), (.t 29)], none⟩]
def F162o5 : List AOper := [⟨some 31, .t (.mv (.t 3)), none⟩,⟨some 32, .t (.bin .eql (.t 31) (.c (.int .i64 0))), none⟩]
def F162o6 : List AOper := [⟨some 33, .t (.mv (.t 0)), none⟩,⟨some 34, .t (.mv (.t 1)), none⟩,⟨some 35, .t (.mv (.t 2)), none⟩,⟨some 36, .t (.mv (.t 4)), none⟩,⟨some 37, .call (.c (.clo 211 [] [])) [(.t 33), (.t 34), (.t 35), (.t 36)], none⟩]
def F162o7 : List AOper := [⟨some 38, .t (.mv (.t 10)), none⟩,⟨some 39, .t (.not (.t 38)), none⟩]
def F162o8 : List AOper := [⟨some 40, .t (.mv (.t 0)), none⟩,⟨some 41, .t (.mv (.t 1)), none⟩,⟨some 42, .t (.mv (.t 2)), none⟩,⟨some 43, .t (.mv (.t 4)), none⟩,⟨some 44, .call (.c (.clo 212 [] [])) [(.t 40), (.t 41), (.t 42), (.t 43)], none⟩]
def F162o9 : List AOper := [⟨some 45, .t (.mv (.t 3)), none⟩,⟨some 46, .t (.bin .sub (.t 45) (.c (.int .i64 1))), none⟩,⟨some 3, .t (.mv (.t 46)), none⟩]
def F162o10 : List AOper := [⟨some 48, .t (.mv (.t 0)), none⟩,⟨some 49, .t (.mv (.t 1)), none⟩,⟨some 50, .t (.mv (.t 2)), none⟩,⟨some 51, .t (.mv (.t 4)), none⟩,⟨some 52, .call (.c (.clo 213 [] [])) [(.t 48), (.t 49), (.t 50), (.t 51)], none⟩,⟨some 47, .t (.mv (.t 52)), none⟩,⟨some 53, .t (.ext (.t 47) 0), none⟩,⟨some 54, .t (.ext (.t 47) 1), none⟩,⟨some 13, .t (.mv (.t 53)), none⟩,⟨some 14, .t (.mv (.t 54)), none⟩]
def F162o11 : List AOper := [⟨some 55, .t (.mv (.t 14)), none⟩,⟨some 56, .t (.bin .eql (.t 55) (.c (.int .i64 2))), none⟩]
def F162o12 : List AOper := [⟨some 57, .t (.mv (.t 0)), none⟩,⟨some 58, .t (.mv (.t 1)), none⟩,⟨some 59, .t (.mv (.t 2)), none⟩,⟨some 60, .t (.mv (.t 4)), none⟩,⟨some 61, .call (.c (.clo 214 [] [])) [(.t 57), (.t 58), (.t 59), (.t 60)], none⟩]
def F162o13 : List AOper := [⟨some 62, .t (.mv (.t 2)), none⟩,⟨some 63, .t (.bin .sub (.t 62) (.c (.int .i64 1))), none⟩,⟨some 64, .t (.mv (.t 13)), none⟩,⟨some 65, .t (.mv (.t 1)), none⟩,⟨some 66, .t (.bin .sub (.t 64) (.t 65)), none⟩,⟨some 67, .t (.bin .sub (.t 63) (.t 66)), none⟩,⟨some 13, .t (.mv (.t 67)), none⟩]
def F162o14 : List AOper := [⟨some 14, .t (.mv (.c (.int .i64 1))), none⟩]
def F162o15 : List AOper := [⟨some 68, .t (.mv (.t 10)), none⟩,⟨some 69, .t (.mv (.t 68)), none⟩,⟨some 70, .t (.mv (.t 11)), (some (69, true))⟩,
  ⟨some 71, .t (.pick (.t 69) (.t 70) (.c (.bool false))), none⟩,⟨some 72, .t (.mv (.t 71)), none⟩,⟨some 73, .t (.mv (.t 14)), (some (72, true))⟩,
  ⟨some 74, .t (.bin .eql (.t 73) (.c (.int .i64 1))), (some (72, true))⟩,
  ⟨some 75, .t (.pick (.t 72) (.t 74) (.c (.bool false))), none⟩]
def F162o16 : List AOper := [⟨some 76, .t (.mv (.t 0)), none⟩,⟨some 77, .t (.mv (.t 1)), none⟩,⟨some 78, .t (.mv (.t 2)), none⟩,⟨some 79, .t (.mv (.t 4)), none⟩,⟨some 80, .call (.c (.clo 215 [] [])) [(.t 76), (.t 77), (.t 78), (.t 79)], none⟩]
def F162o17 : List AOper := [⟨some 81, .t (.mv (.t 1)), none⟩,⟨some 82, .t (.bin .gtr (.t 81) (.c (.int .i64 0))), none⟩,⟨some 83, .t (.mv (.t 82)), none⟩,⟨some 84, .t (.mv (.t 4)), (some (83, true))⟩,
  ⟨some 85, .t (.mv (.t 0)), (some (83, true))⟩,
  ⟨some 86, .t (.mv (.t 1)), (some (83, true))⟩,
  ⟨some 87, .t (.bin .sub (.t 86) (.c (.int .i64 1))), (some (83, true))⟩,
  ⟨some 88, .t (.iaddr 7 (.t 85) (.t 87)), (some (83, true))⟩,
  ⟨some 89, .m (.load true 7 (.t 88)), (some (83, true))⟩,
  ⟨some 90, .t (.mv (.t 0)), (some (83, true))⟩,
  ⟨some 91, .t (.mv (.t 13)), (some (83, true))⟩,
  ⟨some 92, .t (.iaddr 7 (.t 90) (.t 91)), (some (83, true))⟩,
  ⟨some 93, .m (.load true 7 (.t 92)), (some (83, true))⟩]
def F162p17 : List AOper := [⟨some 94, .call (.t 84) [(.t 89), (.t 93)], (some (83, true))⟩,
  ⟨some 95, .t (.bin .lss (.t 94) (.c (.int .i64 0))), (some (83, true))⟩,
  ⟨some 96, .t (.not (.t 95)), (some (83, true))⟩,
  ⟨some 97, .t (.pick (.t 83) (.t 96) (.c (.bool false))), none⟩]
def F162A17 : List (List Nat) := [[], [0], [1, 0], [2, 1, 0], [2, 1, 0], [2, 1, 0], [5, 2, 1, 0], [4, 6, 5, 2, 1, 0], [7, 4, 6, 5, 2, 1, 0], [2, 1, 0], [2, 1, 0], [9, 10, 2, 1, 0], [11, 9, 10, 2, 1, 0], [3, 8, 12, 7, 4, 6, 5, 11, 9, 10, 2, 1, 0], [13, 3, 8, 12, 7, 4, 6, 5, 11, 9, 10, 2, 1, 0], [14, 13, 3, 8, 12, 7, 4, 6, 5, 11, 9, 10, 2, 1, 0], [15, 14, 13, 3, 8, 12, 7, 4, 6, 5, 11, 9, 10, 2, 1, 0]]
def F162o18 : List AOper := [⟨some 98, .t (.mv (.t 0)), none⟩,⟨some 99, .t (.mv (.t 1)), none⟩,⟨some 100, .t (.mv (.t 2)), none⟩,⟨some 101, .t (.mv (.t 13)), none⟩,⟨some 102, .t (.mv (.t 4)), none⟩,⟨some 103, .call (.c (.clo 216 [] [])) [(.t 98), (.t 99), (.t 100), (.t 101), (.t 102)], none⟩,⟨some 15, .t (.mv (.t 103)), none⟩]
def F162o19 : List AOper := [⟨some 104, .t (.mv (.t 15)), none⟩,⟨some 1, .t (.mv (.t 104)), none⟩]
def F162o20 : List AOper := [⟨some 106, .t (.mv (.t 0)), none⟩,⟨some 107, .t (.mv (.t 1)), none⟩,⟨some 108, .t (.mv (.t 2)), none⟩,⟨some 109, .t (.mv (.t 13)), none⟩,⟨some 110, .t (.mv (.t 4)), none⟩,⟨some 111, .call (.c (.clo 217 [] [])) [(.t 106), (.t 107), (.t 108), (.t 109), (.t 110)], none⟩,⟨some 105, .t (.mv (.t 111)), none⟩,⟨some 112, .t (.ext (.t 105) 0), none⟩,⟨some 113, .t (.ext (.t 105) 1), none⟩,⟨some 16, .t (.mv (.t 112)), none⟩,⟨some 17, .t (.mv (.t 113)), none⟩]
def F162o21 : List AOper := [⟨some 114, .t (.mv (.t 17)), none⟩,⟨some 11, .t (.mv (.t 114)), none⟩]
def F162o22 : List AOper := [⟨some 115, .t (.mv (.t 16)), none⟩,⟨some 116, .t (.mv (.t 1)), none⟩,⟨some 117, .t (.bin .sub (.t 115) (.t 116)), none⟩,⟨some 118, .t (.mv (.t 2)), none⟩,⟨some 119, .t (.mv (.t 16)), none⟩,⟨some 120, .t (.bin .sub (.t 118) (.t 119)), none⟩,⟨some 18, .t (.mv (.t 117)), none⟩,⟨some 19, .t (.mv (.t 120)), none⟩]
def F162o23 : List AOper := [⟨some 121, .t (.mv (.t 12)), none⟩,⟨some 122, .t (.bin .quo (.t 121) (.c (.int .i64 8))), none⟩,⟨some 20, .t (.mv (.t 122)), none⟩]
def F162o24 : List AOper := [⟨some 123, .t (.mv (.t 18)), none⟩,⟨some 124, .t (.mv (.t 19)), none⟩,⟨some 125, .t (.bin .lss (.t 123) (.t 124)), none⟩]
def F162o25 : List AOper := [⟨some 126, .t (.mv (.t 18)), none⟩,⟨some 127, .t (.mv (.t 20)), none⟩,⟨some 128, .t (.bin .geq (.t 126) (.t 127)), none⟩,⟨some 10, .t (.mv (.t 128)), none⟩]
def F162o26 : List AOper := [⟨some 129, .t (.mv (.t 0)), none⟩,⟨some 130, .t (.mv (.t 1)), none⟩,⟨some 131, .t (.mv (.t 16)), none⟩,⟨some 132, .t (.mv (.t 3)), none⟩,⟨some 133, .t (.mv (.t 4)), none⟩,⟨some 134, .call (.c (.clo 162 [] [])) [(.t 129), (.t 130), (.t 131), (.t 132), (.t 133)], none⟩]
def F162o27 : List AOper := [⟨some 135, .t (.mv (.t 16)), none⟩,⟨some 136, .t (.bin .add (.t 135) (.c (.int .i64 1))), none⟩,⟨some 1, .t (.mv (.t 136)), none⟩]
def F162o28 : List AOper := [⟨some 137, .t (.mv (.t 19)), none⟩,⟨some 138, .t (.mv (.t 20)), none⟩,⟨some 139, .t (.bin .geq (.t 137) (.t 138)), none⟩,⟨some 10, .t (.mv (.t 139)), none⟩]
def F162o29 : List AOper := [⟨some 140, .t (.mv (.t 0)), none⟩,⟨some 141, .t (.mv (.t 16)), none⟩,⟨some 142, .t (.bin .add (.t 141) (.c (.int .i64 1))), none⟩,⟨some 143, .t (.mv (.t 2)), none⟩,⟨some 144, .t (.mv (.t 3)), none⟩,⟨some 145, .t (.mv (.t 4)), none⟩,⟨some 146, .call (.c (.clo 162 [] [])) [(.t 140), (.t 142), (.t 143), (.t 144), (.t 145)], none⟩]
def F162o30 : List AOper := [⟨some 147, .t (.mv (.t 16)), none⟩,⟨some 2, .t (.mv (.t 147)), none⟩]
def F162b31 : ACode :=
  .block 1 ((.seq (.ops F162o2 [0, 1, 2, 3, 4, 10, 11, 12])
((.seq ((.seq (.ops F162o3 [0, 1, 2, 3, 4, 10, 11, 12, 25])
(.cond (.t 25)
((.seq (.ops F162o4 [])
(.ret)))
(.skip))))
((.seq ((.seq (.ops F162o5 [0, 1, 2, 3, 4, 10, 11, 12, 32])
(.cond (.t 32)
((.seq (.ops F162o6 [])
(.ret)))
(.skip))))
((.seq ((.seq (.ops F162o7 [0, 1, 2, 3, 4, 10, 11, 12, 39])
(.cond (.t 39)
((.seq (.ops F162o8 [0, 1, 2, 3, 4, 10, 11, 12])
(.ops F162o9 [0, 1, 2, 3, 4, 10, 11, 12])))
(.skip))))
((.seq (.ops F162o10 [0, 1, 2, 3, 4, 10, 11, 12, 13, 14])
((.seq ((.seq (.ops F162o11 [0, 1, 2, 3, 4, 10, 11, 12, 13, 14, 56])
(.cond (.t 56)
((.seq (.ops F162o12 [0, 1, 2, 3, 4, 10, 11, 12, 13])
((.seq (.ops F162o13 [0, 1, 2, 3, 4, 10, 11, 12, 13])
(.ops F162o14 [0, 1, 2, 3, 4, 10, 11, 12, 13, 14])))))
(.skip))))
((.seq ((.seq (.ops F162o15 [0, 1, 2, 3, 4, 10, 11, 12, 13, 75])
(.cond (.t 75)
((.seq (.ops F162o16 [0, 1, 2, 3, 4, 10, 11, 12, 13, 80])
(.cond (.t 80)
(.ret)
(.skip))))
(.skip))))
((.seq ((.seq (.draw F162A17 F162o17 F162p17 [0, 1, 2, 3, 4, 10, 11, 12, 13, 97])
(.cond (.t 97)
((.seq (.ops F162o18 [0, 2, 3, 4, 10, 11, 15])
((.seq (.ops F162o19 [0, 1, 2, 3, 4, 10, 11])
(.exit 1)))))
(.skip))))
((.seq (.ops F162o20 [0, 1, 2, 3, 4, 12, 16, 17])
((.seq (.ops F162o21 [0, 1, 2, 3, 4, 11, 12, 16])
((.seq (.ops F162o22 [0, 1, 2, 3, 4, 11, 12, 16, 18, 19])
((.seq (.ops F162o23 [0, 1, 2, 3, 4, 11, 16, 18, 19, 20])
((.seq (.ops F162o24 [0, 1, 2, 3, 4, 11, 16, 18, 19, 20, 125])
(.cond (.t 125)
((.seq (.ops F162o25 [0, 1, 2, 3, 4, 10, 11, 16])
((.seq (.ops F162o26 [0, 2, 3, 4, 10, 11, 16])
(.ops F162o27 [0, 1, 2, 3, 4, 10, 11])))))
((.seq (.ops F162o28 [0, 1, 2, 3, 4, 10, 11, 16])
((.seq (.ops F162o29 [0, 1, 3, 4, 10, 11, 16])
(.ops F162o30 [0, 1, 2, 3, 4, 10, 11]))))))))))))))))))))))))))))))))
def F162c : ACode :=
(.seq (.ops F162o0 [0, 1, 2, 3, 4, 10])
((.seq (.ops F162o1 [0, 1, 2, 3, 4, 10, 11])
(.block 0 (.loop [0, 1, 2, 3, 4, 10, 11] F162b31)))))
def F162 : AFn := ⟨148, [], F162c⟩
theorem F162_ok : cFn Tryz.prog [] 162 = some F162 := by kernel_rfl
def F163o0 : List AOper := [⟨some 2, .t (.mv (.c (.int .i64 0))), none⟩]
def F163o1 : List AOper := [⟨some 3, .t (.mv (.t 0)), none⟩,⟨some 4, .t (.conv .u32 (.t 3)), none⟩,⟨some 5, .call (.c (.clo 218 [] [])) [(.t 4)], none⟩,⟨some 2, .t (.mv (.t 5)), none⟩]
def F163o2 : List AOper := [⟨some 6, .t (.mv (.t 0)), none⟩,⟨some 7, .call (.c (.clo 219 [] [])) [(.t 6)], none⟩,⟨some 2, .t (.mv (.t 7)), none⟩]
def F163c : ACode :=
(.seq (.ops F163o0 [0])
((.seq (.cond (.c (.bool false))
((.seq (.ops F163o1 [2])
(.ret)))
(.skip))
((.seq (.ops F163o2 [2])
(.ret))))))
def F163 : AFn := ⟨8, [.tmp 2], F163c⟩
theorem F163_ok : cFn Tryz.prog [] 163 = some F163 := by kernel_rfl
def F169o0 : List AOper := [⟨some 4, .t (.mv (.c (.int .i64 0))), none⟩]
def F169o1 : List AOper := [⟨some 14, .t (.mv (.t 1)), none⟩,⟨some 15, .t (.len true (.t 14)), none⟩,⟨some 5, .t (.mv (.t 15)), none⟩]
def F169o2 : List AOper := [⟨some 17, .t (.mv (.t 5)), none⟩,⟨some 18, .t (.bin .eql (.t 17) (.c (.int .i64 0))), none⟩,⟨some 19, .t (.mv (.t 18)), none⟩,⟨some 20, .t (.mv (.t 1)), (some (19, false))⟩,
  ⟨some 21, .t (.mv (.t 0)), (some (19, false))⟩,
  ⟨some 22, .t (.bin .eql (.t 20) (.t 21)), (some (19, false))⟩,
  ⟨some 23, .t (.pick (.t 19) (.c (.bool true)) (.t 22)), none⟩,⟨some 16, .t (.mv (.t 23)), none⟩]
def F169o3 : List AOper := [⟨some 4, .t (.mv (.c (.int .i64 0))), none⟩]
def F169o4 : List AOper := [⟨some 25, .t (.mv (.t 5)), none⟩,⟨some 26, .t (.bin .eql (.t 25) (.c (.int .i64 1))), none⟩,⟨some 24, .t (.mv (.t 26)), none⟩]
def F169o5 : List AOper := [⟨some 27, .t (.mv (.t 0)), none⟩,⟨some 28, .t (.mv (.t 1)), none⟩,⟨some 29, .t (.index (.t 28) (.c (.int .i64 0))), none⟩,⟨some 30, .call (.c (.clo 123 [] [])) [(.t 27), (.t 29)], none⟩,⟨some 4, .t (.mv (.t 30)), none⟩]
def F169o6 : List AOper := [⟨some 32, .t (.mv (.t 5)), none⟩,⟨some 33, .t (.mv (.t 0)), none⟩,⟨some 34, .t (.len true (.t 33)), none⟩,⟨some 35, .t (.bin .geq (.t 32) (.t 34)), none⟩,⟨some 31, .t (.mv (.t 35)), none⟩]
def F169o7 : List AOper := [⟨some 4, .t (.mv (.c (.int .i64 (-1)))), none⟩]
def F169o8 : List AOper := [⟨some 37, .t (.mv (.t 5)), none⟩,⟨some 38, .m (.load false 1 (.c (.gptr 0 0))), none⟩,⟨some 39, .t (.bin .leq (.t 37) (.t 38)), none⟩,⟨some 40, .t (.mv (.t 39)), none⟩,⟨some 41, .t (.mv (.t 0)), (some (40, true))⟩,
  ⟨some 42, .t (.len true (.t 41)), (some (40, true))⟩,
  ⟨some 43, .t (.bin .leq (.t 42) (.c (.int .i64 64))), (some (40, true))⟩,
  ⟨some 44, .t (.pick (.t 40) (.t 43) (.c (.bool false))), none⟩,⟨some 36, .t (.mv (.t 44)), none⟩]
def F169o9 : List AOper := [⟨some 45, .t (.mv (.t 0)), none⟩,⟨some 46, .t (.mv (.t 1)), none⟩,⟨some 47, .call (.c (.clo 226 [] [])) [(.t 45), (.t 46)], none⟩,⟨some 4, .t (.mv (.t 47)), none⟩]
def F169o10 : List AOper := [⟨some 48, .t (.mv (.t 1)), none⟩,⟨some 49, .t (.index (.t 48) (.c (.int .i64 0))), none⟩,⟨some 6, .t (.mv (.t 49)), none⟩]
def F169o11 : List AOper := [⟨some 50, .t (.mv (.t 1)), none⟩,⟨some 51, .t (.index (.t 50) (.c (.int .i64 1))), none⟩,⟨some 7, .t (.mv (.t 51)), none⟩]
def F169o12 : List AOper := [⟨some 8, .t (.mv (.c (.int .i64 0))), none⟩]
def F169o13 : List AOper := [⟨some 52, .t (.mv (.t 0)), none⟩,⟨some 53, .t (.len true (.t 52)), none⟩,⟨some 54, .t (.mv (.t 5)), none⟩,⟨some 55, .t (.bin .sub (.t 53) (.t 54)), none⟩,⟨some 56, .t (.bin .add (.t 55) (.c (.int .i64 1))), none⟩,⟨some 9, .t (.mv (.t 56)), none⟩]
def F169o14 : List AOper := [⟨some 10, .t (.mv (.c (.int .i64 0))), none⟩]
def F169o15 : List AOper := [⟨some 57, .t (.mv (.t 8)), none⟩,⟨some 58, .t (.mv (.t 9)), none⟩,⟨some 59, .t (.bin .lss (.t 57) (.t 58)), none⟩]
def F169o16 : List AOper := [⟨some 60, .t (.mv (.t 0)), none⟩,⟨some 61, .t (.mv (.t 8)), none⟩,⟨some 62, .t (.index (.t 60) (.t 61)), none⟩,⟨some 63, .t (.mv (.t 6)), none⟩,⟨some 64, .t (.bin .neq (.t 62) (.t 63)), none⟩]
def F169o17 : List AOper := [⟨some 65, .t (.mv (.t 0)), none⟩,⟨some 66, .t (.mv (.t 8)), none⟩,⟨some 67, .t (.bin .add (.t 66) (.c (.int .i64 1))), none⟩,⟨some 68, .t (.mv (.t 9)), none⟩,⟨some 69, .t (.sliceS (.t 65) (some (.t 67)) (some (.t 68))), none⟩,⟨some 70, .t (.mv (.t 6)), none⟩,⟨some 71, .call (.c (.clo 123 [] [])) [(.t 69), (.t 70)], none⟩,⟨some 11, .t (.mv (.t 71)), none⟩]
def F169o18 : List AOper := [⟨some 72, .t (.mv (.t 11)), none⟩,⟨some 73, .t (.bin .lss (.t 72) (.c (.int .i64 0))), none⟩]
def F169o19 : List AOper := [⟨some 4, .t (.mv (.c (.int .i64 (-1)))), none⟩]
def F169o20 : List AOper := [⟨some 74, .t (.mv (.t 8)), none⟩,⟨some 75, .t (.mv (.t 11)), none⟩,⟨some 76, .t (.bin .add (.t 75) (.c (.int .i64 1))), none⟩,⟨some 77, .t (.bin .add (.t 74) (.t 76)), none⟩,⟨some 8, .t (.mv (.t 77)), none⟩]
def F169o21 : List AOper := [⟨some 78, .t (.mv (.t 0)), none⟩,⟨some 79, .t (.mv (.t 8)), none⟩,⟨some 80, .t (.bin .add (.t 79) (.c (.int .i64 1))), none⟩,⟨some 81, .t (.index (.t 78) (.t 80)), none⟩,⟨some 82, .t (.mv (.t 7)), none⟩,⟨some 83, .t (.bin .eql (.t 81) (.t 82)), none⟩,⟨some 84, .t (.mv (.t 83)), none⟩,⟨some 85, .t (.mv (.t 0)), (some (84, true))⟩,
  ⟨some 86, .t (.mv (.t 8)), (some (84, true))⟩,
  ⟨some 87, .t (.mv (.t 8)), (some (84, true))⟩,
  ⟨some 88, .t (.mv (.t 5)), (some (84, true))⟩,
  ⟨some 89, .t (.bin .add (.t 87) (.t 88)), (some (84, true))⟩,
  ⟨some 90, .t (.sliceS (.t 85) (some (.t 86)) (some (.t 89))), (some (84, true))⟩,
  ⟨some 91, .t (.mv (.t 1)), (some (84, true))⟩,
  ⟨some 92, .t (.bin .eql (.t 90) (.t 91)), (some (84, true))⟩,
  ⟨some 93, .t (.pick (.t 84) (.t 92) (.c (.bool false))), none⟩]
def F169o22 : List AOper := [⟨some 94, .t (.mv (.t 8)), none⟩,⟨some 4, .t (.mv (.t 94)), none⟩]
def F169o23 : List AOper := [⟨some 95, .t (.mv (.t 8)), none⟩,⟨some 96, .t (.bin .add (.t 95) (.c (.int .i64 1))), none⟩,⟨some 8, .t (.mv (.t 96)), none⟩]
def F169o24 : List AOper := [⟨some 97, .t (.mv (.t 10)), none⟩,⟨some 98, .t (.bin .add (.t 97) (.c (.int .i64 1))), none⟩,⟨some 10, .t (.mv (.t 98)), none⟩]
def F169o25 : List AOper := [⟨some 99, .t (.mv (.t 5)), none⟩,⟨some 100, .m (.load false 1 (.c (.gptr 0 0))), none⟩,⟨some 101, .t (.bin .leq (.t 99) (.t 100)), none⟩,⟨some 102, .t (.mv (.t 101)), none⟩,⟨some 103, .t (.mv (.t 10)), (some (102, true))⟩,
  ⟨some 104, .t (.mv (.t 8)), (some (102, true))⟩,
  ⟨some 105, .call (.c (.clo 227 [] [])) [(.t 104)], (some (102, true))⟩,
  ⟨some 106, .t (.bin .gtr (.t 103) (.t 105)), (some (102, true))⟩,
  ⟨some 107, .t (.pick (.t 102) (.t 106) (.c (.bool false))), none⟩]
def F169o26 : List AOper := [⟨some 108, .t (.mv (.t 0)), none⟩,⟨some 109, .t (.mv (.t 8)), none⟩,⟨some 110, .t (.sliceS (.t 108) (some (.t 109)) none), none⟩,⟨some 111, .t (.mv (.t 1)), none⟩,⟨some 112, .call (.c (.clo 226 [] [])) [(.t 110), (.t 111)], none⟩,⟨some 12, .t (.mv (.t 112)), none⟩]
def F169o27 : List AOper := [⟨some 113, .t (.mv (.t 12)), none⟩,⟨some 114, .t (.bin .geq (.t 113) (.c (.int .i64 0))), none⟩]
def F169o28 : List AOper := [⟨some 115, .t (.mv (.t 12)), none⟩,⟨some 116, .t (.mv (.t 8)), none⟩,⟨some 117, .t (.bin .add (.t 115) (.t 116)), none⟩,⟨some 4, .t (.mv (.t 117)), none⟩]
def F169o29 : List AOper := [⟨some 4, .t (.mv (.c (.int .i64 (-1)))), none⟩]
def F169o30 : List AOper := [⟨some 118, .t (.mv (.t 5)), none⟩,⟨some 119, .m (.load false 1 (.c (.gptr 0 0))), none⟩,⟨some 120, .t (.bin .gtr (.t 118) (.t 119)), none⟩,⟨some 121, .t (.mv (.t 120)), none⟩,⟨some 122, .t (.mv (.t 10)), (some (121, true))⟩,
  ⟨some 123, .t (.mv (.t 8)), (some (121, true))⟩,
  ⟨some 124, .t (.bin .shr (.t 123) (.c (.int .u64 4))), (some (121, true))⟩,
  ⟨some 125, .t (.bin .add (.c (.int .i64 4)) (.t 124)), (some (121, true))⟩,
  ⟨some 126, .t (.bin .geq (.t 122) (.t 125)), (some (121, true))⟩,
  ⟨some 127, .t (.pick (.t 121) (.t 126) (.c (.bool false))), none⟩,⟨some 128, .t (.mv (.t 127)), none⟩,⟨some 129, .t (.mv (.t 8)), (some (128, true))⟩,
  ⟨some 130, .t (.mv (.t 9)), (some (128, true))⟩,
  ⟨some 131, .t (.bin .lss (.t 129) (.t 130)), (some (128, true))⟩,
  ⟨some 132, .t (.pick (.t 128) (.t 131) (.c (.bool false))), none⟩]
def F169o31 : List AOper := [⟨some 133, .t (.mv (.t 0)), none⟩,⟨some 134, .t (.mv (.t 8)), none⟩,⟨some 135, .t (.sliceS (.t 133) (some (.t 134)) none), none⟩,⟨some 136, .t (.mv (.t 1)), none⟩,⟨some 137, .call (.c (.clo 228 [] [])) [(.t 135), (.t 136)], none⟩,⟨some 13, .t (.mv (.t 137)), none⟩]
def F169o32 : List AOper := [⟨some 138, .t (.mv (.t 13)), none⟩,⟨some 139, .t (.bin .lss (.t 138) (.c (.int .i64 0))), none⟩]
def F169o33 : List AOper := [⟨some 4, .t (.mv (.c (.int .i64 (-1)))), none⟩]
def F169o34 : List AOper := [⟨some 140, .t (.mv (.t 8)), none⟩,⟨some 141, .t (.mv (.t 13)), none⟩,⟨some 142, .t (.bin .add (.t 140) (.t 141)), none⟩,⟨some 4, .t (.mv (.t 142)), none⟩]
def F169b35 : ACode :=
(.seq ((.seq (.ops F169o15 [0, 1, 5, 6, 7, 8, 9, 10, 59])
(.cond (.t 59)
(.skip)
(.exit 1))))
(.block 2 ((.seq ((.seq (.ops F169o16 [0, 1, 5, 6, 7, 8, 9, 10, 64])
(.cond (.t 64)
((.seq (.ops F169o17 [0, 1, 5, 6, 7, 8, 9, 10, 11])
((.seq ((.seq (.ops F169o18 [0, 1, 5, 6, 7, 8, 9, 10, 11, 73])
(.cond (.t 73)
((.seq (.ops F169o19 [4])
(.ret)))
(.skip))))
(.ops F169o20 [0, 1, 5, 6, 7, 8, 9, 10])))))
(.skip))))
((.seq ((.seq (.ops F169o21 [0, 1, 5, 6, 7, 8, 9, 10, 93])
(.cond (.t 93)
((.seq (.ops F169o22 [4])
(.ret)))
(.skip))))
((.seq (.ops F169o23 [0, 1, 5, 6, 7, 8, 9, 10])
((.seq (.ops F169o24 [0, 1, 5, 6, 7, 8, 9, 10])
((.seq (.ops F169o25 [0, 1, 5, 6, 7, 8, 9, 10, 107])
(.cond (.t 107)
((.seq (.ops F169o26 [8, 12])
((.seq ((.seq (.ops F169o27 [8, 12, 114])
(.cond (.t 114)
((.seq (.ops F169o28 [4])
(.ret)))
(.skip))))
((.seq (.ops F169o29 [4])
(.ret)))))))
((.seq (.ops F169o30 [0, 1, 5, 6, 7, 8, 9, 10, 132])
(.cond (.t 132)
((.seq (.ops F169o31 [8, 13])
((.seq ((.seq (.ops F169o32 [8, 13, 139])
(.cond (.t 139)
((.seq (.ops F169o33 [4])
(.ret)))
(.skip))))
((.seq (.ops F169o34 [4])
(.ret)))))))
(.skip)))))))))))))))))
def F169o36 : List AOper := [⟨some 4, .t (.mv (.c (.int .i64 (-1)))), none⟩]
def F169c : ACode :=
(.seq (.ops F169o0 [0, 1])
((.seq (.ops F169o1 [0, 1, 5])
((.seq (.block 0 ((.seq (.ops F169o2 [0, 1, 5, 16])
(.cond (.t 16)
((.seq (.ops F169o3 [4])
(.ret)))
((.seq (.ops F169o4 [0, 1, 5, 24])
(.cond (.t 24)
((.seq (.ops F169o5 [4])
(.ret)))
((.seq (.ops F169o6 [0, 1, 5, 31])
(.cond (.t 31)
((.seq (.ops F169o7 [4])
(.ret)))
((.seq (.ops F169o8 [0, 1, 5, 36])
(.cond (.t 36)
((.seq (.ops F169o9 [4])
(.ret)))
(.skip))))))))))))))
((.seq (.ops F169o10 [0, 1, 5, 6])
((.seq (.ops F169o11 [0, 1, 5, 6, 7])
((.seq (.ops F169o12 [0, 1, 5, 6, 7, 8])
((.seq (.ops F169o13 [0, 1, 5, 6, 7, 8, 9])
((.seq (.ops F169o14 [0, 1, 5, 6, 7, 8, 9, 10])
((.seq (.block 1 (.loop [0, 1, 5, 6, 7, 8, 9, 10] F169b35))
((.seq (.ops F169o36 [4])
(.ret))))))))))))))))))))
def F169 : AFn := ⟨143, [.tmp 4], F169c⟩
theorem F169_ok : cFn Tryz.prog [] 169 = some F169 := by kernel_rfl
def F176o0 : List AOper := [⟨some 2, .t (.mv (.c (.bool false))), none⟩]
def F176o1 : List AOper := [⟨some 3, .t (.mv (.t 0)), none⟩,⟨some 4, .call (.c (.clo 125 [] [])) [(.t 3), (.c (.int .i64 1)), (.c (.int .i64 9999))], none⟩,⟨some 5, .t (.mv (.t 4)), none⟩,⟨some 6, .t (.mv (.t 0)), (some (5, true))⟩,
  ⟨some 7, .t (.bin .rem (.t 6) (.c (.int .i64 4))), (some (5, true))⟩,
  ⟨some 8, .t (.bin .eql (.t 7) (.c (.int .i64 0))), (some (5, true))⟩,
  ⟨some 9, .t (.pick (.t 5) (.t 8) (.c (.bool false))), none⟩,⟨some 10, .t (.mv (.t 9)), none⟩,⟨some 11, .t (.mv (.t 0)), (some (10, true))⟩,
  ⟨some 12, .t (.bin .rem (.t 11) (.c (.int .i64 100))), (some (10, true))⟩,
  ⟨some 13, .t (.bin .neq (.t 12) (.c (.int .i64 0))), (some (10, true))⟩,
  ⟨some 14, .t (.mv (.t 13)), (some (10, true))⟩,
  ⟨some 15, .t (.mv (.t 0)), (some (14, false))⟩,
  ⟨some 16, .t (.bin .rem (.t 15) (.c (.int .i64 400))), (some (14, false))⟩,
  ⟨some 17, .t (.bin .eql (.t 16) (.c (.int .i64 0))), (some (14, false))⟩,
  ⟨some 18, .t (.pick (.t 14) (.c (.bool true)) (.t 17)), (some (10, true))⟩,
  ⟨some 19, .t (.pick (.t 10) (.t 18) (.c (.bool false))), none⟩,⟨some 2, .t (.mv (.t 19)), none⟩]
def F176c : ACode :=
(.seq (.ops F176o0 [0])
((.seq (.ops F176o1 [2])
(.ret))))
def F176 : AFn := ⟨20, [.tmp 2], F176c⟩
theorem F176_ok : cFn Tryz.prog [] 176 = some F176 := by kernel_rfl
def F177o0 : List AOper := [⟨some 4, .t (.mv (.c (.bool false))), none⟩]
def F177o1 : List AOper := [⟨some 5, .t (.mv (.t 0)), none⟩,⟨some 6, .t (.len true (.t 5)), none⟩,⟨some 7, .t (.mv (.t 1)), none⟩,⟨some 8, .t (.len true (.t 7)), none⟩,⟨some 9, .t (.bin .geq (.t 6) (.t 8)), none⟩,⟨some 10, .t (.mv (.t 9)), none⟩,⟨some 11, .t (.mv (.t 0)), (some (10, true))⟩,
  ⟨some 12, .t (.mv (.t 1)), (some (10, true))⟩,
  ⟨some 13, .t (.len true (.t 12)), (some (10, true))⟩,
  ⟨some 14, .t (.sliceS (.t 11) none (some (.t 13))), (some (10, true))⟩,
  ⟨some 15, .t (.mv (.t 1)), (some (10, true))⟩,
  ⟨some 16, .t (.bin .eql (.t 14) (.t 15)), (some (10, true))⟩,
  ⟨some 17, .t (.pick (.t 10) (.t 16) (.c (.bool false))), none⟩,⟨some 4, .t (.mv (.t 17)), none⟩]
def F177c : ACode :=
(.seq (.ops F177o0 [0, 1])
((.seq (.ops F177o1 [4])
(.ret))))
def F177 : AFn := ⟨18, [.tmp 4], F177c⟩
theorem F177_ok : cFn Tryz.prog [] 177 = some F177 := by kernel_rfl
def F180o0 : List AOper := [⟨some 4, .t (.mv (.c (.str []))), none⟩]
def F180o1 : List AOper := [⟨some 5, .t (.mv (.t 0)), none⟩,⟨some 6, .t (.bin .eql (.t 5) (.c (.str []))), none⟩]
def F180o2 : List AOper := [⟨some 7, .t (.mv (.t 1)), none⟩,⟨some 4, .t (.mv (.t 7)), none⟩]
def F180o3 : List AOper := [⟨some 8, .t (.mv (.t 0)), none⟩,⟨some 9, .t (.bin .add (.t 8) (.c (.str [46]))), none⟩,⟨some 10, .t (.mv (.t 1)), none⟩,⟨some 11, .t (.bin .add (.t 9) (.t 10)), none⟩,⟨some 4, .t (.mv (.t 11)), none⟩]
def F180c : ACode :=
(.seq (.ops F180o0 [0, 1])
((.seq ((.seq (.ops F180o1 [0, 1, 6])
(.cond (.t 6)
((.seq (.ops F180o2 [4])
(.ret)))
(.skip))))
((.seq (.ops F180o3 [4])
(.ret))))))
def F180 : AFn := ⟨12, [.tmp 4], F180c⟩
theorem F180_ok : cFn Tryz.prog [] 180 = some F180 := by kernel_rfl
def F181o0 : List AOper := [⟨some 2, .m (.box 98 (.t 0)), none⟩,⟨some 3, .t (.mv (.c (.bool false))), none⟩]
def F181o1 : List AOper := [⟨some 4, .t (.faddr 1 (.t 2)), none⟩,⟨some 5, .m (.load false 1 (.t 4)), none⟩,⟨some 6, .m (.load false 1 (.t 1)), none⟩,⟨some 7, .t (.bin .eql (.t 5) (.t 6)), none⟩,⟨some 3, .t (.mv (.t 7)), none⟩]
def F181c : ACode :=
(.seq (.ops F181o0 [1, 2])
((.seq (.ops F181o1 [3])
(.ret))))
def F181 : AFn := ⟨8, [.tmp 3], F181c⟩
theorem F181_ok : cFn Tryz.prog [] 181 = some F181 := by kernel_rfl
def F187o0 : List AOper := [⟨some 6, .t (.mv (.c (.bool false))), none⟩]
def F187o1 : List AOper := [⟨some 7, .t (.mv (.t 0)), none⟩,⟨some 8, .t (.mv (.t 1)), none⟩,⟨some 9, .t (.bin .geq (.t 7) (.t 8)), none⟩,⟨some 10, .t (.mv (.t 9)), none⟩,⟨some 11, .t (.mv (.t 0)), (some (10, true))⟩,
  ⟨some 12, .t (.mv (.t 2)), (some (10, true))⟩,
  ⟨some 13, .t (.bin .leq (.t 11) (.t 12)), (some (10, true))⟩,
  ⟨some 14, .t (.pick (.t 10) (.t 13) (.c (.bool false))), none⟩,⟨some 6, .t (.mv (.t 14)), none⟩]
def F187c : ACode :=
(.seq (.ops F187o0 [0, 1, 2])
((.seq (.ops F187o1 [6])
(.ret))))
def F187 : AFn := ⟨15, [.tmp 6], F187c⟩
theorem F187_ok : cFn Tryz.prog [] 187 = some F187 := by kernel_rfl
def F188o0 : List AOper := [⟨some 0, .m (.alloc 218 [(.str []), (.int .i64 0), (.int .i64 0), (.bool false), (.bool false), (.bool false), (.bool false), (.bool false), (.str []), (.int .i64 0), (.int .i64 0), (.bool false), (.bool false), (.bool false), (.bool false), (.bool false), (.str []), (.int .i64 0), (.int .i64 0), (.bool false), (.bool false), (.bool false), (.bool false), (.bool false), (.str []), (.int .i64 0), (.int .i64 0), (.bool false), (.bool false), (.bool false), (.bool false), (.bool false), (.str []), (.int .i64 0), (.int .i64 0), (.bool false), (.bool false), (.bool false), (.bool false), (.bool false), (.str []), (.int .i64 0), (.int .i64 0), (.bool false), (.bool false), (.bool false), (.bool false), (.bool false), (.str []), (.int .i64 0), (.int .i64 0), (.bool false), (.bool false), (.bool false), (.bool false), (.bool false), (.str []), (.int .i64 0), (.int .i64 0), (.bool false), (.bool false), (.bool false), (.bool false), (.bool false), (.str []), (.int .i64 0), (.int .i64 0), (.bool false), (.bool false), (.bool false), (.bool false), (.bool false), (.str []), (.int .i64 0), (.int .i64 0), (.bool false), (.bool false), (.bool false), (.bool false), (.bool false), (.str []), (.int .i64 0), (.int .i64 0), (.bool false), (.bool false), (.bool false), (.bool false), (.bool false)]), none⟩]
def F188o1 : List AOper := [⟨some 1, .t (.build [(.str []), (.int .i64 0), (.int .i64 0), (.bool false), (.bool false), (.bool false), (.bool false), (.bool false)] [(0, 1, (.c (.str [98, 111, 111, 108])))]), none⟩,⟨some 2, .t (.build [(.str []), (.int .i64 0), (.int .i64 0), (.bool false), (.bool false), (.bool false), (.bool false), (.bool false)] [(0, 1, (.c (.str [105, 110, 116]))), (1, 1, (.c (.int .i64 (-999999999999999)))), (2, 1, (.c (.int .i64 999999999999999))), (3, 1, (.c (.bool true)))]), none⟩,⟨some 3, .t (.build [(.str []), (.int .i64 0), (.int .i64 0), (.bool false), (.bool false), (.bool false), (.bool false), (.bool false)] [(0, 1, (.c (.str [100, 101, 99, 105, 109, 97, 108]))), (1, 1, (.c (.int .i64 (-999999999999999)))), (2, 1, (.c (.int .i64 999999999999999))), (3, 1, (.c (.bool true))), (4, 1, (.c (.bool true)))]), none⟩,⟨some 4, .t (.build [(.str []), (.int .i64 0), (.int .i64 0), (.bool false), (.bool false), (.bool false), (.bool false), (.bool false)] [(0, 1, (.c (.str [116, 101, 120, 116]))), (2, 1, (.c (.int .i64 1024))), (3, 1, (.c (.bool true))), (5, 1, (.c (.bool true)))]), none⟩,⟨some 5, .t (.build [(.str []), (.int .i64 0), (.int .i64 0), (.bool false), (.bool false), (.bool false), (.bool false), (.bool false)] [(0, 1, (.c (.str [98, 121, 116, 101, 115]))), (2, 1, (.c (.int .i64 1024))), (3, 1, (.c (.bool true)))]), none⟩,⟨some 6, .t (.build [(.str []), (.int .i64 0), (.int .i64 0), (.bool false), (.bool false), (.bool false), (.bool false), (.bool false)] [(0, 1, (.c (.str [100, 97, 116, 101]))), (1, 1, (.c (.int .i64 (-719162)))), (2, 1, (.c (.int .i64 2932896))), (3, 1, (.c (.bool true)))]), none⟩,⟨some 7, .t (.build [(.str []), (.int .i64 0), (.int .i64 0), (.bool false), (.bool false), (.bool false), (.bool false), (.bool false)] [(0, 1, (.c (.str [116, 105, 109, 101]))), (1, 1, (.c (.int .i64 (-62135596800000)))), (2, 1, (.c (.int .i64 253402300799999))), (3, 1, (.c (.bool true)))]), none⟩,⟨some 8, .t (.build [(.str []), (.int .i64 0), (.int .i64 0), (.bool false), (.bool false), (.bool false), (.bool false), (.bool false)] [(0, 1, (.c (.str [108, 105, 115, 116]))), (2, 1, (.c (.int .i64 256))), (3, 1, (.c (.bool true))), (6, 1, (.c (.bool true)))]), none⟩,⟨some 9, .t (.build [(.str []), (.int .i64 0), (.int .i64 0), (.bool false), (.bool false), (.bool false), (.bool false), (.bool false)] [(0, 1, (.c (.str [114, 101, 99, 111, 114, 100]))), (7, 1, (.c (.bool true)))]), none⟩,⟨some 10, .t (.build [(.str []), (.int .i64 0), (.int .i64 0), (.bool false), (.bool false), (.bool false), (.bool false), (.bool false)] [(0, 1, (.c (.str [118, 97, 114, 105, 97, 110, 116]))), (7, 1, (.c (.bool true)))]), none⟩,⟨some 11, .t (.build [(.str []), (.int .i64 0), (.int .i64 0), (.bool false), (.bool false), (.bool false), (.bool false), (.bool false), (.str []), (.int .i64 0), (.int .i64 0), (.bool false), (.bool false), (.bool false), (.bool false), (.bool false), (.str []), (.int .i64 0), (.int .i64 0), (.bool false), (.bool false), (.bool false), (.bool false), (.bool false), (.str []), (.int .i64 0), (.int .i64 0), (.bool false), (.bool false), (.bool false), (.bool false), (.bool false), (.str []), (.int .i64 0), (.int .i64 0), (.bool false), (.bool false), (.bool false), (.bool false), (.bool false), (.str []), (.int .i64 0), (.int .i64 0), (.bool false), (.bool false), (.bool false), (.bool false), (.bool false), (.str []), (.int .i64 0), (.int .i64 0), (.bool false), (.bool false), (.bool false), (.bool false), (.bool false), (.str []), (.int .i64 0), (.int .i64 0), (.bool false), (.bool false), (.bool false), (.bool false), (.bool false), (.str []), (.int .i64 0), (.int .i64 0), (.bool false), (.bool false), (.bool false), (.bool false), (.bool false), (.str []), (.int .i64 0), (.int .i64 0), (.bool false), (.bool false), (.bool false), (.bool false), (.bool false), (.str []), (.int .i64 0), (.int .i64 0), (.bool false), (.bool false), (.bool false), (.bool false), (.bool false)] [(8, 8, (.t 1)), (16, 8, (.t 2)), (24, 8, (.t 3)), (32, 8, (.t 4)), (40, 8, (.t 5)), (48, 8, (.t 6)), (56, 8, (.t 7)), (64, 8, (.t 8)), (72, 8, (.t 9)), (80, 8, (.t 10))]), none⟩,⟨none, .m (.store 88 (.t 0) (.t 11)), none⟩]
def F188c : ACode :=
(.seq (.ops F188o0 [0])
((.seq (.ops F188o1 [0])
(.ret))))
def F188 : AFn := ⟨12, [.cell 0 true 88], F188c⟩
theorem F188_ok : cFn Tryz.prog [] 188 = some F188 := by kernel_rfl
def F189o0 : List AOper := [⟨some 2, .m (.box 26 (.t 0)), none⟩,⟨some 3, .m (.box 217 (.t 1)), none⟩,⟨some 4, .t (.mv (.c (.int .i64 0))), none⟩]
def F189o1 : List AOper := [⟨some 6, .t (.faddr 3 (.t 3)), none⟩,⟨some 7, .m (.load false 1 (.t 6)), none⟩,⟨some 8, .t (.not (.t 7)), none⟩,⟨some 9, .t (.mv (.t 8)), none⟩,⟨some 10, .t (.faddr 1 (.t 2)), (some (9, true))⟩,
  ⟨some 11, .m (.load false 1 (.t 10)), (some (9, true))⟩,
  ⟨some 12, .t (.bin .neq (.t 11) (.c (.int .i64 0))), (some (9, true))⟩,
  ⟨some 13, .t (.mv (.t 12)), (some (9, true))⟩,
  ⟨some 14, .t (.faddr 2 (.t 2)), (some (13, false))⟩,
  ⟨some 15, .m (.load false 1 (.t 14)), (some (13, false))⟩,
  ⟨some 16, .t (.bin .neq (.t 15) (.c (.int .i64 0))), (some (13, false))⟩,
  ⟨some 17, .t (.pick (.t 13) (.c (.bool true)) (.t 16)), (some (9, true))⟩,
  ⟨some 18, .t (.pick (.t 9) (.t 17) (.c (.bool false))), none⟩,⟨some 5, .t (.mv (.t 18)), none⟩]
def F189o2 : List AOper := [⟨some 19, .t (.faddr 4 (.t 3)), none⟩,⟨some 20, .m (.load false 1 (.t 19)), none⟩,⟨some 21, .t (.not (.t 20)), none⟩,⟨some 22, .t (.mv (.t 21)), none⟩,⟨some 23, .t (.faddr 3 (.t 2)), (some (22, true))⟩,
  ⟨some 24, .m (.load false 1 (.t 23)), (some (22, true))⟩,
  ⟨some 25, .t (.bin .neq (.t 24) (.c (.int .i64 0))), (some (22, true))⟩,
  ⟨some 26, .t (.pick (.t 22) (.t 25) (.c (.bool false))), none⟩,⟨some 5, .t (.mv (.t 26)), none⟩]
def F189o3 : List AOper := [⟨some 27, .t (.faddr 5 (.t 3)), none⟩,⟨some 28, .m (.load false 1 (.t 27)), none⟩,⟨some 29, .t (.not (.t 28)), none⟩,⟨some 30, .t (.mv (.t 29)), none⟩,⟨some 31, .t (.faddr 4 (.t 2)), (some (30, true))⟩,
  ⟨some 32, .m (.load false 1 (.t 31)), (some (30, true))⟩,
  ⟨some 33, .t (.len false (.t 32)), (some (30, true))⟩,
  ⟨some 34, .t (.bin .gtr (.t 33) (.c (.int .i64 0))), (some (30, true))⟩,
  ⟨some 35, .t (.pick (.t 30) (.t 34) (.c (.bool false))), none⟩,⟨some 5, .t (.mv (.t 35)), none⟩]
def F189o4 : List AOper := [⟨some 36, .t (.faddr 6 (.t 3)), none⟩,⟨some 37, .m (.load false 1 (.t 36)), none⟩,⟨some 38, .t (.not (.t 37)), none⟩,⟨some 39, .t (.mv (.t 38)), none⟩,⟨some 40, .t (.faddr 5 (.t 2)), (some (39, true))⟩,
  ⟨some 41, .m (.load false 1 (.t 40)), (some (39, true))⟩,
  ⟨some 42, .t (.len false (.t 41)), (some (39, true))⟩,
  ⟨some 43, .t (.bin .gtr (.t 42) (.c (.int .i64 0))), (some (39, true))⟩,
  ⟨some 44, .t (.pick (.t 39) (.t 43) (.c (.bool false))), none⟩,⟨some 5, .t (.mv (.t 44)), none⟩]
def F189o5 : List AOper := [⟨some 45, .t (.faddr 7 (.t 3)), none⟩,⟨some 46, .m (.load false 1 (.t 45)), none⟩,⟨some 47, .t (.not (.t 46)), none⟩,⟨some 48, .t (.mv (.t 47)), none⟩,⟨some 49, .t (.faddr 6 (.t 2)), (some (48, true))⟩,
  ⟨some 50, .m (.load false 1 (.t 49)), (some (48, true))⟩,
  ⟨some 51, .t (.len false (.t 50)), (some (48, true))⟩,
  ⟨some 52, .t (.bin .gtr (.t 51) (.c (.int .i64 0))), (some (48, true))⟩,
  ⟨some 53, .t (.pick (.t 48) (.t 52) (.c (.bool false))), none⟩,⟨some 5, .t (.mv (.t 53)), none⟩]
def F189o6 : List AOper := [⟨some 4, .t (.mv (.c (.int .i64 3))), none⟩]
def F189o7 : List AOper := [⟨some 4, .t (.mv (.c (.int .i64 0))), none⟩]
def F189c : ACode :=
(.seq (.ops F189o0 [2, 3])
((.seq (.block 0 ((.seq ((.seq (.ops F189o1 [2, 3, 5])
(.cond (.t 5)
(.skip)
((.seq (.ops F189o2 [2, 3, 5])
(.cond (.t 5)
(.skip)
((.seq (.ops F189o3 [2, 3, 5])
(.cond (.t 5)
(.skip)
((.seq (.ops F189o4 [2, 3, 5])
(.cond (.t 5)
(.skip)
(.ops F189o5 [5])))))))))))))
(.cond (.t 5)
((.seq (.ops F189o6 [4])
(.ret)))
(.skip)))))
((.seq (.ops F189o7 [4])
(.ret))))))
def F189 : AFn := ⟨54, [.tmp 4], F189c⟩
theorem F189_ok : cFn Tryz.prog [] 189 = some F189 := by kernel_rfl
def F191o0 : List AOper := [⟨some 2, .m (.box 26 (.t 0)), none⟩,⟨some 4, .t (.mv (.c (.int .i64 0))), none⟩]
def F191o1 : List AOper := [⟨some 6, .t (.faddr 6 (.t 2)), none⟩,⟨some 7, .m (.load false 1 (.t 6)), none⟩,⟨some 8, .t (.mv (.t 1)), none⟩,⟨some 9, .t (.iaddr 11 (.t 7) (.t 8)), none⟩,⟨some 10, .m (.load true 11 (.t 9)), none⟩,⟨some 5, .m (.alloc 98 [(.int .i64 0), (.str []), (.int .i64 0), (.int .i64 0), (.int .i64 0), (.int .i64 0), (.int .i64 0), .nils, .nils, .nils, .nils]), none⟩,⟨none, .m (.store 11 (.t 5) (.t 10)), none⟩]
def F191o2 : List AOper := [⟨some 12, .t (.faddr 1 (.t 5)), none⟩,⟨some 13, .m (.load false 1 (.t 12)), none⟩,⟨some 14, .call (.c (.clo 240 [] [])) [(.t 13)], none⟩,⟨some 15, .t (.not (.t 14)), none⟩,⟨some 11, .t (.mv (.t 15)), none⟩]
def F191o3 : List AOper := [⟨some 4, .t (.mv (.c (.int .i64 12))), none⟩]
def F191o4 : List AOper := [⟨some 17, .t (.faddr 0 (.t 5)), none⟩,⟨some 18, .m (.load false 1 (.t 17)), none⟩,⟨some 19, .call (.c (.clo 187 [] [])) [(.t 18), (.c (.int .i64 1)), (.c (.int .i64 9999))], none⟩,⟨some 20, .t (.not (.t 19)), none⟩,⟨some 16, .t (.mv (.t 20)), none⟩]
def F191o5 : List AOper := [⟨some 4, .t (.mv (.c (.int .i64 2))), none⟩]
def F191o6 : List AOper := [⟨some 22, .t (.faddr 6 (.t 2)), none⟩,⟨some 23, .m (.load false 1 (.t 22)), none⟩,⟨some 24, .t (.mv (.t 1)), none⟩,⟨some 25, .t (.sliceL 11 (.t 23) none (some (.t 24))), none⟩,⟨some 26, .t (.clo 241 [] [(.t 5)]), none⟩,⟨some 27, .call (.c (.clo 96 [] [])) [(.t 25), (.t 26)], none⟩,⟨some 21, .t (.mv (.t 27)), none⟩]
def F191o7 : List AOper := [⟨some 4, .t (.mv (.c (.int .i64 7))), none⟩]
def F191o8 : List AOper := [⟨some 29, .t (.faddr 2 (.t 5)), none⟩,⟨some 30, .m (.load false 1 (.t 29)), none⟩,⟨some 31, .call (.c (.clo 187 [] [])) [(.t 30), (.c (.int .i64 1)), (.c (.int .i64 3))], none⟩,⟨some 32, .t (.not (.t 31)), none⟩,⟨some 33, .t (.mv (.t 32)), none⟩,⟨some 34, .t (.faddr 0 (.t 2)), (some (33, false))⟩,
  ⟨some 35, .m (.load false 1 (.t 34)), (some (33, false))⟩,
  ⟨some 36, .t (.bin .eql (.t 35) (.c (.int .i64 10))), (some (33, false))⟩,
  ⟨some 37, .t (.mv (.t 36)), (some (33, false))⟩,
  ⟨some 38, .t (.faddr 2 (.t 5)), (some (37, true))⟩,
  ⟨some 39, .m (.load false 1 (.t 38)), (some (37, true))⟩,
  ⟨some 40, .t (.bin .neq (.t 39) (.c (.int .i64 1))), (some (37, true))⟩,
  ⟨some 41, .t (.pick (.t 37) (.t 40) (.c (.bool false))), (some (33, false))⟩,
  ⟨some 42, .t (.pick (.t 33) (.c (.bool true)) (.t 41)), none⟩,⟨some 28, .t (.mv (.t 42)), none⟩]
def F191o9 : List AOper := [⟨some 4, .t (.mv (.c (.int .i64 11))), none⟩]
def F191o10 : List AOper := [⟨some 44, .t (.faddr 2 (.t 5)), none⟩,⟨some 45, .m (.load false 1 (.t 44)), none⟩,⟨some 46, .t (.bin .eql (.t 45) (.c (.int .i64 3))), none⟩,⟨some 47, .t (.mv (.t 46)), none⟩,⟨some 48, .t (.faddr 10 (.t 5)), (some (47, true))⟩,
  ⟨some 49, .m (.load false 1 (.t 48)), (some (47, true))⟩,
  ⟨some 50, .t (.len false (.t 49)), (some (47, true))⟩,
  ⟨some 51, .t (.bin .eql (.t 50) (.c (.int .i64 0))), (some (47, true))⟩,
  ⟨some 52, .t (.pick (.t 47) (.t 51) (.c (.bool false))), none⟩,⟨some 43, .t (.mv (.t 52)), none⟩]
def F191o11 : List AOper := [⟨some 4, .t (.mv (.c (.int .i64 4))), none⟩]
def F191o12 : List AOper := [⟨some 54, .t (.faddr 10 (.t 5)), none⟩,⟨some 55, .m (.load false 1 (.t 54)), none⟩,⟨some 56, .t (.len false (.t 55)), none⟩,⟨some 57, .t (.bin .gtr (.t 56) (.c (.int .i64 1))), none⟩,⟨some 58, .t (.mv (.t 57)), none⟩,⟨some 59, .t (.faddr 2 (.t 5)), (some (58, false))⟩,
  ⟨some 60, .m (.load false 1 (.t 59)), (some (58, false))⟩,
  ⟨some 61, .t (.bin .neq (.t 60) (.c (.int .i64 3))), (some (58, false))⟩,
  ⟨some 62, .t (.mv (.t 61)), (some (58, false))⟩,
  ⟨some 63, .t (.faddr 10 (.t 5)), (some (62, true))⟩,
  ⟨some 64, .m (.load false 1 (.t 63)), (some (62, true))⟩,
  ⟨some 65, .t (.len false (.t 64)), (some (62, true))⟩,
  ⟨some 66, .t (.bin .gtr (.t 65) (.c (.int .i64 0))), (some (62, true))⟩,
  ⟨some 67, .t (.pick (.t 62) (.t 66) (.c (.bool false))), (some (58, false))⟩,
  ⟨some 68, .t (.pick (.t 58) (.c (.bool true)) (.t 67)), none⟩,⟨some 53, .t (.mv (.t 68)), none⟩]
def F191o13 : List AOper := [⟨some 4, .t (.mv (.c (.int .i64 3))), none⟩]
def F191o14 : List AOper := [⟨some 4, .t (.mv (.c (.int .i64 0))), none⟩]
def F191c : ACode :=
(.seq (.ops F191o0 [1, 2])
((.seq (.ops F191o1 [1, 2, 5])
((.seq (.block 0 ((.seq (.ops F191o2 [1, 2, 5, 11])
(.cond (.t 11)
((.seq (.ops F191o3 [4])
(.ret)))
((.seq (.ops F191o4 [1, 2, 5, 16])
(.cond (.t 16)
((.seq (.ops F191o5 [4])
(.ret)))
((.seq (.ops F191o6 [2, 5, 21])
(.cond (.t 21)
((.seq (.ops F191o7 [4])
(.ret)))
((.seq (.ops F191o8 [5, 28])
(.cond (.t 28)
((.seq (.ops F191o9 [4])
(.ret)))
((.seq (.ops F191o10 [5, 43])
(.cond (.t 43)
((.seq (.ops F191o11 [4])
(.ret)))
((.seq (.ops F191o12 [53])
(.cond (.t 53)
((.seq (.ops F191o13 [4])
(.ret)))
(.skip))))))))))))))))))))
((.seq (.ops F191o14 [4])
(.ret))))))))
def F191 : AFn := ⟨69, [.tmp 4], F191c⟩
theorem F191_ok : cFn Tryz.prog [] 191 = some F191 := by kernel_rfl
def F209o0 : List AOper := [⟨some 2, .t (.mv (.c .nilf)), none⟩]
def F209o1 : List AOper := [⟨some 3, .t (.mv (.t 0)), none⟩,⟨some 4, .t (.nilck (.t 3)), none⟩,⟨some 5, .t (.faddr 2 (.t 4)), none⟩,⟨some 6, .m (.load false 1 (.t 5)), none⟩,⟨some 7, .t (.mv (.t 0)), none⟩,⟨some 8, .t (.nilck (.t 7)), none⟩,⟨some 9, .t (.faddr 0 (.t 8)), none⟩,⟨some 10, .m (.load false 1 (.t 9)), none⟩,⟨some 11, .t (.len true (.t 10)), none⟩]
def F209p1 : List AOper := [⟨some 12, .t (.bin .geq (.t 6) (.t 11)), none⟩]
def F209A1 : List (List Nat) := [[], [0], [1, 0], [2, 1, 0], [], [4], [5, 4], [6, 5, 4], [7, 6, 5, 4], [3, 8, 2, 1, 0, 7, 6, 5, 4]]
def F209o2 : List AOper := [⟨some 2, .t (.mv (.c .nilf)), none⟩]
def F209o3 : List AOper := [⟨some 13, .t (.mv (.t 0)), none⟩,⟨some 14, .t (.nilck (.t 13)), none⟩,⟨some 15, .t (.faddr 2 (.t 14)), none⟩,⟨some 16, .m (.load false 1 (.t 15)), none⟩,⟨some 17, .t (.bin .add (.t 16) (.c (.int .i64 1))), none⟩,⟨some 18, .t (.nilck (.t 13)), none⟩,⟨some 19, .t (.faddr 2 (.t 18)), none⟩,⟨none, .m (.store 1 (.t 19) (.t 17)), none⟩]
def F209o4 : List AOper := [⟨some 2, .t (.mv (.c (.clo 108 [] []))), none⟩]
def F209c : ACode :=
(.seq (.ops F209o0 [0])
((.seq ((.seq (.draw F209A1 F209o1 F209p1 [0, 12])
(.cond (.t 12)
((.seq (.ops F209o2 [2])
(.ret)))
(.skip))))
((.seq (.ops F209o3 [])
((.seq (.ops F209o4 [2])
(.ret))))))))
def F209 : AFn := ⟨20, [.tmp 2], F209c⟩
theorem F209_ok : cFn Tryz.prog [] 209 = some F209 := by kernel_rfl
def F210o0 : List AOper := [⟨some 10, .t (.mv (.t 1)), none⟩,⟨some 11, .t (.bin .add (.t 10) (.c (.int .i64 1))), none⟩,⟨some 8, .t (.mv (.t 11)), none⟩]
def F210o1 : List AOper := [⟨some 12, .t (.mv (.t 8)), none⟩,⟨some 13, .t (.mv (.t 2)), none⟩,⟨some 14, .t (.bin .lss (.t 12) (.t 13)), none⟩]
def F210o2 : List AOper := [⟨some 17, .t (.mv (.t 8)), none⟩,⟨some 9, .t (.mv (.t 17)), none⟩]
def F210o3 : List AOper := [⟨some 18, .t (.mv (.t 9)), none⟩,⟨some 19, .t (.mv (.t 1)), none⟩,⟨some 20, .t (.bin .gtr (.t 18) (.t 19)), none⟩,⟨some 21, .t (.mv (.t 20)), none⟩,⟨some 22, .t (.mv (.t 3)), (some (21, true))⟩,
  ⟨some 23, .t (.mv (.t 0)), (some (21, true))⟩,
  ⟨some 24, .t (.mv (.t 9)), (some (21, true))⟩,
  ⟨some 25, .t (.iaddr 7 (.t 23) (.t 24)), (some (21, true))⟩,
  ⟨some 26, .m (.load true 7 (.t 25)), (some (21, true))⟩,
  ⟨some 27, .t (.mv (.t 0)), (some (21, true))⟩,
  ⟨some 28, .t (.mv (.t 9)), (some (21, true))⟩,
  ⟨some 29, .t (.bin .sub (.t 28) (.c (.int .i64 1))), (some (21, true))⟩,
  ⟨some 30, .t (.iaddr 7 (.t 27) (.t 29)), (some (21, true))⟩,
  ⟨some 31, .m (.load true 7 (.t 30)), (some (21, true))⟩]
def F210p3 : List AOper := [⟨some 32, .call (.t 22) [(.t 26), (.t 31)], (some (21, true))⟩,
  ⟨some 33, .t (.bin .lss (.t 32) (.c (.int .i64 0))), (some (21, true))⟩,
  ⟨some 34, .t (.pick (.t 21) (.t 33) (.c (.bool false))), none⟩]
def F210A3 : List (List Nat) := [[], [], [0, 1], [2, 0, 1], [3, 2, 0, 1], [3, 2, 0, 1], [3, 2, 0, 1], [5, 6, 3, 2, 0, 1], [7, 5, 6, 3, 2, 0, 1], [3, 2, 0, 1], [3, 2, 0, 1], [10, 3, 2, 0, 1], [9, 11, 10, 3, 2, 0, 1], [12, 9, 11, 10, 3, 2, 0, 1], [4, 8, 13, 7, 5, 6, 12, 9, 11, 10, 3, 2, 0, 1], [14, 4, 8, 13, 7, 5, 6, 12, 9, 11, 10, 3, 2, 0, 1], [15, 14, 4, 8, 13, 7, 5, 6, 12, 9, 11, 10, 3, 2, 0, 1]]
def F210o4 : List AOper := [⟨some 37, .t (.mv (.t 0)), none⟩,⟨some 38, .t (.mv (.t 9)), none⟩,⟨some 39, .t (.mv (.t 0)), none⟩,⟨some 40, .t (.mv (.t 9)), none⟩,⟨some 41, .t (.bin .sub (.t 40) (.c (.int .i64 1))), none⟩,⟨some 42, .t (.mv (.t 0)), none⟩,⟨some 43, .t (.mv (.t 9)), none⟩,⟨some 44, .t (.bin .sub (.t 43) (.c (.int .i64 1))), none⟩,⟨some 45, .t (.iaddr 7 (.t 42) (.t 44)), none⟩,⟨some 46, .m (.load true 7 (.t 45)), none⟩,⟨some 47, .t (.mv (.t 0)), none⟩,⟨some 48, .t (.mv (.t 9)), none⟩,⟨some 49, .t (.iaddr 7 (.t 47) (.t 48)), none⟩,⟨some 50, .m (.load true 7 (.t 49)), none⟩,⟨some 51, .t (.iaddr 7 (.t 37) (.t 38)), none⟩,⟨none, .m (.store 7 (.t 51) (.t 46)), none⟩]
def F210p4 : List AOper := [⟨some 52, .t (.iaddr 7 (.t 39) (.t 41)), none⟩,⟨none, .m (.store 7 (.t 52) (.t 50)), none⟩]
def F210A4 : List (List Nat) := [[], [], [], [], [3], [], [], [6], [5, 7, 6], [8, 5, 7, 6], [], [], [10, 11], [12, 10, 11], [0, 1, 9, 13, 8, 5, 7, 6, 12, 10, 11], [14, 0, 1, 9, 13, 8, 5, 7, 6, 12, 10, 11], [2, 4, 15, 3, 14, 0, 1, 9, 13, 8, 5, 7, 6, 12, 10, 11], [16, 2, 4, 15, 3, 14, 0, 1, 9, 13, 8, 5, 7, 6, 12, 10, 11]]
def F210o5 : List AOper := [⟨some 35, .t (.mv (.t 9)), none⟩,⟨some 36, .t (.bin .sub (.t 35) (.c (.int .i64 1))), none⟩,⟨some 9, .t (.mv (.t 36)), none⟩]
def F210b6 : ACode :=
(.seq ((.seq (.draw F210A3 F210o3 F210p3 [0, 1, 2, 3, 8, 9, 34])
(.cond (.t 34)
(.skip)
(.exit 2))))
((.seq (.block 3 (.draw F210A4 F210o4 F210p4 [0, 1, 2, 3, 8, 9]))
(.ops F210o5 [0, 1, 2, 3, 8, 9]))))
def F210o7 : List AOper := [⟨some 15, .t (.mv (.t 8)), none⟩,⟨some 16, .t (.bin .add (.t 15) (.c (.int .i64 1))), none⟩,⟨some 8, .t (.mv (.t 16)), none⟩]
def F210b8 : ACode :=
(.seq ((.seq (.ops F210o1 [0, 1, 2, 3, 8, 14])
(.cond (.t 14)
(.skip)
(.exit 0))))
((.seq (.block 1 ((.seq (.ops F210o2 [0, 1, 2, 3, 8, 9])
(.block 2 (.loop [0, 1, 2, 3, 8, 9] F210b6)))))
(.ops F210o7 [0, 1, 2, 3, 8]))))
def F210c : ACode :=
(.seq (.ops F210o0 [0, 1, 2, 3, 8])
(.block 0 (.loop [0, 1, 2, 3, 8] F210b8)))
def F210 : AFn := ⟨53, [], F210c⟩
theorem F210_ok : cFn Tryz.prog [] 210 = some F210 := by kernel_rfl
def F219o0 : List AOper := [⟨some 2, .t (.mv (.c (.int .i64 0))), none⟩]
def F219o1 : List AOper := [⟨some 3, .t (.mv (.t 0)), none⟩,⟨some 4, .t (.bin .geq (.t 3) (.c (.int .u64 4294967296))), none⟩]
def F219o2 : List AOper := [⟨some 5, .t (.mv (.t 0)), none⟩,⟨some 6, .t (.bin .shr (.t 5) (.c (.int .u64 32))), none⟩,⟨some 0, .t (.mv (.t 6)), none⟩]
def F219o3 : List AOper := [⟨some 2, .t (.mv (.c (.int .i64 32))), none⟩]
def F219o4 : List AOper := [⟨some 7, .t (.mv (.t 0)), none⟩,⟨some 8, .t (.bin .geq (.t 7) (.c (.int .u64 65536))), none⟩]
def F219o5 : List AOper := [⟨some 9, .t (.mv (.t 0)), none⟩,⟨some 10, .t (.bin .shr (.t 9) (.c (.int .u64 16))), none⟩,⟨some 0, .t (.mv (.t 10)), none⟩]
def F219o6 : List AOper := [⟨some 11, .t (.mv (.t 2)), none⟩,⟨some 12, .t (.bin .add (.t 11) (.c (.int .i64 16))), none⟩,⟨some 2, .t (.mv (.t 12)), none⟩]
def F219o7 : List AOper := [⟨some 13, .t (.mv (.t 0)), none⟩,⟨some 14, .t (.bin .geq (.t 13) (.c (.int .u64 256))), none⟩]
def F219o8 : List AOper := [⟨some 15, .t (.mv (.t 0)), none⟩,⟨some 16, .t (.bin .shr (.t 15) (.c (.int .u64 8))), none⟩,⟨some 0, .t (.mv (.t 16)), none⟩]
def F219o9 : List AOper := [⟨some 17, .t (.mv (.t 2)), none⟩,⟨some 18, .t (.bin .add (.t 17) (.c (.int .i64 8))), none⟩,⟨some 2, .t (.mv (.t 18)), none⟩]
def F219o10 : List AOper := [⟨some 19, .t (.mv (.t 2)), none⟩,⟨some 20, .t (.mv (.t 0)), none⟩,⟨some 21, .t (.conv .u8 (.t 20)), none⟩,⟨some 22, .t (.index (.c (.str [0, 1, 2, 2, 3, 3, 3, 3, 4, 4, 4, 4, 4, 4, 4, 4, 5, 5, 5, 5, 5, 5, 5, 5, 5, 5, 5, 5, 5, 5, 5, 5, 6, 6, 6, 6, 6, 6, 6, 6, 6, 6, 6, 6, 6, 6, 6, 6, 6, 6, 6, 6, 6, 6, 6, 6, 6, 6, 6, 6, 6, 6, 6, 6, 7, 7, 7, 7, 7, 7, 7, 7, 7, 7, 7, 7, 7, 7, 7, 7, 7, 7, 7, 7, 7, 7, 7, 7, 7, 7, 7, 7, 7, 7, 7, 7, 7, 7, 7, 7, 7, 7, 7, 7, 7, 7, 7, 7, 7, 7, 7, 7, 7, 7, 7, 7, 7, 7, 7, 7, 7, 7, 7, 7, 7, 7, 7, 7, 8, 8, 8, 8, 8, 8, 8, 8, 8, 8, 8, 8, 8, 8, 8, 8, 8, 8, 8, 8, 8, 8, 8, 8, 8, 8, 8, 8, 8, 8, 8, 8, 8, 8, 8, 8, 8, 8, 8, 8, 8, 8, 8, 8, 8, 8, 8, 8, 8, 8, 8, 8, 8, 8, 8, 8, 8, 8, 8, 8, 8, 8, 8, 8, 8, 8, 8, 8, 8, 8, 8, 8, 8, 8, 8, 8, 8, 8, 8, 8, 8, 8, 8, 8, 8, 8, 8, 8, 8, 8, 8, 8, 8, 8, 8, 8, 8, 8, 8, 8, 8, 8, 8, 8, 8, 8, 8, 8, 8, 8, 8, 8, 8, 8, 8, 8, 8, 8, 8, 8, 8, 8, 8, 8, 8, 8, 8, 8])) (.t 21)), none⟩,⟨some 23, .t (.conv .i64 (.t 22)), none⟩,⟨some 24, .t (.bin .add (.t 19) (.t 23)), none⟩,⟨some 2, .t (.mv (.t 24)), none⟩]
def F219c : ACode :=
(.seq (.ops F219o0 [0, 2])
((.seq ((.seq (.ops F219o1 [0, 2, 4])
(.cond (.t 4)
((.seq (.ops F219o2 [0])
(.ops F219o3 [0, 2])))
(.skip))))
((.seq ((.seq (.ops F219o4 [0, 2, 8])
(.cond (.t 8)
((.seq (.ops F219o5 [0, 2])
(.ops F219o6 [0, 2])))
(.skip))))
((.seq ((.seq (.ops F219o7 [0, 2, 14])
(.cond (.t 14)
((.seq (.ops F219o8 [0, 2])
(.ops F219o9 [0, 2])))
(.skip))))
((.seq (.ops F219o10 [2])
(.ret))))))))))
def F219 : AFn := ⟨25, [.tmp 2], F219c⟩
theorem F219_ok : cFn Tryz.prog [] 219 = some F219 := by kernel_rfl
def F240o0 : List AOper := [⟨some 2, .t (.mv (.c (.bool false))), none⟩]
def F240o1 : List AOper := [⟨some 5, .t (.mv (.t 0)), none⟩,⟨some 6, .t (.bin .eql (.t 5) (.c (.str []))), none⟩,⟨some 7, .t (.mv (.t 6)), none⟩,⟨some 8, .t (.mv (.t 0)), (some (7, false))⟩,
  ⟨some 9, .t (.len true (.t 8)), (some (7, false))⟩,
  ⟨some 10, .t (.bin .gtr (.t 9) (.c (.int .i64 32))), (some (7, false))⟩,
  ⟨some 11, .t (.pick (.t 7) (.c (.bool true)) (.t 10)), none⟩,⟨some 12, .t (.mv (.t 11)), none⟩,⟨some 13, .t (.mv (.t 0)), (some (12, false))⟩,
  ⟨some 14, .t (.index (.t 13) (.c (.int .i64 0))), (some (12, false))⟩,
  ⟨some 15, .t (.bin .lss (.t 14) (.c (.int .u8 97))), (some (12, false))⟩,
  ⟨some 16, .t (.pick (.t 12) (.c (.bool true)) (.t 15)), none⟩,⟨some 17, .t (.mv (.t 16)), none⟩,⟨some 18, .t (.mv (.t 0)), (some (17, false))⟩,
  ⟨some 19, .t (.index (.t 18) (.c (.int .i64 0))), (some (17, false))⟩,
  ⟨some 20, .t (.bin .gtr (.t 19) (.c (.int .u8 122))), (some (17, false))⟩,
  ⟨some 21, .t (.pick (.t 17) (.c (.bool true)) (.t 20)), none⟩]
def F240o2 : List AOper := [⟨some 2, .t (.mv (.c (.bool false))), none⟩]
def F240o3 : List AOper := [⟨some 22, .t (.mv (.t 0)), none⟩,⟨some 23, .m (.xop (.ofStr (.t 22))), none⟩,⟨some 24, .t (.len false (.t 23)), none⟩,⟨some 25, .t (.mv (.c (.int .i64 0))), none⟩]
def F240o4 : List AOper := [⟨some 26, .t (.bin .lss (.t 25) (.t 24)), none⟩]
def F240o5 : List AOper := [⟨some 27, .t (.iaddr 1 (.t 23) (.t 25)), none⟩,⟨some 28, .m (.load false 1 (.t 27)), none⟩,⟨some 4, .t (.mv (.t 28)), none⟩]
def F240o6 : List AOper := [⟨some 29, .t (.mv (.t 4)), none⟩,⟨some 30, .t (.bin .lss (.t 29) (.c (.int .u8 97))), none⟩,⟨some 31, .t (.mv (.t 30)), none⟩,⟨some 32, .t (.mv (.t 4)), (some (31, false))⟩,
  ⟨some 33, .t (.bin .gtr (.t 32) (.c (.int .u8 122))), (some (31, false))⟩,
  ⟨some 34, .t (.pick (.t 31) (.c (.bool true)) (.t 33)), none⟩,⟨some 35, .t (.mv (.t 34)), none⟩,⟨some 36, .t (.mv (.t 4)), (some (35, true))⟩,
  ⟨some 37, .t (.bin .lss (.t 36) (.c (.int .u8 48))), (some (35, true))⟩,
  ⟨some 38, .t (.mv (.t 37)), (some (35, true))⟩,
  ⟨some 39, .t (.mv (.t 4)), (some (38, false))⟩,
  ⟨some 40, .t (.bin .gtr (.t 39) (.c (.int .u8 57))), (some (38, false))⟩,
  ⟨some 41, .t (.pick (.t 38) (.c (.bool true)) (.t 40)), (some (35, true))⟩,
  ⟨some 42, .t (.pick (.t 35) (.t 41) (.c (.bool false))), none⟩,⟨some 43, .t (.mv (.t 42)), none⟩,⟨some 44, .t (.mv (.t 4)), (some (43, true))⟩,
  ⟨some 45, .t (.bin .neq (.t 44) (.c (.int .u8 95))), (some (43, true))⟩,
  ⟨some 46, .t (.pick (.t 43) (.t 45) (.c (.bool false))), none⟩]
def F240o7 : List AOper := [⟨some 2, .t (.mv (.c (.bool false))), none⟩]
def F240o8 : List AOper := [⟨some 47, .t (.bin .add (.t 25) (.c (.int .i64 1))), none⟩,⟨some 25, .t (.mv (.t 47)), none⟩]
def F240b9 : ACode :=
(.seq (.ops F240o4 [23, 24, 25, 26])
((.seq (.cond (.t 26)
(.skip)
(.exit 0))
((.seq (.block 1 ((.seq (.ops F240o5 [4, 23, 24, 25])
((.seq (.ops F240o6 [23, 24, 25, 46])
(.cond (.t 46)
((.seq (.ops F240o7 [2])
(.ret)))
(.skip)))))))
(.ops F240o8 [23, 24, 25]))))))
def F240o10 : List AOper := [⟨some 2, .t (.mv (.c (.bool true))), none⟩]
def F240c : ACode :=
(.seq (.ops F240o0 [0])
((.seq ((.seq (.ops F240o1 [0, 21])
(.cond (.t 21)
((.seq (.ops F240o2 [2])
(.ret)))
(.skip))))
((.seq ((.seq (.ops F240o3 [23, 24, 25])
(.block 0 (.loop [23, 24, 25] F240b9))))
((.seq (.ops F240o10 [2])
(.ret))))))))
def F240 : AFn := ⟨48, [.tmp 2], F240c⟩
theorem F240_ok : cFn Tryz.prog [] 240 = some F240 := by kernel_rfl
def F241o0 : List AOper := [⟨some 2, .m (.box 98 (.t 0)), none⟩,⟨some 3, .t (.mv (.c (.bool false))), none⟩]
def F241o1 : List AOper := [⟨some 4, .t (.faddr 1 (.t 2)), none⟩,⟨some 5, .m (.load false 1 (.t 4)), none⟩,⟨some 6, .t (.faddr 1 (.t 1)), none⟩,⟨some 7, .m (.load false 1 (.t 6)), none⟩,⟨some 8, .t (.bin .eql (.t 5) (.t 7)), none⟩,⟨some 9, .t (.mv (.t 8)), none⟩,⟨some 10, .t (.faddr 0 (.t 2)), (some (9, false))⟩,
  ⟨some 11, .m (.load false 1 (.t 10)), (some (9, false))⟩,
  ⟨some 12, .t (.faddr 0 (.t 1)), (some (9, false))⟩,
  ⟨some 13, .m (.load false 1 (.t 12)), (some (9, false))⟩,
  ⟨some 14, .t (.bin .eql (.t 11) (.t 13)), (some (9, false))⟩,
  ⟨some 15, .t (.pick (.t 9) (.c (.bool true)) (.t 14)), none⟩,⟨some 3, .t (.mv (.t 15)), none⟩]
def F241c : ACode :=
(.seq (.ops F241o0 [1, 2])
((.seq (.ops F241o1 [3])
(.ret))))
def F241 : AFn := ⟨16, [.tmp 3], F241c⟩
theorem F241_ok : cFn Tryz.prog [] 241 = some F241 := by kernel_rfl
end Go.Proofs.YtbaaokocnegdoaaGreatDoor
