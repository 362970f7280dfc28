/- Functions of the program as the logic reads them, each with the proof that it is so read. -/
import Derived.Test.YtbaaokocnegdoaaGreatDoorProg
import Derived.Test.YtbaaokocnegdoaaGreatDoorCore5
import Derived.KernelRfl
set_option maxRecDepth 100000
namespace Go.Proofs.YtbaaokocnegdoaaGreatDoor
open Go Go.Ab
def F8o0 : List AOper := [⟨some 4, .t (.mv (.c (.bool false))), none⟩]
def F8o1 : List AOper := [⟨some 15, .t (.mv (.t 0)), none⟩,⟨some 16, .call (.c (.clo 25 [] [])) [(.t 15)], none⟩,⟨some 14, .t (.mv (.t 16)), none⟩,⟨some 17, .t (.ext (.t 14) 0), none⟩,⟨some 18, .t (.ext (.t 14) 1), none⟩,⟨some 5, .t (.mv (.t 17)), none⟩,⟨some 6, .t (.mv (.t 18)), none⟩]
def F8o2 : List AOper := [⟨some 20, .t (.mv (.t 5)), none⟩,⟨some 21, .t (.mv (.t 1)), none⟩,⟨some 22, .call (.c (.clo 26 [] [])) [(.t 20), (.t 21)], none⟩,⟨some 19, .t (.mv (.t 22)), none⟩,⟨some 23, .t (.ext (.t 19) 0), none⟩,⟨some 24, .t (.ext (.t 19) 1), none⟩,⟨some 7, .t (.mv (.t 23)), none⟩,⟨some 8, .t (.mv (.t 24)), none⟩]
def F8o3 : List AOper := [⟨some 26, .t (.mv (.t 6)), none⟩,⟨some 27, .t (.mv (.t 1)), none⟩,⟨some 28, .call (.c (.clo 27 [] [])) [(.t 26), (.t 27)], none⟩,⟨some 25, .t (.mv (.t 28)), none⟩,⟨some 29, .t (.ext (.t 25) 0), none⟩,⟨some 30, .t (.ext (.t 25) 1), none⟩,⟨some 9, .t (.mv (.t 29)), none⟩,⟨some 10, .t (.mv (.t 30)), none⟩]
def F8o4 : List AOper := [⟨some 31, .call (.c (.clo 14 [] [])) [], none⟩,⟨some 32, .t (.not (.t 31)), none⟩,⟨some 33, .t (.mv (.t 32)), none⟩,⟨some 34, .t (.mv (.t 7)), (some (33, false))⟩,
  ⟨some 35, .t (.mv (.t 9)), (some (33, false))⟩,
  ⟨some 36, .t (.bin .neq (.t 34) (.t 35)), (some (33, false))⟩,
  ⟨some 37, .t (.pick (.t 33) (.c (.bool true)) (.t 36)), none⟩,⟨some 38, .t (.mv (.t 37)), none⟩,⟨some 39, .t (.mv (.t 8)), (some (38, false))⟩,
  ⟨some 40, .t (.mv (.t 10)), (some (38, false))⟩,
  ⟨some 41, .t (.bin .neq (.t 39) (.t 40)), (some (38, false))⟩,
  ⟨some 42, .t (.pick (.t 38) (.c (.bool true)) (.t 41)), none⟩]
def F8o5 : List AOper := [⟨some 4, .t (.mv (.c (.bool false))), none⟩]
def F8o6 : List AOper := [⟨some 43, .t (.mv (.t 8)), none⟩,⟨some 44, .t (.bin .neq (.t 43) (.c (.int .i64 0))), none⟩]
def F8o7 : List AOper := [⟨some 4, .t (.mv (.c (.bool true))), none⟩]
def F8o8 : List AOper := [⟨some 46, .t (.mv (.t 7)), none⟩,⟨some 47, .t (.mv (.t 1)), none⟩,⟨some 48, .call (.c (.clo 28 [] [])) [(.t 46), (.t 47)], none⟩,⟨some 45, .t (.mv (.t 48)), none⟩,⟨some 49, .t (.ext (.t 45) 0), none⟩,⟨some 50, .t (.ext (.t 45) 1), none⟩,⟨some 51, .t (.ext (.t 45) 2), none⟩,⟨some 11, .t (.mv (.t 49)), none⟩,⟨some 12, .t (.mv (.t 50)), none⟩,⟨some 13, .t (.mv (.t 51)), none⟩]
def F8o9 : List AOper := [⟨some 52, .t (.mv (.t 13)), none⟩,⟨some 53, .t (.bin .eql (.t 52) (.c (.int .i64 0))), none⟩,⟨some 54, .t (.mv (.t 53)), none⟩,⟨some 55, .t (.mv (.t 12)), (some (54, true))⟩,
  ⟨some 56, .t (.bin .eql (.t 55) (.c (.int .i64 0))), (some (54, true))⟩,
  ⟨some 57, .t (.pick (.t 54) (.t 56) (.c (.bool false))), none⟩,⟨some 58, .t (.mv (.t 57)), none⟩,⟨some 59, .t (.mv (.t 11)), (some (58, true))⟩,
  ⟨some 60, .t (.mv (.t 6)), (some (58, true))⟩,
  ⟨some 61, .call (.c (.clo 29 [] [])) [(.t 59), (.t 60)], (some (58, true))⟩,
  ⟨some 62, .t (.pick (.t 58) (.t 61) (.c (.bool false))), none⟩,⟨some 4, .t (.mv (.t 62)), none⟩]
def F8c : ACode :=
(.seq (.ops F8o0 [0, 1])
((.seq (.ops F8o1 [1, 5, 6])
((.seq (.ops F8o2 [1, 6, 7, 8])
((.seq (.ops F8o3 [1, 6, 7, 8, 9, 10])
((.seq ((.seq (.ops F8o4 [1, 6, 7, 8, 42])
(.cond (.t 42)
((.seq (.ops F8o5 [4])
(.ret)))
(.skip))))
((.seq ((.seq (.ops F8o6 [1, 6, 7, 44])
(.cond (.t 44)
((.seq (.ops F8o7 [4])
(.ret)))
(.skip))))
((.seq (.ops F8o8 [6, 11, 12, 13])
((.seq (.ops F8o9 [4])
(.ret))))))))))))))))
def F8 : AFn := ⟨63, [.tmp 4], F8c⟩
theorem F8_ok : cFn Tryz.prog [] 8 = some F8 := by kernel_rfl
def F12o0 : List AOper := [⟨some 2, .m (.box 26 (.t 0)), none⟩,⟨some 4, .m (.alloc 31 [(.int .i64 0), (.int .i64 0), (.int .i64 0), (.str []), .nils, .nils]), none⟩,⟨some 5, .t (.mv (.c (.int .i64 0))), none⟩]
def F12o1 : List AOper := [⟨some 10, .m (.load true 7 (.t 2)), none⟩,⟨some 11, .call (.c (.clo 32 [] [])) [(.t 10)], none⟩,⟨some 12, .t (.not (.t 11)), none⟩]
def F12o2 : List AOper := [⟨some 13, .t (.build [(.int .i64 0), (.int .i64 0), (.int .i64 0), (.str []), .nils, .nils] []), none⟩,⟨none, .m (.store 6 (.t 4) (.t 13)), none⟩,⟨some 5, .t (.mv (.c (.int .i64 11))), none⟩]
def F12o3 : List AOper := [⟨some 14, .t (.faddr 0 (.t 2)), none⟩,⟨some 15, .m (.load false 1 (.t 14)), none⟩,⟨some 16, .t (.build [(.int .i64 0), (.int .i64 0), (.int .i64 0), (.str []), .nils, .nils] [(0, 1, (.t 15))]), none⟩,⟨some 6, .m (.alloc 31 [(.int .i64 0), (.int .i64 0), (.int .i64 0), (.str []), .nils, .nils]), none⟩,⟨none, .m (.store 6 (.t 6) (.t 16)), none⟩,⟨some 7, .t (.mv (.c (.bool true))), none⟩]
def F12o4 : List AOper := [⟨some 8, .t (.mv (.c (.int .i64 0))), none⟩]
def F12o5 : List AOper := [⟨some 17, .t (.faddr 0 (.t 2)), none⟩,⟨some 18, .m (.load false 1 (.t 17)), none⟩]
def F12o6 : List AOper := [⟨some 20, .t (.bin .eql (.t 18) (.c (.int .i64 1))), none⟩,⟨some 19, .t (.mv (.t 20)), none⟩]
def F12o7 : List AOper := [⟨some 21, .t (.mv (.t 1)), none⟩,⟨some 22, .t (.bin .eql (.t 21) (.c (.str [116, 114, 117, 101]))), none⟩]
def F12o8 : List AOper := [⟨some 23, .t (.faddr 1 (.t 6)), none⟩,⟨none, .m (.store 1 (.t 23) (.c (.int .i64 1))), none⟩]
def F12o9 : List AOper := [⟨some 24, .t (.mv (.t 1)), none⟩,⟨some 25, .t (.bin .eql (.t 24) (.c (.str [116, 114, 117, 101]))), none⟩,⟨some 26, .t (.mv (.t 25)), none⟩,⟨some 27, .t (.mv (.t 1)), (some (26, false))⟩,
  ⟨some 28, .t (.bin .eql (.t 27) (.c (.str [102, 97, 108, 115, 101]))), (some (26, false))⟩,
  ⟨some 29, .t (.pick (.t 26) (.c (.bool true)) (.t 28)), none⟩,⟨some 7, .t (.mv (.t 29)), none⟩]
def F12o10 : List AOper := [⟨some 31, .t (.bin .eql (.t 18) (.c (.int .i64 2))), none⟩,⟨some 30, .t (.mv (.t 31)), none⟩]
def F12o11 : List AOper := [⟨some 32, .t (.bin .eql (.t 18) (.c (.int .i64 3))), none⟩,⟨some 30, .t (.mv (.t 32)), none⟩]
def F12o12 : List AOper := [⟨some 9, .m (.alloc 71 [(.int .i64 0), (.int .i64 0)]), none⟩]
def F12o13 : List AOper := [⟨some 34, .t (.mv (.t 1)), none⟩,⟨some 35, .call (.c (.clo 33 [] [])) [(.t 34)], none⟩,⟨some 33, .t (.mv (.t 35)), none⟩,⟨some 36, .t (.ext (.t 33) 0), none⟩,⟨some 37, .t (.ext (.t 33) 1), none⟩,⟨none, .m (.store 2 (.t 9) (.t 36)), none⟩,⟨some 8, .t (.mv (.t 37)), none⟩]
def F12o14 : List AOper := [⟨some 38, .t (.faddr 0 (.t 9)), none⟩,⟨some 39, .m (.load false 1 (.t 38)), none⟩,⟨some 40, .t (.faddr 1 (.t 9)), none⟩,⟨some 41, .m (.load false 1 (.t 40)), none⟩,⟨some 42, .t (.faddr 1 (.t 6)), none⟩,⟨none, .m (.store 1 (.t 42) (.t 39)), none⟩]
def F12p14 : List AOper := [⟨some 43, .t (.faddr 2 (.t 6)), none⟩,⟨none, .m (.store 1 (.t 43) (.t 41)), none⟩]
def F12A14 : List (List Nat) := [[], [0], [], [2], [1, 0], [4, 1, 0], [3, 5, 2, 4, 1, 0], [6, 3, 5, 2, 4, 1, 0]]
def F12o15 : List AOper := [⟨some 44, .t (.faddr 0 (.t 2)), none⟩,⟨some 45, .m (.load false 1 (.t 44)), none⟩,⟨some 46, .t (.bin .eql (.t 45) (.c (.int .i64 3))), none⟩,⟨some 47, .t (.mv (.t 46)), none⟩,⟨some 48, .t (.faddr 1 (.t 9)), (some (47, false))⟩,
  ⟨some 49, .m (.load false 1 (.t 48)), (some (47, false))⟩,
  ⟨some 50, .t (.bin .eql (.t 49) (.c (.int .i64 0))), (some (47, false))⟩,
  ⟨some 51, .t (.pick (.t 47) (.c (.bool true)) (.t 50)), none⟩,⟨some 7, .t (.mv (.t 51)), none⟩]
def F12o16 : List AOper := [⟨some 53, .t (.bin .eql (.t 18) (.c (.int .i64 4))), none⟩,⟨some 52, .t (.mv (.t 53)), none⟩]
def F12o17 : List AOper := [⟨some 54, .t (.mv (.t 1)), none⟩,⟨some 55, .t (.faddr 3 (.t 6)), none⟩,⟨none, .m (.store 1 (.t 55) (.t 54)), none⟩]
def F12o18 : List AOper := [⟨some 57, .t (.bin .eql (.t 18) (.c (.int .i64 5))), none⟩,⟨some 56, .t (.mv (.t 57)), none⟩]
def F12o19 : List AOper := [⟨some 59, .t (.mv (.t 1)), none⟩,⟨some 60, .call (.c (.clo 34 [] [])) [(.t 59)], none⟩,⟨some 58, .t (.mv (.t 60)), none⟩,⟨some 61, .t (.ext (.t 58) 0), none⟩,⟨some 62, .t (.ext (.t 58) 1), none⟩,⟨some 63, .t (.faddr 3 (.t 6)), none⟩,⟨none, .m (.store 1 (.t 63) (.t 61)), none⟩,⟨some 7, .t (.mv (.t 62)), none⟩]
def F12o20 : List AOper := [⟨some 65, .t (.bin .eql (.t 18) (.c (.int .i64 6))), none⟩,⟨some 64, .t (.mv (.t 65)), none⟩]
def F12o21 : List AOper := [⟨some 67, .t (.mv (.t 1)), none⟩,⟨some 68, .call (.c (.clo 35 [] [])) [(.t 67)], none⟩,⟨some 66, .t (.mv (.t 68)), none⟩,⟨some 69, .t (.ext (.t 66) 0), none⟩,⟨some 70, .t (.ext (.t 66) 1), none⟩,⟨some 71, .t (.faddr 1 (.t 6)), none⟩,⟨none, .m (.store 1 (.t 71) (.t 69)), none⟩,⟨some 8, .t (.mv (.t 70)), none⟩]
def F12o22 : List AOper := [⟨some 73, .t (.bin .eql (.t 18) (.c (.int .i64 7))), none⟩,⟨some 72, .t (.mv (.t 73)), none⟩]
def F12o23 : List AOper := [⟨some 75, .t (.mv (.t 1)), none⟩,⟨some 76, .call (.c (.clo 36 [] [])) [(.t 75)], none⟩,⟨some 74, .t (.mv (.t 76)), none⟩,⟨some 77, .t (.ext (.t 74) 0), none⟩,⟨some 78, .t (.ext (.t 74) 1), none⟩,⟨some 79, .t (.faddr 1 (.t 6)), none⟩,⟨none, .m (.store 1 (.t 79) (.t 77)), none⟩,⟨some 8, .t (.mv (.t 78)), none⟩]
def F12o24 : List AOper := [⟨some 80, .t (.mv (.t 7)), none⟩,⟨some 81, .t (.not (.t 80)), none⟩,⟨some 82, .t (.mv (.t 81)), none⟩,⟨some 83, .t (.mv (.t 8)), (some (82, false))⟩,
  ⟨some 84, .t (.bin .neq (.t 83) (.c (.int .i64 0))), (some (82, false))⟩,
  ⟨some 85, .t (.pick (.t 82) (.c (.bool true)) (.t 84)), none⟩]
def F12o25 : List AOper := [⟨some 86, .t (.build [(.int .i64 0), (.int .i64 0), (.int .i64 0), (.str []), .nils, .nils] []), none⟩,⟨none, .m (.store 6 (.t 4) (.t 86)), none⟩,⟨some 5, .t (.mv (.c (.int .i64 13))), none⟩]
def F12o26 : List AOper := [⟨some 87, .m (.load true 7 (.t 2)), none⟩,⟨some 88, .m (.load true 6 (.t 6)), none⟩,⟨some 89, .call (.c (.clo 37 [] [])) [(.t 87), (.t 88)], none⟩,⟨some 90, .t (.not (.t 89)), none⟩]
def F12o27 : List AOper := [⟨some 91, .t (.build [(.int .i64 0), (.int .i64 0), (.int .i64 0), (.str []), .nils, .nils] []), none⟩,⟨none, .m (.store 6 (.t 4) (.t 91)), none⟩,⟨some 5, .t (.mv (.c (.int .i64 18))), none⟩]
def F12o28 : List AOper := [⟨some 92, .m (.load true 6 (.t 6)), none⟩,⟨none, .m (.store 6 (.t 4) (.t 92)), none⟩,⟨some 5, .t (.mv (.c (.int .i64 0))), none⟩]
def F12c : ACode :=
(.seq (.ops F12o0 [1, 2, 4])
((.seq ((.seq (.ops F12o1 [1, 2, 4, 12])
(.cond (.t 12)
((.seq (.ops F12o2 [4, 5])
(.ret)))
(.skip))))
((.seq (.ops F12o3 [1, 2, 4, 6, 7])
((.seq (.ops F12o4 [1, 2, 4, 6, 7, 8])
((.seq ((.seq (.ops F12o5 [1, 2, 4, 6, 7, 8, 18])
(.block 0 ((.seq (.ops F12o6 [1, 2, 4, 6, 7, 8, 18, 19])
(.cond (.t 19)
((.seq ((.seq (.ops F12o7 [1, 2, 4, 6, 8, 22])
(.cond (.t 22)
(.ops F12o8 [1, 2, 4, 6, 8])
(.skip))))
(.ops F12o9 [2, 4, 6, 7, 8])))
((.seq ((.seq (.ops F12o10 [1, 2, 4, 6, 7, 8, 18, 30])
(.cond (.t 30)
(.skip)
(.ops F12o11 [1, 2, 4, 6, 7, 8, 18, 30]))))
(.cond (.t 30)
((.seq (.ops F12o12 [1, 2, 4, 6, 9])
((.seq (.ops F12o13 [2, 4, 6, 8, 9])
((.seq (.draw F12A14 F12o14 F12p14 [2, 4, 6, 8, 9])
(.ops F12o15 [2, 4, 6, 7, 8])))))))
((.seq (.ops F12o16 [1, 2, 4, 6, 7, 8, 18, 52])
(.cond (.t 52)
(.ops F12o17 [2, 4, 6, 7, 8])
((.seq (.ops F12o18 [1, 2, 4, 6, 7, 8, 18, 56])
(.cond (.t 56)
(.ops F12o19 [2, 4, 6, 7, 8])
((.seq (.ops F12o20 [1, 2, 4, 6, 7, 8, 18, 64])
(.cond (.t 64)
(.ops F12o21 [2, 4, 6, 7, 8])
((.seq (.ops F12o22 [1, 2, 4, 6, 7, 8, 72])
(.cond (.t 72)
(.ops F12o23 [2, 4, 6, 7, 8])
(.skip))))))))))))))))))))))
((.seq ((.seq (.ops F12o24 [2, 4, 6, 85])
(.cond (.t 85)
((.seq (.ops F12o25 [4, 5])
(.ret)))
(.skip))))
((.seq ((.seq (.ops F12o26 [4, 6, 90])
(.cond (.t 90)
((.seq (.ops F12o27 [4, 5])
(.ret)))
(.skip))))
((.seq (.ops F12o28 [4, 5])
(.ret))))))))))))))))
def F12 : AFn := ⟨93, [.cell 4 true 6, .tmp 5], F12c⟩
theorem F12_ok : cFn Tryz.prog [] 12 = some F12 := by kernel_rfl
def F14o0 : List AOper := [⟨some 0, .t (.mv (.c (.bool false))), none⟩]
def F14o1 : List AOper := [⟨some 10, .t (.build [(.int .i64 0), (.int .i64 0), (.int .i64 0), (.str []), .nils, .nils] [(0, 1, (.c (.int .i64 6))), (1, 1, (.c (.int .i64 19782)))]), none⟩,⟨some 11, .t (.build [(.str []), (.int .i64 0), (.int .i64 0), (.int .i64 0), (.str []), .nils, .nils] [(0, 1, (.c (.str [100, 117, 101]))), (1, 6, (.t 10))]), none⟩,⟨some 12, .t (.build [(.int .i64 0), (.int .i64 0), (.int .i64 0), (.str []), .nils, .nils] [(0, 1, (.c (.int .i64 2))), (1, 1, (.c (.int .i64 7)))]), none⟩,⟨some 13, .t (.build [(.str []), (.int .i64 0), (.int .i64 0), (.int .i64 0), (.str []), .nils, .nils] [(0, 1, (.c (.str [105, 100]))), (1, 6, (.t 12))]), none⟩,⟨some 14, .m (.bslice false 83 7 2 [(.t 11), (.t 13)]), none⟩,⟨some 15, .t (.build [(.int .i64 0), (.int .i64 0), (.int .i64 0), (.str []), .nils, .nils] [(0, 1, (.c (.int .i64 9))), (5, 1, (.t 14))]), none⟩,⟨some 1, .m (.alloc 31 [(.int .i64 0), (.int .i64 0), (.int .i64 0), (.str []), .nils, .nils]), none⟩,⟨none, .m (.store 6 (.t 1) (.t 15)), none⟩]
def F14o2 : List AOper := [⟨some 17, .call (.c (.clo 40 [] [])) [], none⟩,⟨some 18, .m (.load true 6 (.t 1)), none⟩,⟨some 19, .call (.c (.clo 20 [] [])) [(.t 17), (.c (.int .i64 44)), (.t 18)], none⟩,⟨some 16, .t (.mv (.t 19)), none⟩,⟨some 20, .t (.ext (.t 16) 0), none⟩,⟨some 21, .t (.ext (.t 16) 1), none⟩,⟨some 2, .t (.mv (.t 20)), none⟩]
def F14p2 : List AOper := [⟨some 3, .t (.mv (.t 21)), none⟩]
def F14A2 : List (List Nat) := [[], [], [1, 0], [2, 1, 0], [3, 2, 1, 0], [3, 2, 1, 0], [4, 3, 2, 1, 0], [5, 6, 4, 3, 2, 1, 0]]
def F14o3 : List AOper := [⟨some 23, .call (.c (.clo 40 [] [])) [], none⟩,⟨some 24, .t (.mv (.t 2)), none⟩,⟨some 25, .call (.c (.clo 22 [] [])) [(.t 23), (.c (.int .i64 44)), (.t 24)], none⟩,⟨some 22, .t (.mv (.t 25)), none⟩,⟨some 26, .t (.ext (.t 22) 0), none⟩,⟨some 27, .t (.ext (.t 22) 1), none⟩,⟨some 28, .t (.ext (.t 22) 2), none⟩,⟨some 4, .m (.alloc 31 [(.int .i64 0), (.int .i64 0), (.int .i64 0), (.str []), .nils, .nils]), none⟩,⟨none, .m (.store 6 (.t 4) (.t 26)), none⟩,⟨some 5, .t (.mv (.t 27)), none⟩,⟨some 6, .t (.mv (.t 28)), none⟩]
def F14o4 : List AOper := [⟨some 30, .call (.c (.clo 40 [] [])) [], none⟩,⟨some 31, .call (.c (.clo 22 [] [])) [(.t 30), (.c (.int .i64 44)), (.c (.str [55, 44, 120]))], none⟩,⟨some 29, .t (.mv (.t 31)), none⟩,⟨some 32, .t (.ext (.t 29) 0), none⟩,⟨some 33, .t (.ext (.t 29) 1), none⟩,⟨some 34, .t (.ext (.t 29) 2), none⟩,⟨some 7, .m (.alloc 31 [(.int .i64 0), (.int .i64 0), (.int .i64 0), (.str []), .nils, .nils]), none⟩,⟨none, .m (.store 6 (.t 7) (.t 32)), none⟩,⟨some 8, .t (.mv (.t 33)), none⟩,⟨some 9, .t (.mv (.t 34)), none⟩]
def F14o5 : List AOper := [⟨some 35, .t (.mv (.t 3)), none⟩,⟨some 36, .t (.bin .eql (.t 35) (.c (.int .i64 0))), none⟩,⟨some 37, .t (.mv (.t 36)), none⟩,⟨some 38, .t (.mv (.t 2)), (some (37, true))⟩,
  ⟨some 39, .t (.bin .eql (.t 38) (.c (.str [55, 44, 44, 50, 48, 50, 52, 45, 48, 50, 45, 50, 57]))), (some (37, true))⟩,
  ⟨some 40, .t (.pick (.t 37) (.t 39) (.c (.bool false))), none⟩,⟨some 41, .t (.mv (.t 40)), none⟩,⟨some 42, .t (.mv (.t 6)), (some (41, true))⟩,
  ⟨some 43, .t (.bin .eql (.t 42) (.c (.int .i64 0))), (some (41, true))⟩,
  ⟨some 44, .t (.pick (.t 41) (.t 43) (.c (.bool false))), none⟩,⟨some 45, .t (.mv (.t 44)), none⟩,⟨some 46, .t (.mv (.t 5)), (some (45, true))⟩,
  ⟨some 47, .t (.bin .eql (.t 46) (.c (.int .i64 0))), (some (45, true))⟩,
  ⟨some 48, .t (.pick (.t 45) (.t 47) (.c (.bool false))), none⟩,⟨some 49, .t (.mv (.t 48)), none⟩,⟨some 50, .m (.load true 6 (.t 1)), (some (49, true))⟩,
  ⟨some 51, .m (.load true 6 (.t 4)), (some (49, true))⟩,
  ⟨some 52, .call (.c (.clo 15 [] [])) [(.t 50), (.t 51)], (some (49, true))⟩,
  ⟨some 53, .t (.pick (.t 49) (.t 52) (.c (.bool false))), none⟩,⟨some 54, .t (.mv (.t 53)), none⟩,⟨some 55, .t (.mv (.t 9)), (some (54, true))⟩,
  ⟨some 56, .t (.bin .eql (.t 55) (.c (.int .i64 4))), (some (54, true))⟩,
  ⟨some 57, .t (.pick (.t 54) (.t 56) (.c (.bool false))), none⟩,⟨some 58, .t (.mv (.t 57)), none⟩,⟨some 59, .t (.mv (.t 8)), (some (58, true))⟩,
  ⟨some 60, .t (.bin .eql (.t 59) (.c (.int .i64 3))), (some (58, true))⟩,
  ⟨some 61, .t (.pick (.t 58) (.t 60) (.c (.bool false))), none⟩,⟨some 0, .t (.mv (.t 61)), none⟩]
def F14c : ACode :=
(.seq (.ops F14o0 [])
((.seq (.ops F14o1 [1])
((.seq (.draw F14A2 F14o2 F14p2 [1, 2, 3])
((.seq (.ops F14o3 [1, 2, 3, 4, 5, 6])
((.seq (.ops F14o4 [1, 2, 3, 4, 5, 6, 8, 9])
((.seq (.ops F14o5 [0])
(.ret))))))))))))
def F14 : AFn := ⟨62, [.tmp 0], F14c⟩
theorem F14_ok : cFn Tryz.prog [] 14 = some F14 := by kernel_rfl
def F15o0 : List AOper := [⟨some 2, .m (.box 31 (.t 0)), none⟩,⟨some 3, .m (.box 31 (.t 1)), none⟩,⟨some 4, .t (.mv (.c (.bool false))), none⟩]
def F15o1 : List AOper := [⟨some 7, .t (.faddr 0 (.t 2)), none⟩,⟨some 8, .m (.load false 1 (.t 7)), none⟩,⟨some 9, .t (.faddr 0 (.t 3)), none⟩,⟨some 10, .m (.load false 1 (.t 9)), none⟩,⟨some 11, .t (.bin .neq (.t 8) (.t 10)), none⟩,⟨some 12, .t (.mv (.t 11)), none⟩,⟨some 13, .t (.faddr 1 (.t 2)), (some (12, false))⟩,
  ⟨some 14, .m (.load false 1 (.t 13)), (some (12, false))⟩,
  ⟨some 15, .t (.faddr 1 (.t 3)), (some (12, false))⟩,
  ⟨some 16, .m (.load false 1 (.t 15)), (some (12, false))⟩,
  ⟨some 17, .t (.bin .neq (.t 14) (.t 16)), (some (12, false))⟩,
  ⟨some 18, .t (.pick (.t 12) (.c (.bool true)) (.t 17)), none⟩,⟨some 19, .t (.mv (.t 18)), none⟩,⟨some 20, .t (.faddr 2 (.t 2)), (some (19, false))⟩,
  ⟨some 21, .m (.load false 1 (.t 20)), (some (19, false))⟩,
  ⟨some 22, .t (.faddr 2 (.t 3)), (some (19, false))⟩,
  ⟨some 23, .m (.load false 1 (.t 22)), (some (19, false))⟩,
  ⟨some 24, .t (.bin .neq (.t 21) (.t 23)), (some (19, false))⟩,
  ⟨some 25, .t (.pick (.t 19) (.c (.bool true)) (.t 24)), none⟩,⟨some 26, .t (.mv (.t 25)), none⟩,⟨some 27, .t (.faddr 3 (.t 2)), (some (26, false))⟩,
  ⟨some 28, .m (.load false 1 (.t 27)), (some (26, false))⟩,
  ⟨some 29, .t (.faddr 3 (.t 3)), (some (26, false))⟩,
  ⟨some 30, .m (.load false 1 (.t 29)), (some (26, false))⟩,
  ⟨some 31, .t (.bin .neq (.t 28) (.t 30)), (some (26, false))⟩,
  ⟨some 32, .t (.pick (.t 26) (.c (.bool true)) (.t 31)), none⟩,⟨some 33, .t (.mv (.t 32)), none⟩,⟨some 34, .t (.faddr 4 (.t 2)), (some (33, false))⟩,
  ⟨some 35, .m (.load false 1 (.t 34)), (some (33, false))⟩,
  ⟨some 36, .t (.len false (.t 35)), (some (33, false))⟩,
  ⟨some 37, .t (.faddr 4 (.t 3)), (some (33, false))⟩,
  ⟨some 38, .m (.load false 1 (.t 37)), (some (33, false))⟩,
  ⟨some 39, .t (.len false (.t 38)), (some (33, false))⟩,
  ⟨some 40, .t (.bin .neq (.t 36) (.t 39)), (some (33, false))⟩,
  ⟨some 41, .t (.pick (.t 33) (.c (.bool true)) (.t 40)), none⟩,⟨some 42, .t (.mv (.t 41)), none⟩,⟨some 43, .t (.faddr 5 (.t 2)), (some (42, false))⟩,
  ⟨some 44, .m (.load false 1 (.t 43)), (some (42, false))⟩,
  ⟨some 45, .t (.len false (.t 44)), (some (42, false))⟩,
  ⟨some 46, .t (.faddr 5 (.t 3)), (some (42, false))⟩,
  ⟨some 47, .m (.load false 1 (.t 46)), (some (42, false))⟩,
  ⟨some 48, .t (.len false (.t 47)), (some (42, false))⟩,
  ⟨some 49, .t (.bin .neq (.t 45) (.t 48)), (some (42, false))⟩,
  ⟨some 50, .t (.pick (.t 42) (.c (.bool true)) (.t 49)), none⟩]
def F15o2 : List AOper := [⟨some 4, .t (.mv (.c (.bool false))), none⟩]
def F15o3 : List AOper := [⟨some 5, .t (.mv (.c (.int .i64 0))), none⟩]
def F15o4 : List AOper := [⟨some 51, .t (.mv (.t 5)), none⟩,⟨some 52, .t (.faddr 4 (.t 2)), none⟩,⟨some 53, .m (.load false 1 (.t 52)), none⟩,⟨some 54, .t (.len false (.t 53)), none⟩,⟨some 55, .t (.bin .lss (.t 51) (.t 54)), none⟩]
def F15o5 : List AOper := [⟨some 58, .t (.faddr 4 (.t 2)), none⟩,⟨some 59, .m (.load false 1 (.t 58)), none⟩,⟨some 60, .t (.mv (.t 5)), none⟩,⟨some 61, .t (.iaddr 6 (.t 59) (.t 60)), none⟩,⟨some 62, .m (.load true 6 (.t 61)), none⟩,⟨some 63, .t (.faddr 4 (.t 3)), none⟩,⟨some 64, .m (.load false 1 (.t 63)), none⟩,⟨some 65, .t (.mv (.t 5)), none⟩,⟨some 66, .t (.iaddr 6 (.t 64) (.t 65)), none⟩,⟨some 67, .m (.load true 6 (.t 66)), none⟩]
def F15p5 : List AOper := [⟨some 68, .call (.c (.clo 15 [] [])) [(.t 62), (.t 67)], none⟩,⟨some 69, .t (.not (.t 68)), none⟩]
def F15A5 : List (List Nat) := [[], [0], [], [1, 2, 0], [3, 1, 2, 0], [], [5], [], [6, 7, 5], [8, 6, 7, 5], [4, 9, 3, 1, 2, 0, 8, 6, 7, 5], [10, 4, 9, 3, 1, 2, 0, 8, 6, 7, 5]]
def F15o6 : List AOper := [⟨some 4, .t (.mv (.c (.bool false))), none⟩]
def F15o7 : List AOper := [⟨some 56, .t (.mv (.t 5)), none⟩,⟨some 57, .t (.bin .add (.t 56) (.c (.int .i64 1))), none⟩,⟨some 5, .t (.mv (.t 57)), none⟩]
def F15b8 : ACode :=
(.seq ((.seq (.ops F15o4 [2, 3, 5, 55])
(.cond (.t 55)
(.skip)
(.exit 0))))
((.seq (.block 1 ((.seq (.draw F15A5 F15o5 F15p5 [2, 3, 5, 69])
(.cond (.t 69)
((.seq (.ops F15o6 [4])
(.ret)))
(.skip)))))
(.ops F15o7 [2, 3, 5]))))
def F15o9 : List AOper := [⟨some 6, .t (.mv (.c (.int .i64 0))), none⟩]
def F15o10 : List AOper := [⟨some 70, .t (.mv (.t 6)), none⟩,⟨some 71, .t (.faddr 5 (.t 2)), none⟩,⟨some 72, .m (.load false 1 (.t 71)), none⟩,⟨some 73, .t (.len false (.t 72)), none⟩,⟨some 74, .t (.bin .lss (.t 70) (.t 73)), none⟩]
def F15o11 : List AOper := [⟨some 77, .t (.faddr 5 (.t 2)), none⟩,⟨some 78, .m (.load false 1 (.t 77)), none⟩,⟨some 79, .t (.mv (.t 6)), none⟩,⟨some 80, .t (.iaddr 7 (.t 78) (.t 79)), none⟩,⟨some 81, .t (.faddr 0 (.t 80)), none⟩,⟨some 82, .m (.load false 1 (.t 81)), none⟩,⟨some 83, .t (.faddr 5 (.t 3)), none⟩,⟨some 84, .m (.load false 1 (.t 83)), none⟩,⟨some 85, .t (.mv (.t 6)), none⟩,⟨some 86, .t (.iaddr 7 (.t 84) (.t 85)), none⟩,⟨some 87, .t (.faddr 0 (.t 86)), none⟩,⟨some 88, .m (.load false 1 (.t 87)), none⟩,⟨some 89, .t (.bin .neq (.t 82) (.t 88)), none⟩,⟨some 90, .t (.mv (.t 89)), none⟩,⟨some 91, .t (.faddr 5 (.t 2)), (some (90, false))⟩,
  ⟨some 92, .m (.load false 1 (.t 91)), (some (90, false))⟩,
  ⟨some 93, .t (.mv (.t 6)), (some (90, false))⟩,
  ⟨some 94, .t (.iaddr 7 (.t 92) (.t 93)), (some (90, false))⟩,
  ⟨some 95, .t (.faddr 1 (.t 94)), (some (90, false))⟩,
  ⟨some 96, .m (.load true 6 (.t 95)), (some (90, false))⟩,
  ⟨some 97, .t (.faddr 5 (.t 3)), (some (90, false))⟩,
  ⟨some 98, .m (.load false 1 (.t 97)), (some (90, false))⟩,
  ⟨some 99, .t (.mv (.t 6)), (some (90, false))⟩,
  ⟨some 100, .t (.iaddr 7 (.t 98) (.t 99)), (some (90, false))⟩,
  ⟨some 101, .t (.faddr 1 (.t 100)), (some (90, false))⟩,
  ⟨some 102, .m (.load true 6 (.t 101)), (some (90, false))⟩]
def F15p11 : List AOper := [⟨some 103, .call (.c (.clo 15 [] [])) [(.t 96), (.t 102)], (some (90, false))⟩,
  ⟨some 104, .t (.not (.t 103)), (some (90, false))⟩,
  ⟨some 105, .t (.pick (.t 90) (.c (.bool true)) (.t 104)), none⟩]
def F15A11 : List (List Nat) := [[], [0], [], [1, 2, 0], [3, 1, 2, 0], [4, 3, 1, 2, 0], [], [6], [], [7, 8, 6], [9, 7, 8, 6], [10, 9, 7, 8, 6], [5, 11, 4, 3, 1, 2, 0, 10, 9, 7, 8, 6], [12, 5, 11, 4, 3, 1, 2, 0, 10, 9, 7, 8, 6], [13, 12, 5, 11, 4, 3, 1, 2, 0, 10, 9, 7, 8, 6], [14, 13, 12, 5, 11, 4, 3, 1, 2, 0, 10, 9, 7, 8, 6], [13, 12, 5, 11, 4, 3, 1, 2, 0, 10, 9, 7, 8, 6], [15, 16, 14, 13, 12, 5, 11, 4, 3, 1, 2, 0, 10, 9, 7, 8, 6], [17, 15, 16, 14, 13, 12, 5, 11, 4, 3, 1, 2, 0, 10, 9, 7, 8, 6], [18, 17, 15, 16, 14, 13, 12, 5, 11, 4, 3, 1, 2, 0, 10, 9, 7, 8, 6], [13, 12, 5, 11, 4, 3, 1, 2, 0, 10, 9, 7, 8, 6], [20, 13, 12, 5, 11, 4, 3, 1, 2, 0, 10, 9, 7, 8, 6], [13, 12, 5, 11, 4, 3, 1, 2, 0, 10, 9, 7, 8, 6], [21, 22, 20, 13, 12, 5, 11, 4, 3, 1, 2, 0, 10, 9, 7, 8, 6], [23, 21, 22, 20, 13, 12, 5, 11, 4, 3, 1, 2, 0, 10, 9, 7, 8, 6], [24, 23, 21, 22, 20, 13, 12, 5, 11, 4, 3, 1, 2, 0, 10, 9, 7, 8, 6], [19, 25, 18, 17, 15, 16, 14, 24, 23, 21, 22, 20, 13, 12, 5, 11, 4, 3, 1, 2, 0, 10, 9, 7, 8, 6], [26, 19, 25, 18, 17, 15, 16, 14, 24, 23, 21, 22, 20, 13, 12, 5, 11, 4, 3, 1, 2, 0, 10, 9, 7, 8, 6], [27, 26, 19, 25, 18, 17, 15, 16, 14, 24, 23, 21, 22, 20, 13, 12, 5, 11, 4, 3, 1, 2, 0, 10, 9, 7, 8, 6]]
def F15o12 : List AOper := [⟨some 4, .t (.mv (.c (.bool false))), none⟩]
def F15o13 : List AOper := [⟨some 75, .t (.mv (.t 6)), none⟩,⟨some 76, .t (.bin .add (.t 75) (.c (.int .i64 1))), none⟩,⟨some 6, .t (.mv (.t 76)), none⟩]
def F15b14 : ACode :=
(.seq ((.seq (.ops F15o10 [2, 3, 6, 74])
(.cond (.t 74)
(.skip)
(.exit 2))))
((.seq (.block 3 ((.seq (.draw F15A11 F15o11 F15p11 [2, 3, 6, 105])
(.cond (.t 105)
((.seq (.ops F15o12 [4])
(.ret)))
(.skip)))))
(.ops F15o13 [2, 3, 6]))))
def F15o15 : List AOper := [⟨some 4, .t (.mv (.c (.bool true))), none⟩]
def F15c : ACode :=
(.seq (.ops F15o0 [2, 3])
((.seq ((.seq (.ops F15o1 [2, 3, 50])
(.cond (.t 50)
((.seq (.ops F15o2 [4])
(.ret)))
(.skip))))
((.seq ((.seq (.ops F15o3 [2, 3, 5])
(.block 0 (.loop [2, 3, 5] F15b8))))
((.seq ((.seq (.ops F15o9 [2, 3, 6])
(.block 2 (.loop [2, 3, 6] F15b14))))
((.seq (.ops F15o15 [4])
(.ret))))))))))
def F15 : AFn := ⟨106, [.tmp 4], F15c⟩
theorem F15_ok : cFn Tryz.prog [] 15 = some F15 := by kernel_rfl
def F16o0 : List AOper := [⟨some 2, .m (.box 26 (.t 0)), none⟩,⟨some 3, .m (.box 31 (.t 1)), none⟩,⟨some 4, .t (.mv (.c (.str []))), none⟩,⟨some 5, .t (.mv (.c (.int .i64 0))), none⟩]
def F16o1 : List AOper := [⟨some 11, .m (.load true 7 (.t 2)), none⟩,⟨some 12, .call (.c (.clo 32 [] [])) [(.t 11)], none⟩,⟨some 13, .t (.not (.t 12)), none⟩,⟨some 10, .t (.mv (.t 13)), none⟩]
def F16o2 : List AOper := [⟨some 4, .t (.mv (.c (.str []))), none⟩,⟨some 5, .t (.mv (.c (.int .i64 11))), none⟩]
def F16o3 : List AOper := [⟨some 15, .m (.load true 7 (.t 2)), none⟩,⟨some 16, .m (.load true 6 (.t 3)), none⟩,⟨some 17, .call (.c (.clo 37 [] [])) [(.t 15), (.t 16)], none⟩,⟨some 18, .t (.not (.t 17)), none⟩,⟨some 14, .t (.mv (.t 18)), none⟩]
def F16o4 : List AOper := [⟨some 4, .t (.mv (.c (.str []))), none⟩,⟨some 5, .t (.mv (.c (.int .i64 18))), none⟩]
def F16o5 : List AOper := [⟨some 19, .t (.faddr 3 (.t 3)), none⟩,⟨some 20, .m (.load false 1 (.t 19)), none⟩,⟨some 6, .t (.mv (.t 20)), none⟩,⟨some 7, .t (.mv (.c (.int .i64 0))), none⟩]
def F16o6 : List AOper := [⟨some 21, .t (.faddr 0 (.t 2)), none⟩,⟨some 22, .m (.load false 1 (.t 21)), none⟩]
def F16o7 : List AOper := [⟨some 24, .t (.bin .eql (.t 22) (.c (.int .i64 1))), none⟩,⟨some 23, .t (.mv (.t 24)), none⟩]
def F16o8 : List AOper := [⟨some 25, .t (.faddr 1 (.t 3)), none⟩,⟨some 26, .m (.load false 1 (.t 25)), none⟩,⟨some 27, .t (.bin .eql (.t 26) (.c (.int .i64 1))), none⟩,⟨some 28, .call (.c (.clo 41 [] [])) [(.t 27)], none⟩,⟨some 6, .t (.mv (.t 28)), none⟩]
def F16o9 : List AOper := [⟨some 30, .t (.bin .eql (.t 22) (.c (.int .i64 2))), none⟩,⟨some 29, .t (.mv (.t 30)), none⟩]
def F16o10 : List AOper := [⟨some 31, .t (.bin .eql (.t 22) (.c (.int .i64 3))), none⟩,⟨some 29, .t (.mv (.t 31)), none⟩]
def F16o11 : List AOper := [⟨some 33, .t (.faddr 1 (.t 3)), none⟩,⟨some 34, .m (.load false 1 (.t 33)), none⟩,⟨some 35, .t (.faddr 2 (.t 3)), none⟩,⟨some 36, .m (.load false 1 (.t 35)), none⟩,⟨some 37, .t (.build [(.int .i64 0), (.int .i64 0)] [(0, 1, (.t 34)), (1, 1, (.t 36))]), none⟩,⟨some 38, .call (.c (.clo 42 [] [])) [(.t 37)], none⟩,⟨some 32, .t (.mv (.t 38)), none⟩,⟨some 39, .t (.ext (.t 32) 0), none⟩,⟨some 40, .t (.ext (.t 32) 1), none⟩,⟨some 6, .t (.mv (.t 39)), none⟩,⟨some 7, .t (.mv (.t 40)), none⟩]
def F16o12 : List AOper := [⟨some 42, .t (.bin .eql (.t 22) (.c (.int .i64 5))), none⟩,⟨some 41, .t (.mv (.t 42)), none⟩]
def F16o13 : List AOper := [⟨some 8, .m (.alloc 89 [.nilp, .nils]), none⟩]
def F16o14 : List AOper := [⟨some 43, .t (.faddr 3 (.t 3)), none⟩,⟨some 44, .m (.load false 1 (.t 43)), none⟩,⟨some 45, .t (.len true (.t 44)), none⟩,⟨some 46, .t (.mv (.c (.int .i64 0))), none⟩]
def F16o15 : List AOper := [⟨some 47, .t (.bin .lss (.t 46) (.t 45)), none⟩]
def F16o16 : List AOper := [⟨some 48, .t (.mv (.t 46)), none⟩,⟨some 9, .t (.mv (.t 48)), none⟩]
def F16o17 : List AOper := [⟨some 49, .t (.faddr 3 (.t 3)), none⟩,⟨some 50, .m (.load false 1 (.t 49)), none⟩,⟨some 51, .t (.mv (.t 9)), none⟩,⟨some 52, .t (.index (.t 50) (.t 51)), none⟩,⟨some 53, .t (.bin .shr (.t 52) (.c (.int .u64 4))), none⟩,⟨some 54, .t (.index (.c (.str [48, 49, 50, 51, 52, 53, 54, 55, 56, 57, 97, 98, 99, 100, 101, 102])) (.t 53)), none⟩,⟨some 55, .call (.c (.clo 43 [] [])) [(.t 8), (.t 54)], none⟩]
def F16o18 : List AOper := [⟨some 56, .t (.faddr 3 (.t 3)), none⟩,⟨some 57, .m (.load false 1 (.t 56)), none⟩,⟨some 58, .t (.mv (.t 9)), none⟩,⟨some 59, .t (.index (.t 57) (.t 58)), none⟩,⟨some 60, .t (.bin .and (.t 59) (.c (.int .u8 15))), none⟩,⟨some 61, .t (.index (.c (.str [48, 49, 50, 51, 52, 53, 54, 55, 56, 57, 97, 98, 99, 100, 101, 102])) (.t 60)), none⟩,⟨some 62, .call (.c (.clo 43 [] [])) [(.t 8), (.t 61)], none⟩]
def F16o19 : List AOper := [⟨some 63, .t (.bin .add (.t 46) (.c (.int .i64 1))), none⟩,⟨some 46, .t (.mv (.t 63)), none⟩]
def F16b20 : ACode :=
(.seq (.ops F16o15 [3, 7, 8, 45, 46, 47])
((.seq (.cond (.t 47)
(.skip)
(.exit 2))
((.seq (.block 3 ((.seq (.ops F16o16 [3, 7, 8, 9, 45, 46])
((.seq (.ops F16o17 [3, 7, 8, 9, 45, 46])
(.ops F16o18 [3, 7, 8, 45, 46]))))))
(.ops F16o19 [3, 7, 8, 45, 46]))))))
def F16o21 : List AOper := [⟨some 64, .call (.c (.clo 44 [] [])) [(.t 8)], none⟩,⟨some 6, .t (.mv (.t 64)), none⟩]
def F16o22 : List AOper := [⟨some 66, .t (.bin .eql (.t 22) (.c (.int .i64 6))), none⟩,⟨some 65, .t (.mv (.t 66)), none⟩]
def F16o23 : List AOper := [⟨some 68, .t (.faddr 1 (.t 3)), none⟩,⟨some 69, .m (.load false 1 (.t 68)), none⟩,⟨some 70, .call (.c (.clo 45 [] [])) [(.t 69)], none⟩,⟨some 67, .t (.mv (.t 70)), none⟩,⟨some 71, .t (.ext (.t 67) 0), none⟩,⟨some 72, .t (.ext (.t 67) 1), none⟩,⟨some 6, .t (.mv (.t 71)), none⟩,⟨some 7, .t (.mv (.t 72)), none⟩]
def F16o24 : List AOper := [⟨some 74, .t (.bin .eql (.t 22) (.c (.int .i64 7))), none⟩,⟨some 73, .t (.mv (.t 74)), none⟩]
def F16o25 : List AOper := [⟨some 76, .t (.faddr 1 (.t 3)), none⟩,⟨some 77, .m (.load false 1 (.t 76)), none⟩,⟨some 78, .call (.c (.clo 46 [] [])) [(.t 77)], none⟩,⟨some 75, .t (.mv (.t 78)), none⟩,⟨some 79, .t (.ext (.t 75) 0), none⟩,⟨some 80, .t (.ext (.t 75) 1), none⟩,⟨some 6, .t (.mv (.t 79)), none⟩,⟨some 7, .t (.mv (.t 80)), none⟩]
def F16o26 : List AOper := [⟨some 81, .t (.mv (.t 7)), none⟩,⟨some 82, .t (.bin .neq (.t 81) (.c (.int .i64 0))), none⟩]
def F16o27 : List AOper := [⟨some 4, .t (.mv (.c (.str []))), none⟩,⟨some 5, .t (.mv (.c (.int .i64 18))), none⟩]
def F16o28 : List AOper := [⟨some 83, .t (.mv (.t 6)), none⟩,⟨some 4, .t (.mv (.t 83)), none⟩,⟨some 5, .t (.mv (.c (.int .i64 0))), none⟩]
def F16c : ACode :=
(.seq (.ops F16o0 [2, 3])
((.seq (.block 0 ((.seq (.ops F16o1 [2, 3, 10])
(.cond (.t 10)
((.seq (.ops F16o2 [4, 5])
(.ret)))
((.seq (.ops F16o3 [2, 3, 14])
(.cond (.t 14)
((.seq (.ops F16o4 [4, 5])
(.ret)))
(.skip))))))))
((.seq (.ops F16o5 [2, 3, 6, 7])
((.seq ((.seq (.ops F16o6 [3, 6, 7, 22])
(.block 1 ((.seq (.ops F16o7 [3, 6, 7, 22, 23])
(.cond (.t 23)
(.ops F16o8 [6, 7])
((.seq ((.seq (.ops F16o9 [3, 6, 7, 22, 29])
(.cond (.t 29)
(.skip)
(.ops F16o10 [3, 6, 7, 22, 29]))))
(.cond (.t 29)
(.ops F16o11 [6, 7])
((.seq (.ops F16o12 [3, 6, 7, 22, 41])
(.cond (.t 41)
((.seq (.ops F16o13 [3, 7, 8])
((.seq ((.seq (.ops F16o14 [3, 7, 8, 45, 46])
(.block 2 (.loop [3, 7, 8, 45, 46] F16b20))))
(.ops F16o21 [6, 7])))))
((.seq (.ops F16o22 [3, 6, 7, 22, 65])
(.cond (.t 65)
(.ops F16o23 [6, 7])
((.seq (.ops F16o24 [3, 6, 7, 73])
(.cond (.t 73)
(.ops F16o25 [6, 7])
(.skip)))))))))))))))))))
((.seq ((.seq (.ops F16o26 [6, 82])
(.cond (.t 82)
((.seq (.ops F16o27 [4, 5])
(.ret)))
(.skip))))
((.seq (.ops F16o28 [4, 5])
(.ret))))))))))))
def F16 : AFn := ⟨84, [.tmp 4, .tmp 5], F16c⟩
theorem F16_ok : cFn Tryz.prog [] 16 = some F16 := by kernel_rfl
def F17o0 : List AOper := [⟨some 2, .m (.box 26 (.t 0)), none⟩,⟨some 4, .t (.mv (.c (.int .i64 0))), none⟩]
def F17o1 : List AOper := [⟨some 6, .t (.mv (.t 1)), none⟩,⟨some 7, .call (.c (.clo 47 [] [])) [(.t 6)], none⟩,⟨some 8, .t (.not (.t 7)), none⟩,⟨some 5, .t (.mv (.t 8)), none⟩]
def F17o2 : List AOper := [⟨some 4, .t (.mv (.c (.int .i64 2))), none⟩]
def F17o3 : List AOper := [⟨some 10, .m (.load true 7 (.t 2)), none⟩,⟨some 11, .call (.c (.clo 48 [] [])) [(.t 10)], none⟩,⟨some 12, .t (.bin .neq (.t 11) (.c (.int .i64 0))), none⟩,⟨some 13, .t (.mv (.t 12)), none⟩,⟨some 14, .m (.load true 7 (.t 2)), (some (13, false))⟩,
  ⟨some 15, .call (.c (.clo 49 [] [])) [(.t 14)], (some (13, false))⟩,
  ⟨some 16, .t (.not (.t 15)), (some (13, false))⟩,
  ⟨some 17, .t (.pick (.t 13) (.c (.bool true)) (.t 16)), none⟩,⟨some 9, .t (.mv (.t 17)), none⟩]
def F17o4 : List AOper := [⟨some 4, .t (.mv (.c (.int .i64 18))), none⟩]
def F17o5 : List AOper := [⟨some 4, .t (.mv (.c (.int .i64 0))), none⟩]
def F17c : ACode :=
(.seq (.ops F17o0 [1, 2])
((.seq (.block 0 ((.seq (.ops F17o1 [2, 5])
(.cond (.t 5)
((.seq (.ops F17o2 [4])
(.ret)))
((.seq (.ops F17o3 [9])
(.cond (.t 9)
((.seq (.ops F17o4 [4])
(.ret)))
(.skip))))))))
((.seq (.ops F17o5 [4])
(.ret))))))
def F17 : AFn := ⟨18, [.tmp 4], F17c⟩
theorem F17_ok : cFn Tryz.prog [] 17 = some F17 := by kernel_rfl
def F20o0 : List AOper := [⟨some 3, .m (.box 26 (.t 0)), none⟩,⟨some 5, .m (.box 31 (.t 2)), none⟩,⟨some 6, .t (.mv (.c (.str []))), none⟩,⟨some 7, .t (.mv (.c (.int .i64 0))), none⟩]
def F20o1 : List AOper := [⟨some 17, .m (.load true 7 (.t 3)), none⟩,⟨some 18, .t (.mv (.t 1)), none⟩,⟨some 19, .call (.c (.clo 17 [] [])) [(.t 17), (.t 18)], none⟩,⟨some 8, .t (.mv (.t 19)), none⟩]
def F20o2 : List AOper := [⟨some 20, .t (.mv (.t 8)), none⟩,⟨some 21, .t (.bin .neq (.t 20) (.c (.int .i64 0))), none⟩]
def F20o3 : List AOper := [⟨some 22, .t (.mv (.t 8)), none⟩,⟨some 6, .t (.mv (.c (.str []))), none⟩,⟨some 7, .t (.mv (.t 22)), none⟩]
def F20o4 : List AOper := [⟨some 23, .m (.load true 7 (.t 3)), none⟩,⟨some 24, .m (.load true 6 (.t 5)), none⟩,⟨some 25, .call (.c (.clo 37 [] [])) [(.t 23), (.t 24)], none⟩,⟨some 26, .t (.not (.t 25)), none⟩]
def F20o5 : List AOper := [⟨some 6, .t (.mv (.c (.str []))), none⟩,⟨some 7, .t (.mv (.c (.int .i64 18))), none⟩]
def F20o6 : List AOper := [⟨some 9, .t (.mv (.c .nils)), none⟩]
def F20o7 : List AOper := [⟨some 27, .t (.faddr 6 (.t 3)), none⟩,⟨some 28, .m (.load false 1 (.t 27)), none⟩,⟨some 29, .t (.len false (.t 28)), none⟩,⟨some 30, .t (.mv (.c (.int .i64 0))), none⟩]
def F20o8 : List AOper := [⟨some 31, .t (.bin .lss (.t 30) (.t 29)), none⟩]
def F20o9 : List AOper := [⟨some 32, .t (.iaddr 11 (.t 28) (.t 30)), none⟩,⟨some 33, .m (.load true 11 (.t 32)), none⟩,⟨some 11, .m (.alloc 98 [(.int .i64 0), (.str []), (.int .i64 0), (.int .i64 0), (.int .i64 0), (.int .i64 0), (.int .i64 0), .nils, .nils, .nils, .nils]), none⟩,⟨none, .m (.store 11 (.t 11) (.t 33)), none⟩]
def F20o10 : List AOper := [⟨some 12, .m (.alloc 66 [(.str []), (.bool false)]), none⟩]
def F20o11 : List AOper := [⟨some 35, .m (.load true 6 (.t 5)), none⟩,⟨some 36, .t (.faddr 1 (.t 11)), none⟩,⟨some 37, .m (.load false 1 (.t 36)), none⟩,⟨some 38, .call (.c (.clo 52 [] [])) [(.t 35), (.t 37)], none⟩,⟨some 34, .t (.mv (.t 38)), none⟩,⟨some 39, .t (.ext (.t 34) 0), none⟩,⟨some 40, .t (.ext (.t 34) 1), none⟩,⟨some 13, .m (.alloc 31 [(.int .i64 0), (.int .i64 0), (.int .i64 0), (.str []), .nils, .nils]), none⟩,⟨none, .m (.store 6 (.t 13) (.t 39)), none⟩,⟨some 14, .t (.mv (.t 40)), none⟩]
def F20o12 : List AOper := [⟨some 41, .t (.mv (.t 14)), none⟩]
def F20o13 : List AOper := [⟨some 43, .t (.faddr 3 (.t 11)), none⟩,⟨some 44, .m (.load true 7 (.t 43)), none⟩,⟨some 45, .m (.load true 6 (.t 13)), none⟩,⟨some 46, .call (.c (.clo 16 [] [])) [(.t 44), (.t 45)], none⟩,⟨some 42, .t (.mv (.t 46)), none⟩,⟨some 47, .t (.ext (.t 42) 0), none⟩,⟨some 48, .t (.ext (.t 42) 1), none⟩,⟨some 15, .t (.mv (.t 47)), none⟩,⟨some 16, .t (.mv (.t 48)), none⟩]
def F20o14 : List AOper := [⟨some 49, .t (.mv (.t 16)), none⟩,⟨some 50, .t (.bin .neq (.t 49) (.c (.int .i64 0))), none⟩]
def F20o15 : List AOper := [⟨some 51, .t (.mv (.t 16)), none⟩,⟨some 6, .t (.mv (.c (.str []))), none⟩,⟨some 7, .t (.mv (.t 51)), none⟩]
def F20o16 : List AOper := [⟨some 52, .t (.mv (.t 15)), none⟩,⟨some 53, .t (.mv (.t 15)), none⟩,⟨some 54, .t (.bin .eql (.t 53) (.c (.str []))), none⟩,⟨some 55, .t (.mv (.t 54)), none⟩,⟨some 56, .t (.mv (.t 15)), (some (55, false))⟩,
  ⟨some 57, .t (.mv (.t 1)), (some (55, false))⟩,
  ⟨some 58, .call (.c (.clo 53 [] [])) [(.t 56), (.t 57)], (some (55, false))⟩,
  ⟨some 59, .t (.pick (.t 55) (.c (.bool true)) (.t 58)), none⟩,⟨some 60, .t (.build [(.str []), (.bool false)] [(0, 1, (.t 52)), (1, 1, (.t 59))]), none⟩,⟨none, .m (.store 2 (.t 12) (.t 60)), none⟩]
def F20o17 : List AOper := [⟨some 61, .t (.mv (.t 9)), none⟩,⟨some 62, .m (.load true 2 (.t 12)), none⟩,⟨some 63, .m (.bslice false 66 2 1 [(.t 62)]), none⟩,⟨some 64, .m (.append false 66 2 24 (.t 61) (.t 63)), none⟩,⟨some 9, .t (.mv (.t 64)), none⟩]
def F20o18 : List AOper := [⟨some 65, .t (.bin .add (.t 30) (.c (.int .i64 1))), none⟩,⟨some 30, .t (.mv (.t 65)), none⟩]
def F20b19 : ACode :=
(.seq (.ops F20o8 [1, 5, 9, 28, 29, 30, 31])
((.seq (.cond (.t 31)
(.skip)
(.exit 0))
((.seq (.block 1 ((.seq (.ops F20o9 [1, 5, 9, 11, 28, 29, 30])
((.seq (.ops F20o10 [1, 5, 9, 11, 12, 28, 29, 30])
((.seq ((.seq (.ops F20o11 [1, 5, 9, 11, 12, 13, 14, 28, 29, 30])
((.seq (.ops F20o12 [1, 5, 9, 11, 12, 13, 28, 29, 30, 41])
(.cond (.t 41)
((.seq (.ops F20o13 [1, 5, 9, 12, 15, 16, 28, 29, 30])
((.seq ((.seq (.ops F20o14 [1, 5, 9, 12, 15, 16, 28, 29, 30, 50])
(.cond (.t 50)
((.seq (.ops F20o15 [6, 7])
(.ret)))
(.skip))))
(.ops F20o16 [1, 5, 9, 12, 28, 29, 30])))))
(.skip))))))
(.ops F20o17 [1, 5, 9, 28, 29, 30]))))))))
(.ops F20o18 [1, 5, 9, 28, 29, 30]))))))
def F20o20 : List AOper := [⟨some 66, .t (.mv (.t 9)), none⟩,⟨some 67, .t (.mv (.t 1)), none⟩,⟨some 68, .call (.c (.clo 26 [] [])) [(.t 66), (.t 67)], none⟩,⟨some 69, .t (.ext (.t 68) 0), none⟩,⟨some 70, .t (.ext (.t 68) 1), none⟩,⟨some 6, .t (.mv (.t 69)), none⟩,⟨some 7, .t (.mv (.t 70)), none⟩]
def F20c : ACode :=
(.seq (.ops F20o0 [1, 3, 5])
((.seq ((.seq (.ops F20o1 [1, 3, 5, 8])
((.seq (.ops F20o2 [1, 3, 5, 8, 21])
(.cond (.t 21)
((.seq (.ops F20o3 [6, 7])
(.ret)))
(.skip))))))
((.seq ((.seq (.ops F20o4 [1, 3, 5, 26])
(.cond (.t 26)
((.seq (.ops F20o5 [6, 7])
(.ret)))
(.skip))))
((.seq (.ops F20o6 [1, 3, 5, 9])
((.seq ((.seq (.ops F20o7 [1, 5, 9, 28, 29, 30])
(.block 0 (.loop [1, 5, 9, 28, 29, 30] F20b19))))
((.seq (.ops F20o20 [6, 7])
(.ret))))))))))))
def F20 : AFn := ⟨71, [.tmp 6, .tmp 7], F20c⟩
theorem F20_ok : cFn Tryz.prog [] 20 = some F20 := by kernel_rfl
def F22o0 : List AOper := [⟨some 3, .m (.box 26 (.t 0)), none⟩,⟨some 6, .m (.alloc 31 [(.int .i64 0), (.int .i64 0), (.int .i64 0), (.str []), .nils, .nils]), none⟩,⟨some 7, .t (.mv (.c (.int .i64 0))), none⟩,⟨some 8, .t (.mv (.c (.int .i64 0))), none⟩]
def F22o1 : List AOper := [⟨some 17, .m (.load true 7 (.t 3)), none⟩,⟨some 18, .t (.mv (.t 1)), none⟩,⟨some 19, .call (.c (.clo 17 [] [])) [(.t 17), (.t 18)], none⟩,⟨some 9, .t (.mv (.t 19)), none⟩]
def F22o2 : List AOper := [⟨some 20, .t (.mv (.t 9)), none⟩,⟨some 21, .t (.bin .neq (.t 20) (.c (.int .i64 0))), none⟩]
def F22o3 : List AOper := [⟨some 22, .t (.build [(.int .i64 0), (.int .i64 0), (.int .i64 0), (.str []), .nils, .nils] []), none⟩,⟨some 23, .t (.mv (.t 9)), none⟩,⟨none, .m (.store 6 (.t 6) (.t 22)), none⟩,⟨some 7, .t (.mv (.c (.int .i64 0))), none⟩,⟨some 8, .t (.mv (.t 23)), none⟩]
def F22o4 : List AOper := [⟨some 25, .t (.mv (.t 2)), none⟩,⟨some 26, .t (.mv (.t 1)), none⟩,⟨some 27, .call (.c (.clo 57 [] [])) [(.t 25), (.t 26)], none⟩,⟨some 24, .t (.mv (.t 27)), none⟩,⟨some 28, .t (.ext (.t 24) 0), none⟩,⟨some 29, .t (.ext (.t 24) 1), none⟩,⟨some 30, .t (.ext (.t 24) 2), none⟩,⟨some 31, .t (.ext (.t 24) 3), none⟩,⟨some 10, .t (.mv (.t 28)), none⟩,⟨some 11, .t (.mv (.t 29)), none⟩,⟨some 7, .t (.mv (.t 30)), none⟩,⟨some 8, .t (.mv (.t 31)), none⟩]
def F22o5 : List AOper := [⟨some 33, .t (.mv (.t 8)), none⟩,⟨some 34, .t (.bin .neq (.t 33) (.c (.int .i64 0))), none⟩,⟨some 32, .t (.mv (.t 34)), none⟩]
def F22o6 : List AOper := [⟨some 35, .t (.build [(.int .i64 0), (.int .i64 0), (.int .i64 0), (.str []), .nils, .nils] []), none⟩,⟨some 36, .t (.mv (.t 7)), none⟩,⟨some 37, .t (.mv (.t 8)), none⟩,⟨none, .m (.store 6 (.t 6) (.t 35)), none⟩,⟨some 7, .t (.mv (.t 36)), none⟩,⟨some 8, .t (.mv (.t 37)), none⟩]
def F22o7 : List AOper := [⟨some 39, .t (.mv (.t 10)), none⟩,⟨some 40, .t (.len false (.t 39)), none⟩,⟨some 41, .t (.faddr 6 (.t 3)), none⟩,⟨some 42, .m (.load false 1 (.t 41)), none⟩,⟨some 43, .t (.len false (.t 42)), none⟩,⟨some 44, .t (.bin .lss (.t 40) (.t 43)), none⟩,⟨some 38, .t (.mv (.t 44)), none⟩]
def F22o8 : List AOper := [⟨some 45, .t (.build [(.int .i64 0), (.int .i64 0), (.int .i64 0), (.str []), .nils, .nils] []), none⟩,⟨some 46, .t (.mv (.t 2)), none⟩,⟨some 47, .t (.len true (.t 46)), none⟩,⟨none, .m (.store 6 (.t 6) (.t 45)), none⟩,⟨some 7, .t (.mv (.t 47)), none⟩,⟨some 8, .t (.mv (.c (.int .i64 4))), none⟩]
def F22o9 : List AOper := [⟨some 49, .t (.mv (.t 10)), none⟩,⟨some 50, .t (.len false (.t 49)), none⟩,⟨some 51, .t (.faddr 6 (.t 3)), none⟩,⟨some 52, .m (.load false 1 (.t 51)), none⟩,⟨some 53, .t (.len false (.t 52)), none⟩,⟨some 54, .t (.bin .gtr (.t 50) (.t 53)), none⟩,⟨some 48, .t (.mv (.t 54)), none⟩]
def F22o10 : List AOper := [⟨some 55, .t (.build [(.int .i64 0), (.int .i64 0), (.int .i64 0), (.str []), .nils, .nils] []), none⟩,⟨some 56, .t (.mv (.t 11)), none⟩,⟨some 57, .t (.faddr 6 (.t 3)), none⟩,⟨some 58, .m (.load false 1 (.t 57)), none⟩,⟨some 59, .t (.len false (.t 58)), none⟩,⟨some 60, .t (.iaddr 1 (.t 56) (.t 59)), none⟩,⟨some 61, .m (.load false 1 (.t 60)), none⟩,⟨none, .m (.store 6 (.t 6) (.t 55)), none⟩]
def F22p10 : List AOper := [⟨some 7, .t (.mv (.t 61)), none⟩,⟨some 8, .t (.mv (.c (.int .i64 21))), none⟩]
def F22A10 : List (List Nat) := [[], [], [], [2], [3, 2], [1, 4, 3, 2], [5, 1, 4, 3, 2], [0], [6, 7, 5, 1, 4, 3, 2, 0], [8, 6, 7, 5, 1, 4, 3, 2, 0]]
def F22o11 : List AOper := [⟨some 12, .t (.mv (.c .nils)), none⟩]
def F22o12 : List AOper := [⟨some 62, .t (.faddr 6 (.t 3)), none⟩,⟨some 63, .m (.load false 1 (.t 62)), none⟩,⟨some 64, .t (.len false (.t 63)), none⟩,⟨some 65, .t (.mv (.c (.int .i64 0))), none⟩]
def F22o13 : List AOper := [⟨some 66, .t (.bin .lss (.t 65) (.t 64)), none⟩]
def F22o14 : List AOper := [⟨some 67, .t (.mv (.t 65)), none⟩,⟨some 68, .t (.iaddr 11 (.t 63) (.t 65)), none⟩,⟨some 69, .m (.load true 11 (.t 68)), none⟩,⟨some 14, .m (.alloc 98 [(.int .i64 0), (.str []), (.int .i64 0), (.int .i64 0), (.int .i64 0), (.int .i64 0), (.int .i64 0), .nils, .nils, .nils, .nils]), none⟩,⟨some 13, .t (.mv (.t 67)), none⟩,⟨none, .m (.store 11 (.t 14) (.t 69)), none⟩]
def F22o15 : List AOper := [⟨some 15, .m (.alloc 31 [(.int .i64 0), (.int .i64 0), (.int .i64 0), (.str []), .nils, .nils]), none⟩]
def F22o16 : List AOper := [⟨some 16, .t (.mv (.c (.int .i64 0))), none⟩]
def F22o17 : List AOper := [⟨some 71, .t (.mv (.t 10)), none⟩,⟨some 72, .t (.mv (.t 13)), none⟩,⟨some 73, .t (.iaddr 2 (.t 71) (.t 72)), none⟩,⟨some 74, .t (.faddr 1 (.t 73)), none⟩,⟨some 75, .m (.load false 1 (.t 74)), none⟩,⟨some 76, .t (.mv (.t 75)), none⟩,⟨some 77, .t (.mv (.t 10)), (some (76, false))⟩,
  ⟨some 78, .t (.mv (.t 13)), (some (76, false))⟩,
  ⟨some 79, .t (.iaddr 2 (.t 77) (.t 78)), (some (76, false))⟩,
  ⟨some 80, .t (.faddr 0 (.t 79)), (some (76, false))⟩,
  ⟨some 81, .m (.load false 1 (.t 80)), (some (76, false))⟩,
  ⟨some 82, .t (.bin .neq (.t 81) (.c (.str []))), (some (76, false))⟩,
  ⟨some 83, .t (.pick (.t 76) (.c (.bool true)) (.t 82)), none⟩,⟨some 70, .t (.mv (.t 83)), none⟩]
def F22o18 : List AOper := [⟨some 85, .t (.faddr 3 (.t 14)), none⟩,⟨some 86, .m (.load true 7 (.t 85)), none⟩,⟨some 87, .t (.mv (.t 10)), none⟩,⟨some 88, .t (.mv (.t 13)), none⟩,⟨some 89, .t (.iaddr 2 (.t 87) (.t 88)), none⟩,⟨some 90, .t (.faddr 0 (.t 89)), none⟩,⟨some 91, .m (.load false 1 (.t 90)), none⟩,⟨some 92, .call (.c (.clo 12 [] [])) [(.t 86), (.t 91)], none⟩,⟨some 84, .t (.mv (.t 92)), none⟩,⟨some 93, .t (.ext (.t 84) 0), none⟩,⟨some 94, .t (.ext (.t 84) 1), none⟩,⟨none, .m (.store 6 (.t 15) (.t 93)), none⟩]
def F22p18 : List AOper := [⟨some 16, .t (.mv (.t 94)), none⟩]
def F22A18 : List (List Nat) := [[], [0], [], [], [2, 3], [4, 2, 3], [5, 4, 2, 3], [1, 6, 0, 5, 4, 2, 3], [7, 1, 6, 0, 5, 4, 2, 3], [8, 7, 1, 6, 0, 5, 4, 2, 3], [8, 7, 1, 6, 0, 5, 4, 2, 3], [9, 8, 7, 1, 6, 0, 5, 4, 2, 3], [10, 11, 9, 8, 7, 1, 6, 0, 5, 4, 2, 3]]
def F22o19 : List AOper := [⟨some 96, .t (.faddr 2 (.t 14)), none⟩,⟨some 97, .m (.load false 1 (.t 96)), none⟩,⟨some 98, .t (.bin .eql (.t 97) (.c (.int .i64 3))), none⟩,⟨some 95, .t (.mv (.t 98)), none⟩]
def F22o20 : List AOper := [⟨some 99, .t (.faddr 10 (.t 14)), none⟩,⟨some 100, .m (.load false 1 (.t 99)), none⟩,⟨some 101, .t (.iaddr 6 (.t 100) (.c (.int .i64 0))), none⟩,⟨some 102, .m (.load true 6 (.t 101)), none⟩,⟨none, .m (.store 6 (.t 15) (.t 102)), none⟩]
def F22o21 : List AOper := [⟨some 104, .t (.faddr 2 (.t 14)), none⟩,⟨some 105, .m (.load false 1 (.t 104)), none⟩,⟨some 106, .t (.bin .eql (.t 105) (.c (.int .i64 1))), none⟩,⟨some 103, .t (.mv (.t 106)), none⟩]
def F22o22 : List AOper := [⟨some 16, .t (.mv (.c (.int .i64 19))), none⟩]
def F22o23 : List AOper := [⟨some 107, .t (.mv (.t 16)), none⟩,⟨some 108, .t (.bin .neq (.t 107) (.c (.int .i64 0))), none⟩]
def F22o24 : List AOper := [⟨some 109, .t (.build [(.int .i64 0), (.int .i64 0), (.int .i64 0), (.str []), .nils, .nils] []), none⟩,⟨some 110, .t (.mv (.t 11)), none⟩,⟨some 111, .t (.mv (.t 13)), none⟩,⟨some 112, .t (.iaddr 1 (.t 110) (.t 111)), none⟩,⟨some 113, .m (.load false 1 (.t 112)), none⟩,⟨some 114, .t (.mv (.t 16)), none⟩,⟨none, .m (.store 6 (.t 6) (.t 109)), none⟩,⟨some 7, .t (.mv (.t 113)), none⟩]
def F22p24 : List AOper := [⟨some 8, .t (.mv (.t 114)), none⟩]
def F22A24 : List (List Nat) := [[], [], [], [1, 2], [3, 1, 2], [], [0], [4, 6, 3, 1, 2, 0], [5, 7, 4, 6, 3, 1, 2, 0]]
def F22o25 : List AOper := [⟨some 115, .t (.mv (.t 12)), none⟩,⟨some 116, .t (.faddr 1 (.t 14)), none⟩,⟨some 117, .m (.load false 1 (.t 116)), none⟩,⟨some 118, .m (.load true 6 (.t 15)), none⟩,⟨some 119, .t (.build [(.str []), (.int .i64 0), (.int .i64 0), (.int .i64 0), (.str []), .nils, .nils] [(0, 1, (.t 117)), (1, 6, (.t 118))]), none⟩,⟨some 120, .m (.bslice false 83 7 1 [(.t 119)]), none⟩,⟨some 121, .m (.append false 83 7 104 (.t 115) (.t 120)), none⟩,⟨some 12, .t (.mv (.t 121)), none⟩]
def F22o26 : List AOper := [⟨some 122, .t (.bin .add (.t 65) (.c (.int .i64 1))), none⟩,⟨some 65, .t (.mv (.t 122)), none⟩]
def F22b27 : ACode :=
(.seq (.ops F22o13 [6, 10, 11, 12, 63, 64, 65, 66])
((.seq (.cond (.t 66)
(.skip)
(.exit 1))
((.seq (.block 2 ((.seq (.ops F22o14 [6, 10, 11, 12, 13, 14, 63, 64, 65])
((.seq (.ops F22o15 [6, 10, 11, 12, 13, 14, 15, 63, 64, 65])
((.seq (.ops F22o16 [6, 10, 11, 12, 13, 14, 15, 16, 63, 64, 65])
((.seq (.block 3 ((.seq (.ops F22o17 [6, 10, 11, 12, 13, 14, 15, 16, 63, 64, 65, 70])
(.cond (.t 70)
(.draw F22A18 F22o18 F22p18 [6, 10, 11, 12, 13, 14, 15, 16, 63, 64, 65])
((.seq (.ops F22o19 [6, 10, 11, 12, 13, 14, 15, 16, 63, 64, 65, 95])
(.cond (.t 95)
(.ops F22o20 [6, 10, 11, 12, 13, 14, 15, 16, 63, 64, 65])
((.seq (.ops F22o21 [6, 10, 11, 12, 13, 14, 15, 16, 63, 64, 65, 103])
(.cond (.t 103)
(.ops F22o22 [6, 10, 11, 12, 13, 14, 15, 16, 63, 64, 65])
(.skip)))))))))))
((.seq ((.seq (.ops F22o23 [6, 10, 11, 12, 13, 14, 15, 16, 63, 64, 65, 108])
(.cond (.t 108)
((.seq (.draw F22A24 F22o24 F22p24 [6, 7, 8])
(.ret)))
(.skip))))
(.ops F22o25 [6, 10, 11, 12, 63, 64, 65]))))))))))))
(.ops F22o26 [6, 10, 11, 12, 63, 64, 65]))))))
def F22o28 : List AOper := [⟨some 123, .t (.mv (.t 12)), none⟩,⟨some 124, .call (.c (.clo 59 [] [])) [(.t 123)], none⟩,⟨some 125, .call (.c (.clo 58 [] [])) [(.t 124)], none⟩,⟨none, .m (.store 6 (.t 6) (.t 125)), none⟩,⟨some 7, .t (.mv (.c (.int .i64 0))), none⟩,⟨some 8, .t (.mv (.c (.int .i64 0))), none⟩]
def F22c : ACode :=
(.seq (.ops F22o0 [1, 2, 3, 6])
((.seq ((.seq (.ops F22o1 [1, 2, 3, 6, 9])
((.seq (.ops F22o2 [1, 2, 3, 6, 9, 21])
(.cond (.t 21)
((.seq (.ops F22o3 [6, 7, 8])
(.ret)))
(.skip))))))
((.seq (.ops F22o4 [2, 3, 6, 7, 8, 10, 11])
((.seq (.block 0 ((.seq (.ops F22o5 [2, 3, 6, 7, 8, 10, 11, 32])
(.cond (.t 32)
((.seq (.ops F22o6 [6, 7, 8])
(.ret)))
((.seq (.ops F22o7 [2, 3, 6, 10, 11, 38])
(.cond (.t 38)
((.seq (.ops F22o8 [6, 7, 8])
(.ret)))
((.seq (.ops F22o9 [3, 6, 10, 11, 48])
(.cond (.t 48)
((.seq (.draw F22A10 F22o10 F22p10 [6, 7, 8])
(.ret)))
(.skip)))))))))))
((.seq (.ops F22o11 [3, 6, 10, 11, 12])
((.seq ((.seq (.ops F22o12 [6, 10, 11, 12, 63, 64, 65])
(.block 1 (.loop [6, 10, 11, 12, 63, 64, 65] F22b27))))
((.seq (.ops F22o28 [6, 7, 8])
(.ret))))))))))))))
def F22 : AFn := ⟨126, [.cell 6 true 6, .tmp 7, .tmp 8], F22c⟩
theorem F22_ok : cFn Tryz.prog [] 22 = some F22 := by kernel_rfl
def F25o0 : List AOper := [⟨some 2, .t (.mv (.c .nils)), none⟩,⟨some 3, .t (.mv (.c .nils)), none⟩]
def F25o1 : List AOper := [⟨some 4, .t (.mv (.c .nils)), none⟩]
def F25o2 : List AOper := [⟨some 5, .t (.mv (.c .nils)), none⟩]
def F25o3 : List AOper := [⟨some 6, .t (.mv (.c (.int .i64 0))), none⟩]
def F25o4 : List AOper := [⟨some 8, .t (.mv (.t 6)), none⟩,⟨some 9, .t (.mv (.t 0)), none⟩,⟨some 10, .t (.len false (.t 9)), none⟩,⟨some 11, .t (.bin .lss (.t 8) (.t 10)), none⟩,⟨some 12, .t (.mv (.t 11)), none⟩,⟨some 13, .t (.mv (.t 6)), (some (12, true))⟩,
  ⟨some 14, .t (.bin .lss (.t 13) (.c (.int .i64 70))), (some (12, true))⟩,
  ⟨some 15, .t (.pick (.t 12) (.t 14) (.c (.bool false))), none⟩]
def F25o5 : List AOper := [⟨some 18, .t (.mv (.t 0)), none⟩,⟨some 19, .t (.mv (.t 6)), none⟩,⟨some 20, .t (.iaddr 2 (.t 18) (.t 19)), none⟩,⟨some 21, .t (.faddr 0 (.t 20)), none⟩,⟨some 22, .m (.load false 1 (.t 21)), none⟩,⟨some 23, .t (.mv (.t 0)), none⟩,⟨some 24, .t (.mv (.t 6)), none⟩,⟨some 25, .t (.iaddr 2 (.t 23) (.t 24)), none⟩,⟨some 26, .t (.faddr 0 (.t 25)), none⟩,⟨some 27, .m (.load false 1 (.t 26)), none⟩,⟨some 28, .t (.len true (.t 27)), none⟩,⟨some 29, .t (.imin (.t 28) (.c (.int .i64 50))), none⟩]
def F25p5 : List AOper := [⟨some 30, .t (.sliceS (.t 22) none (some (.t 29))), none⟩,⟨some 7, .t (.mv (.t 30)), none⟩]
def F25A5 : List (List Nat) := [[], [], [0, 1], [2, 0, 1], [3, 2, 0, 1], [], [], [5, 6], [7, 5, 6], [8, 7, 5, 6], [9, 8, 7, 5, 6], [10, 9, 8, 7, 5, 6], [4, 11, 3, 2, 0, 1, 10, 9, 8, 7, 5, 6], [12, 4, 11, 3, 2, 0, 1, 10, 9, 8, 7, 5, 6]]
def F25o6 : List AOper := [⟨some 31, .t (.mv (.t 4)), none⟩,⟨some 32, .t (.mv (.t 7)), none⟩,⟨some 33, .t (.mv (.t 0)), none⟩,⟨some 34, .t (.mv (.t 6)), none⟩,⟨some 35, .t (.iaddr 2 (.t 33) (.t 34)), none⟩,⟨some 36, .t (.faddr 1 (.t 35)), none⟩,⟨some 37, .m (.load false 1 (.t 36)), none⟩,⟨some 38, .t (.build [(.str []), (.bool false)] [(0, 1, (.t 32)), (1, 1, (.t 37))]), none⟩,⟨some 39, .m (.bslice false 66 2 1 [(.t 38)]), none⟩,⟨some 40, .m (.append false 66 2 24 (.t 31) (.t 39)), none⟩,⟨some 41, .t (.mv (.t 5)), none⟩,⟨some 42, .t (.mv (.t 7)), none⟩,⟨some 43, .t (.mv (.t 0)), none⟩,⟨some 44, .t (.mv (.t 6)), none⟩,⟨some 45, .t (.iaddr 2 (.t 43) (.t 44)), none⟩,⟨some 46, .t (.faddr 1 (.t 45)), none⟩,⟨some 47, .m (.load false 1 (.t 46)), none⟩,⟨some 48, .t (.build [(.str []), (.bool false), (.int .i64 0)] [(0, 1, (.t 42)), (1, 1, (.t 47))]), none⟩,⟨some 49, .m (.bslice false 101 3 1 [(.t 48)]), none⟩]
def F25p6 : List AOper := [⟨some 50, .m (.append false 101 3 32 (.t 41) (.t 49)), none⟩,⟨some 4, .t (.mv (.t 40)), none⟩,⟨some 5, .t (.mv (.t 50)), none⟩]
def F25A6 : List (List Nat) := [[], [], [], [], [2, 3], [4, 2, 3], [5, 4, 2, 3], [1, 6, 5, 4, 2, 3], [7, 1, 6, 5, 4, 2, 3], [0, 8, 7, 1, 6, 5, 4, 2, 3], [], [], [], [], [12, 13], [14, 12, 13], [15, 14, 12, 13], [11, 16, 15, 14, 12, 13], [17, 11, 16, 15, 14, 12, 13], [10, 18, 9, 17, 11, 16, 15, 14, 12, 13, 0, 8, 7, 1, 6, 5, 4, 2, 3], [19, 10, 18, 9, 17, 11, 16, 15, 14, 12, 13, 0, 8, 7, 1, 6, 5, 4, 2, 3], [20, 19, 10, 18, 9, 17, 11, 16, 15, 14, 12, 13, 0, 8, 7, 1, 6, 5, 4, 2, 3]]
def F25o7 : List AOper := [⟨some 16, .t (.mv (.t 6)), none⟩,⟨some 17, .t (.bin .add (.t 16) (.c (.int .i64 1))), none⟩,⟨some 6, .t (.mv (.t 17)), none⟩]
def F25b8 : ACode :=
(.seq ((.seq (.ops F25o4 [0, 4, 5, 6, 15])
(.cond (.t 15)
(.skip)
(.exit 0))))
((.seq (.block 1 ((.seq (.draw F25A5 F25o5 F25p5 [0, 4, 5, 6, 7])
(.draw F25A6 F25o6 F25p6 [0, 4, 5, 6]))))
(.ops F25o7 [0, 4, 5, 6]))))
def F25o9 : List AOper := [⟨some 51, .t (.mv (.t 4)), none⟩,⟨some 52, .t (.mv (.t 5)), none⟩,⟨some 2, .t (.mv (.t 51)), none⟩,⟨some 3, .t (.mv (.t 52)), none⟩]
def F25c : ACode :=
(.seq (.ops F25o0 [0])
((.seq (.ops F25o1 [0, 4])
((.seq (.ops F25o2 [0, 4, 5])
((.seq ((.seq (.ops F25o3 [0, 4, 5, 6])
(.block 0 (.loop [0, 4, 5, 6] F25b8))))
((.seq (.ops F25o9 [2, 3])
(.ret))))))))))
def F25 : AFn := ⟨53, [.tmp 2, .tmp 3], F25c⟩
theorem F25_ok : cFn Tryz.prog [] 25 = some F25 := by kernel_rfl
def F26o0 : List AOper := [⟨some 4, .t (.mv (.c (.str []))), none⟩,⟨some 5, .t (.mv (.c (.int .i64 0))), none⟩]
def F26o1 : List AOper := [⟨some 10, .t (.mv (.t 1)), none⟩,⟨some 11, .call (.c (.clo 47 [] [])) [(.t 10)], none⟩,⟨some 12, .t (.not (.t 11)), none⟩,⟨some 9, .t (.mv (.t 12)), none⟩]
def F26o2 : List AOper := [⟨some 4, .t (.mv (.c (.str []))), none⟩,⟨some 5, .t (.mv (.c (.int .i64 2))), none⟩]
def F26o3 : List AOper := [⟨some 14, .t (.mv (.t 0)), none⟩,⟨some 15, .t (.len false (.t 14)), none⟩,⟨some 16, .t (.bin .eql (.t 15) (.c (.int .i64 0))), none⟩,⟨some 13, .t (.mv (.t 16)), none⟩]
def F26o4 : List AOper := [⟨some 4, .t (.mv (.c (.str []))), none⟩,⟨some 5, .t (.mv (.c (.int .i64 4))), none⟩]
def F26o5 : List AOper := [⟨some 18, .t (.mv (.t 0)), none⟩,⟨some 19, .t (.len false (.t 18)), none⟩,⟨some 20, .t (.bin .gtr (.t 19) (.c (.int .i64 64))), none⟩,⟨some 17, .t (.mv (.t 20)), none⟩]
def F26o6 : List AOper := [⟨some 4, .t (.mv (.c (.str []))), none⟩,⟨some 5, .t (.mv (.c (.int .i64 9))), none⟩]
def F26o7 : List AOper := [⟨some 6, .m (.alloc 89 [.nilp, .nils]), none⟩]
def F26o8 : List AOper := [⟨some 21, .t (.mv (.t 0)), none⟩,⟨some 22, .t (.len false (.t 21)), none⟩,⟨some 23, .t (.mv (.c (.int .i64 0))), none⟩]
def F26o9 : List AOper := [⟨some 24, .t (.bin .lss (.t 23) (.t 22)), none⟩]
def F26o10 : List AOper := [⟨some 25, .t (.mv (.t 23)), none⟩,⟨some 26, .t (.iaddr 2 (.t 21) (.t 23)), none⟩,⟨some 27, .m (.load true 2 (.t 26)), none⟩,⟨some 8, .m (.alloc 66 [(.str []), (.bool false)]), none⟩,⟨some 7, .t (.mv (.t 25)), none⟩,⟨none, .m (.store 2 (.t 8) (.t 27)), none⟩]
def F26o11 : List AOper := [⟨some 28, .t (.mv (.t 7)), none⟩,⟨some 29, .t (.bin .gtr (.t 28) (.c (.int .i64 0))), none⟩]
def F26o12 : List AOper := [⟨some 30, .t (.mv (.t 1)), none⟩,⟨some 31, .t (.conv .u8 (.t 30)), none⟩,⟨some 32, .call (.c (.clo 43 [] [])) [(.t 6), (.t 31)], none⟩]
def F26o13 : List AOper := [⟨some 37, .t (.faddr 1 (.t 8)), none⟩,⟨some 38, .m (.load false 1 (.t 37)), none⟩,⟨some 36, .t (.mv (.t 38)), none⟩]
def F26o14 : List AOper := [⟨some 39, .call (.c (.clo 43 [] [])) [(.t 6), (.c (.int .u8 34))], none⟩]
def F26o15 : List AOper := [⟨some 40, .t (.faddr 0 (.t 8)), none⟩,⟨some 41, .m (.load false 1 (.t 40)), none⟩,⟨some 42, .call (.c (.clo 67 [] [])) [(.t 41), (.c (.str [34])), (.c (.str [34, 34]))], none⟩,⟨some 43, .call (.c (.clo 66 [] [])) [(.t 6), (.t 42)], none⟩]
def F26o16 : List AOper := [⟨some 44, .call (.c (.clo 43 [] [])) [(.t 6), (.c (.int .u8 34))], none⟩]
def F26o17 : List AOper := [⟨some 46, .t (.faddr 0 (.t 8)), none⟩,⟨some 47, .m (.load false 1 (.t 46)), none⟩,⟨some 48, .t (.mv (.t 1)), none⟩,⟨some 49, .call (.c (.clo 53 [] [])) [(.t 47), (.t 48)], none⟩,⟨some 45, .t (.mv (.t 49)), none⟩]
def F26o18 : List AOper := [⟨some 4, .t (.mv (.c (.str []))), none⟩,⟨some 5, .t (.mv (.c (.int .i64 6))), none⟩]
def F26o19 : List AOper := [⟨some 33, .t (.faddr 0 (.t 8)), none⟩,⟨some 34, .m (.load false 1 (.t 33)), none⟩,⟨some 35, .call (.c (.clo 66 [] [])) [(.t 6), (.t 34)], none⟩]
def F26o20 : List AOper := [⟨some 50, .t (.bin .add (.t 23) (.c (.int .i64 1))), none⟩,⟨some 23, .t (.mv (.t 50)), none⟩]
def F26b21 : ACode :=
(.seq (.ops F26o9 [1, 6, 21, 22, 23, 24])
((.seq (.cond (.t 24)
(.skip)
(.exit 1))
((.seq (.block 2 ((.seq (.ops F26o10 [1, 6, 7, 8, 21, 22, 23])
((.seq ((.seq (.ops F26o11 [1, 6, 8, 21, 22, 23, 29])
(.cond (.t 29)
(.ops F26o12 [1, 6, 8, 21, 22, 23])
(.skip))))
(.block 3 ((.seq (.ops F26o13 [1, 6, 8, 21, 22, 23, 36])
(.cond (.t 36)
((.seq (.ops F26o14 [1, 6, 8, 21, 22, 23])
((.seq (.ops F26o15 [1, 6, 21, 22, 23])
(.ops F26o16 [1, 6, 21, 22, 23])))))
((.seq (.ops F26o17 [1, 6, 8, 21, 22, 23, 45])
(.cond (.t 45)
((.seq (.ops F26o18 [4, 5])
(.ret)))
(.ops F26o19 [1, 6, 21, 22, 23])))))))))))))
(.ops F26o20 [1, 6, 21, 22, 23]))))))
def F26o22 : List AOper := [⟨some 51, .call (.c (.clo 68 [] [])) [(.t 6)], none⟩,⟨some 52, .t (.bin .gtr (.t 51) (.c (.int .i64 65536))), none⟩]
def F26o23 : List AOper := [⟨some 4, .t (.mv (.c (.str []))), none⟩,⟨some 5, .t (.mv (.c (.int .i64 5))), none⟩]
def F26o24 : List AOper := [⟨some 53, .call (.c (.clo 44 [] [])) [(.t 6)], none⟩,⟨some 4, .t (.mv (.t 53)), none⟩,⟨some 5, .t (.mv (.c (.int .i64 0))), none⟩]
def F26c : ACode :=
(.seq (.ops F26o0 [0, 1])
((.seq (.block 0 ((.seq (.ops F26o1 [0, 1, 9])
(.cond (.t 9)
((.seq (.ops F26o2 [4, 5])
(.ret)))
((.seq (.ops F26o3 [0, 1, 13])
(.cond (.t 13)
((.seq (.ops F26o4 [4, 5])
(.ret)))
((.seq (.ops F26o5 [0, 1, 17])
(.cond (.t 17)
((.seq (.ops F26o6 [4, 5])
(.ret)))
(.skip)))))))))))
((.seq (.ops F26o7 [0, 1, 6])
((.seq ((.seq (.ops F26o8 [1, 6, 21, 22, 23])
(.block 1 (.loop [1, 6, 21, 22, 23] F26b21))))
((.seq ((.seq (.ops F26o22 [6, 52])
(.cond (.t 52)
((.seq (.ops F26o23 [4, 5])
(.ret)))
(.skip))))
((.seq (.ops F26o24 [4, 5])
(.ret))))))))))))
def F26 : AFn := ⟨54, [.tmp 4, .tmp 5], F26c⟩
theorem F26_ok : cFn Tryz.prog [] 26 = some F26 := by kernel_rfl
def F27o0 : List AOper := [⟨some 4, .t (.mv (.c (.str []))), none⟩,⟨some 5, .t (.mv (.c (.int .i64 0))), none⟩]
def F27o1 : List AOper := [⟨some 9, .t (.mv (.t 1)), none⟩,⟨some 10, .call (.c (.clo 50 [] [])) [(.t 9)], none⟩,⟨some 11, .t (.not (.t 10)), none⟩,⟨some 8, .t (.mv (.t 11)), none⟩]
def F27o2 : List AOper := [⟨some 4, .t (.mv (.c (.str []))), none⟩,⟨some 5, .t (.mv (.c (.int .i64 2))), none⟩]
def F27o3 : List AOper := [⟨some 13, .t (.mv (.t 0)), none⟩,⟨some 14, .t (.len false (.t 13)), none⟩,⟨some 15, .t (.bin .eql (.t 14) (.c (.int .i64 0))), none⟩,⟨some 12, .t (.mv (.t 15)), none⟩]
def F27o4 : List AOper := [⟨some 4, .t (.mv (.c (.str []))), none⟩,⟨some 5, .t (.mv (.c (.int .i64 4))), none⟩]
def F27o5 : List AOper := [⟨some 17, .t (.mv (.t 0)), none⟩,⟨some 18, .t (.len false (.t 17)), none⟩,⟨some 19, .t (.bin .gtr (.t 18) (.c (.int .i64 64))), none⟩,⟨some 16, .t (.mv (.t 19)), none⟩]
def F27o6 : List AOper := [⟨some 4, .t (.mv (.c (.str []))), none⟩,⟨some 5, .t (.mv (.c (.int .i64 9))), none⟩]
def F27o7 : List AOper := [⟨some 6, .t (.mv (.c (.str []))), none⟩]
def F27o8 : List AOper := [⟨some 7, .t (.mv (.c (.int .i64 0))), none⟩]
def F27o9 : List AOper := [⟨some 20, .t (.mv (.t 7)), none⟩,⟨some 21, .t (.mv (.t 0)), none⟩,⟨some 22, .t (.len false (.t 21)), none⟩,⟨some 23, .t (.bin .lss (.t 20) (.t 22)), none⟩]
def F27o10 : List AOper := [⟨some 26, .t (.mv (.t 0)), none⟩,⟨some 27, .t (.mv (.t 7)), none⟩,⟨some 28, .t (.iaddr 3 (.t 26) (.t 27)), none⟩,⟨some 29, .t (.faddr 1 (.t 28)), none⟩,⟨some 30, .m (.load false 1 (.t 29)), none⟩,⟨some 31, .t (.not (.t 30)), none⟩,⟨some 32, .t (.mv (.t 31)), none⟩,⟨some 33, .t (.mv (.t 0)), (some (32, true))⟩,
  ⟨some 34, .t (.mv (.t 7)), (some (32, true))⟩,
  ⟨some 35, .t (.iaddr 3 (.t 33) (.t 34)), (some (32, true))⟩,
  ⟨some 36, .t (.faddr 0 (.t 35)), (some (32, true))⟩,
  ⟨some 37, .m (.load false 1 (.t 36)), (some (32, true))⟩,
  ⟨some 38, .t (.mv (.t 1)), (some (32, true))⟩,
  ⟨some 39, .call (.c (.clo 56 [] [])) [(.t 37), (.t 38)], (some (32, true))⟩,
  ⟨some 40, .t (.pick (.t 32) (.t 39) (.c (.bool false))), none⟩]
def F27o11 : List AOper := [⟨some 4, .t (.mv (.c (.str []))), none⟩,⟨some 5, .t (.mv (.c (.int .i64 6))), none⟩]
def F27o12 : List AOper := [⟨some 41, .t (.mv (.t 7)), none⟩,⟨some 42, .t (.bin .gtr (.t 41) (.c (.int .i64 0))), none⟩]
def F27o13 : List AOper := [⟨some 43, .t (.mv (.t 6)), none⟩,⟨some 44, .t (.mv (.t 1)), none⟩,⟨some 45, .t (.conv .u8 (.t 44)), none⟩,⟨some 46, .m (.bslice false 5 1 1 [(.t 45)]), none⟩,⟨some 47, .m (.toStr (.t 46)), none⟩,⟨some 48, .t (.bin .add (.t 43) (.t 47)), none⟩,⟨some 6, .t (.mv (.t 48)), none⟩]
def F27o14 : List AOper := [⟨some 49, .t (.mv (.t 6)), none⟩,⟨some 50, .t (.mv (.t 0)), none⟩,⟨some 51, .t (.mv (.t 7)), none⟩,⟨some 52, .t (.iaddr 3 (.t 50) (.t 51)), none⟩,⟨some 53, .m (.load true 3 (.t 52)), none⟩,⟨some 54, .call (.c (.clo 69 [] [])) [(.t 53)], none⟩,⟨some 55, .t (.bin .add (.t 49) (.t 54)), none⟩,⟨some 6, .t (.mv (.t 55)), none⟩]
def F27o15 : List AOper := [⟨some 24, .t (.mv (.t 7)), none⟩,⟨some 25, .t (.bin .add (.t 24) (.c (.int .i64 1))), none⟩,⟨some 7, .t (.mv (.t 25)), none⟩]
def F27b16 : ACode :=
(.seq ((.seq (.ops F27o9 [0, 1, 6, 7, 23])
(.cond (.t 23)
(.skip)
(.exit 1))))
((.seq (.block 2 ((.seq ((.seq (.ops F27o10 [0, 1, 6, 7, 40])
(.cond (.t 40)
((.seq (.ops F27o11 [4, 5])
(.ret)))
(.skip))))
((.seq ((.seq (.ops F27o12 [0, 1, 6, 7, 42])
(.cond (.t 42)
(.ops F27o13 [0, 1, 6, 7])
(.skip))))
(.ops F27o14 [0, 1, 6, 7]))))))
(.ops F27o15 [0, 1, 6, 7]))))
def F27o17 : List AOper := [⟨some 56, .t (.mv (.t 6)), none⟩,⟨some 57, .t (.len true (.t 56)), none⟩,⟨some 58, .t (.bin .gtr (.t 57) (.c (.int .i64 65536))), none⟩]
def F27o18 : List AOper := [⟨some 4, .t (.mv (.c (.str []))), none⟩,⟨some 5, .t (.mv (.c (.int .i64 5))), none⟩]
def F27o19 : List AOper := [⟨some 59, .t (.mv (.t 6)), none⟩,⟨some 4, .t (.mv (.t 59)), none⟩,⟨some 5, .t (.mv (.c (.int .i64 0))), none⟩]
def F27c : ACode :=
(.seq (.ops F27o0 [0, 1])
((.seq (.block 0 ((.seq (.ops F27o1 [0, 1, 8])
(.cond (.t 8)
((.seq (.ops F27o2 [4, 5])
(.ret)))
((.seq (.ops F27o3 [0, 1, 12])
(.cond (.t 12)
((.seq (.ops F27o4 [4, 5])
(.ret)))
((.seq (.ops F27o5 [0, 1, 16])
(.cond (.t 16)
((.seq (.ops F27o6 [4, 5])
(.ret)))
(.skip)))))))))))
((.seq (.ops F27o7 [0, 1, 6])
((.seq ((.seq (.ops F27o8 [0, 1, 6, 7])
(.block 1 (.loop [0, 1, 6, 7] F27b16))))
((.seq ((.seq (.ops F27o17 [6, 58])
(.cond (.t 58)
((.seq (.ops F27o18 [4, 5])
(.ret)))
(.skip))))
((.seq (.ops F27o19 [4, 5])
(.ret))))))))))))
def F27 : AFn := ⟨60, [.tmp 4, .tmp 5], F27c⟩
theorem F27_ok : cFn Tryz.prog [] 27 = some F27 := by kernel_rfl
def F28o0 : List AOper := [⟨some 4, .t (.mv (.c .nils)), none⟩,⟨some 5, .t (.mv (.c (.int .i64 0))), none⟩,⟨some 6, .t (.mv (.c (.int .i64 0))), none⟩]
def F28o1 : List AOper := [⟨some 8, .t (.mv (.t 0)), none⟩,⟨some 9, .t (.mv (.t 1)), none⟩,⟨some 10, .call (.c (.clo 57 [] [])) [(.t 8), (.t 9)], none⟩,⟨some 7, .t (.mv (.t 10)), none⟩,⟨some 11, .t (.ext (.t 7) 0), none⟩,⟨some 12, .t (.ext (.t 7) 1), none⟩,⟨some 13, .t (.ext (.t 7) 2), none⟩,⟨some 14, .t (.ext (.t 7) 3), none⟩,⟨some 4, .t (.mv (.t 11)), none⟩,⟨some 5, .t (.mv (.t 13)), none⟩,⟨some 6, .t (.mv (.t 14)), none⟩]
def F28o2 : List AOper := [⟨some 15, .t (.mv (.t 4)), none⟩,⟨some 16, .t (.mv (.t 5)), none⟩,⟨some 17, .t (.mv (.t 6)), none⟩,⟨some 4, .t (.mv (.t 15)), none⟩,⟨some 5, .t (.mv (.t 16)), none⟩,⟨some 6, .t (.mv (.t 17)), none⟩]
def F28c : ACode :=
(.seq (.ops F28o0 [0, 1])
((.seq (.ops F28o1 [4, 5, 6])
((.seq (.ops F28o2 [4, 5, 6])
(.ret))))))
def F28 : AFn := ⟨18, [.tmp 4, .tmp 5, .tmp 6], F28c⟩
theorem F28_ok : cFn Tryz.prog [] 28 = some F28 := by kernel_rfl
def F29o0 : List AOper := [⟨some 4, .t (.mv (.c (.bool false))), none⟩]
def F29o1 : List AOper := [⟨some 6, .t (.mv (.t 0)), none⟩,⟨some 7, .t (.len false (.t 6)), none⟩,⟨some 8, .t (.mv (.t 1)), none⟩,⟨some 9, .t (.len false (.t 8)), none⟩,⟨some 10, .t (.bin .neq (.t 7) (.t 9)), none⟩]
def F29o2 : List AOper := [⟨some 4, .t (.mv (.c (.bool false))), none⟩]
def F29o3 : List AOper := [⟨some 5, .t (.mv (.c (.int .i64 0))), none⟩]
def F29o4 : List AOper := [⟨some 11, .t (.mv (.t 5)), none⟩,⟨some 12, .t (.mv (.t 0)), none⟩,⟨some 13, .t (.len false (.t 12)), none⟩,⟨some 14, .t (.bin .lss (.t 11) (.t 13)), none⟩]
def F29o5 : List AOper := [⟨some 17, .t (.mv (.t 0)), none⟩,⟨some 18, .t (.mv (.t 5)), none⟩,⟨some 19, .t (.iaddr 2 (.t 17) (.t 18)), none⟩,⟨some 20, .t (.faddr 0 (.t 19)), none⟩,⟨some 21, .m (.load false 1 (.t 20)), none⟩,⟨some 22, .t (.mv (.t 1)), none⟩,⟨some 23, .t (.mv (.t 5)), none⟩,⟨some 24, .t (.iaddr 3 (.t 22) (.t 23)), none⟩,⟨some 25, .t (.faddr 0 (.t 24)), none⟩,⟨some 26, .m (.load false 1 (.t 25)), none⟩,⟨some 27, .t (.bin .neq (.t 21) (.t 26)), none⟩,⟨some 28, .t (.mv (.t 27)), none⟩,⟨some 29, .t (.mv (.t 0)), (some (28, false))⟩,
  ⟨some 30, .t (.mv (.t 5)), (some (28, false))⟩,
  ⟨some 31, .t (.iaddr 2 (.t 29) (.t 30)), (some (28, false))⟩,
  ⟨some 32, .t (.faddr 1 (.t 31)), (some (28, false))⟩,
  ⟨some 33, .m (.load false 1 (.t 32)), (some (28, false))⟩,
  ⟨some 34, .t (.mv (.t 1)), (some (28, false))⟩,
  ⟨some 35, .t (.mv (.t 5)), (some (28, false))⟩,
  ⟨some 36, .t (.iaddr 3 (.t 34) (.t 35)), (some (28, false))⟩,
  ⟨some 37, .t (.faddr 1 (.t 36)), (some (28, false))⟩,
  ⟨some 38, .m (.load false 1 (.t 37)), (some (28, false))⟩]
def F29p5 : List AOper := [⟨some 39, .t (.beq 0 true (.t 33) (.t 38)), (some (28, false))⟩,
  ⟨some 40, .t (.pick (.t 28) (.c (.bool true)) (.t 39)), none⟩]
def F29A5 : List (List Nat) := [[], [], [0, 1], [2, 0, 1], [3, 2, 0, 1], [], [], [5, 6], [7, 5, 6], [8, 7, 5, 6], [4, 9, 3, 2, 0, 1, 8, 7, 5, 6], [10, 4, 9, 3, 2, 0, 1, 8, 7, 5, 6], [11, 10, 4, 9, 3, 2, 0, 1, 8, 7, 5, 6], [11, 10, 4, 9, 3, 2, 0, 1, 8, 7, 5, 6], [12, 13, 11, 10, 4, 9, 3, 2, 0, 1, 8, 7, 5, 6], [14, 12, 13, 11, 10, 4, 9, 3, 2, 0, 1, 8, 7, 5, 6], [15, 14, 12, 13, 11, 10, 4, 9, 3, 2, 0, 1, 8, 7, 5, 6], [11, 10, 4, 9, 3, 2, 0, 1, 8, 7, 5, 6], [11, 10, 4, 9, 3, 2, 0, 1, 8, 7, 5, 6], [17, 18, 11, 10, 4, 9, 3, 2, 0, 1, 8, 7, 5, 6], [19, 17, 18, 11, 10, 4, 9, 3, 2, 0, 1, 8, 7, 5, 6], [20, 19, 17, 18, 11, 10, 4, 9, 3, 2, 0, 1, 8, 7, 5, 6], [16, 21, 15, 14, 12, 13, 20, 19, 17, 18, 11, 10, 4, 9, 3, 2, 0, 1, 8, 7, 5, 6], [22, 16, 21, 15, 14, 12, 13, 20, 19, 17, 18, 11, 10, 4, 9, 3, 2, 0, 1, 8, 7, 5, 6]]
def F29o6 : List AOper := [⟨some 4, .t (.mv (.c (.bool false))), none⟩]
def F29o7 : List AOper := [⟨some 15, .t (.mv (.t 5)), none⟩,⟨some 16, .t (.bin .add (.t 15) (.c (.int .i64 1))), none⟩,⟨some 5, .t (.mv (.t 16)), none⟩]
def F29b8 : ACode :=
(.seq ((.seq (.ops F29o4 [0, 1, 5, 14])
(.cond (.t 14)
(.skip)
(.exit 0))))
((.seq (.block 1 ((.seq (.draw F29A5 F29o5 F29p5 [0, 1, 5, 40])
(.cond (.t 40)
((.seq (.ops F29o6 [4])
(.ret)))
(.skip)))))
(.ops F29o7 [0, 1, 5]))))
def F29o9 : List AOper := [⟨some 4, .t (.mv (.c (.bool true))), none⟩]
def F29c : ACode :=
(.seq (.ops F29o0 [0, 1])
((.seq ((.seq (.ops F29o1 [0, 1, 10])
(.cond (.t 10)
((.seq (.ops F29o2 [4])
(.ret)))
(.skip))))
((.seq ((.seq (.ops F29o3 [0, 1, 5])
(.block 0 (.loop [0, 1, 5] F29b8))))
((.seq (.ops F29o9 [4])
(.ret))))))))
def F29 : AFn := ⟨41, [.tmp 4], F29c⟩
theorem F29_ok : cFn Tryz.prog [] 29 = some F29 := by kernel_rfl
def F32o0 : List AOper := [⟨some 1, .m (.box 26 (.t 0)), none⟩,⟨some 2, .t (.mv (.c (.bool false))), none⟩]
def F32o1 : List AOper := [⟨some 3, .t (.faddr 0 (.t 1)), none⟩,⟨some 4, .m (.load false 1 (.t 3)), none⟩,⟨some 5, .t (.bin .geq (.t 4) (.c (.int .i64 1))), none⟩,⟨some 6, .t (.mv (.t 5)), none⟩,⟨some 7, .t (.faddr 0 (.t 1)), (some (6, true))⟩,
  ⟨some 8, .m (.load false 1 (.t 7)), (some (6, true))⟩,
  ⟨some 9, .t (.bin .leq (.t 8) (.c (.int .i64 7))), (some (6, true))⟩,
  ⟨some 10, .t (.pick (.t 6) (.t 9) (.c (.bool false))), none⟩,⟨some 2, .t (.mv (.t 10)), none⟩]
def F32c : ACode :=
(.seq (.ops F32o0 [1])
((.seq (.ops F32o1 [2])
(.ret))))
def F32 : AFn := ⟨11, [.tmp 2], F32c⟩
theorem F32_ok : cFn Tryz.prog [] 32 = some F32 := by kernel_rfl
def F33o0 : List AOper := [⟨some 2, .m (.alloc 71 [(.int .i64 0), (.int .i64 0)]), none⟩,⟨some 3, .t (.mv (.c (.int .i64 0))), none⟩]
def F33o1 : List AOper := [⟨some 13, .t (.mv (.t 0)), none⟩,⟨some 14, .t (.bin .eql (.t 13) (.c (.str []))), none⟩,⟨some 12, .t (.mv (.t 14)), none⟩]
def F33o2 : List AOper := [⟨some 15, .t (.build [(.int .i64 0), (.int .i64 0)] []), none⟩,⟨none, .m (.store 2 (.t 2) (.t 15)), none⟩,⟨some 3, .t (.mv (.c (.int .i64 4))), none⟩]
def F33o3 : List AOper := [⟨some 17, .t (.mv (.t 0)), none⟩,⟨some 18, .t (.len true (.t 17)), none⟩,⟨some 19, .t (.bin .gtr (.t 18) (.c (.int .i64 17))), none⟩,⟨some 16, .t (.mv (.t 19)), none⟩]
def F33o4 : List AOper := [⟨some 20, .t (.build [(.int .i64 0), (.int .i64 0)] []), none⟩,⟨none, .m (.store 2 (.t 2) (.t 20)), none⟩,⟨some 3, .t (.mv (.c (.int .i64 5))), none⟩]
def F33o5 : List AOper := [⟨some 22, .t (.mv (.t 0)), none⟩,⟨some 23, .call (.c (.clo 71 [] [])) [(.t 22), (.c (.str [46]))], none⟩,⟨some 21, .t (.mv (.t 23)), none⟩,⟨some 24, .t (.ext (.t 21) 0), none⟩,⟨some 25, .t (.ext (.t 21) 1), none⟩,⟨some 26, .t (.ext (.t 21) 2), none⟩,⟨some 4, .t (.mv (.t 24)), none⟩,⟨some 5, .t (.mv (.t 25)), none⟩,⟨some 6, .t (.mv (.t 26)), none⟩]
def F33o6 : List AOper := [⟨some 28, .t (.mv (.t 4)), none⟩,⟨some 29, .t (.mv (.t 5)), none⟩,⟨some 30, .t (.bin .add (.t 28) (.t 29)), none⟩,⟨some 31, .call (.c (.clo 72 [] [])) [(.t 30)], none⟩,⟨some 27, .t (.mv (.t 31)), none⟩,⟨some 32, .t (.ext (.t 27) 0), none⟩,⟨some 33, .t (.ext (.t 27) 1), none⟩,⟨some 7, .t (.mv (.t 32)), none⟩,⟨some 8, .t (.mv (.t 33)), none⟩]
def F33o7 : List AOper := [⟨some 34, .t (.mv (.t 7)), none⟩,⟨some 35, .t (.mv (.t 5)), none⟩,⟨some 36, .t (.len true (.t 35)), none⟩,⟨some 37, .t (.build [(.int .i64 0), (.int .i64 0)] [(0, 1, (.t 34)), (1, 1, (.t 36))]), none⟩,⟨some 9, .m (.alloc 71 [(.int .i64 0), (.int .i64 0)]), none⟩,⟨none, .m (.store 2 (.t 9) (.t 37)), none⟩]
def F33o8 : List AOper := [⟨some 39, .m (.load true 2 (.t 9)), none⟩,⟨some 40, .call (.c (.clo 42 [] [])) [(.t 39)], none⟩,⟨some 38, .t (.mv (.t 40)), none⟩,⟨some 41, .t (.ext (.t 38) 0), none⟩,⟨some 42, .t (.ext (.t 38) 1), none⟩,⟨some 10, .t (.mv (.t 41)), none⟩,⟨some 11, .t (.mv (.t 42)), none⟩]
def F33o9 : List AOper := [⟨some 43, .t (.mv (.t 8)), none⟩,⟨some 44, .m (.xop (.inil true (.t 43) (.c .nili))), none⟩,⟨some 45, .t (.mv (.t 44)), none⟩,⟨some 46, .t (.mv (.t 11)), (some (45, false))⟩,
  ⟨some 47, .t (.bin .neq (.t 46) (.c (.int .i64 0))), (some (45, false))⟩,
  ⟨some 48, .t (.pick (.t 45) (.c (.bool true)) (.t 47)), none⟩,⟨some 49, .t (.mv (.t 48)), none⟩,⟨some 50, .t (.mv (.t 10)), (some (49, false))⟩,
  ⟨some 51, .t (.mv (.t 0)), (some (49, false))⟩,
  ⟨some 52, .t (.bin .neq (.t 50) (.t 51)), (some (49, false))⟩,
  ⟨some 53, .t (.pick (.t 49) (.c (.bool true)) (.t 52)), none⟩,⟨some 54, .t (.mv (.t 53)), none⟩,⟨some 55, .t (.mv (.t 6)), (some (54, false))⟩,
  ⟨some 56, .t (.mv (.t 55)), (some (54, false))⟩,
  ⟨some 57, .t (.mv (.t 5)), (some (56, true))⟩,
  ⟨some 58, .t (.bin .eql (.t 57) (.c (.str []))), (some (56, true))⟩,
  ⟨some 59, .t (.pick (.t 56) (.t 58) (.c (.bool false))), (some (54, false))⟩,
  ⟨some 60, .t (.pick (.t 54) (.c (.bool true)) (.t 59)), none⟩]
def F33o10 : List AOper := [⟨some 61, .t (.build [(.int .i64 0), (.int .i64 0)] []), none⟩,⟨none, .m (.store 2 (.t 2) (.t 61)), none⟩,⟨some 3, .t (.mv (.c (.int .i64 13))), none⟩]
def F33o11 : List AOper := [⟨some 62, .m (.load true 2 (.t 9)), none⟩,⟨none, .m (.store 2 (.t 2) (.t 62)), none⟩,⟨some 3, .t (.mv (.c (.int .i64 0))), none⟩]
def F33c : ACode :=
(.seq (.ops F33o0 [0, 2])
((.seq (.block 0 ((.seq (.ops F33o1 [0, 2, 12])
(.cond (.t 12)
((.seq (.ops F33o2 [2, 3])
(.ret)))
((.seq (.ops F33o3 [0, 2, 16])
(.cond (.t 16)
((.seq (.ops F33o4 [2, 3])
(.ret)))
(.skip))))))))
((.seq (.ops F33o5 [0, 2, 4, 5, 6])
((.seq (.ops F33o6 [0, 2, 5, 6, 7, 8])
((.seq (.ops F33o7 [0, 2, 5, 6, 8, 9])
((.seq ((.seq (.ops F33o8 [0, 2, 5, 6, 8, 9, 10, 11])
((.seq (.ops F33o9 [2, 9, 60])
(.cond (.t 60)
((.seq (.ops F33o10 [2, 3])
(.ret)))
(.skip))))))
((.seq (.ops F33o11 [2, 3])
(.ret))))))))))))))
def F33 : AFn := ⟨63, [.cell 2 true 2, .tmp 3], F33c⟩
theorem F33_ok : cFn Tryz.prog [44] 33 = some F33 := by kernel_rfl
def F35o0 : List AOper := [⟨some 2, .t (.mv (.c (.int .i64 0))), none⟩,⟨some 3, .t (.mv (.c (.int .i64 0))), none⟩]
def F35o1 : List AOper := [⟨some 8, .t (.mv (.t 0)), none⟩,⟨some 9, .m (.bslice false 9 1 3 [(.c (.str [])), (.c (.str [45])), (.c (.str [45]))]), none⟩,⟨some 10, .m (.bslice false 3 1 3 [(.c (.int .i64 4)), (.c (.int .i64 2)), (.c (.int .i64 2))]), none⟩,⟨some 11, .call (.c (.clo 74 [] [])) [(.t 8), (.t 9), (.t 10)], none⟩,⟨some 7, .t (.mv (.t 11)), none⟩,⟨some 12, .t (.ext (.t 7) 0), none⟩,⟨some 13, .t (.ext (.t 7) 1), none⟩,⟨some 14, .t (.ext (.t 7) 2), none⟩,⟨some 4, .t (.mv (.t 12)), none⟩,⟨some 5, .t (.mv (.t 13)), none⟩,⟨some 6, .t (.mv (.t 14)), none⟩]
def F35o2 : List AOper := [⟨some 15, .t (.mv (.t 6)), none⟩,⟨some 16, .t (.not (.t 15)), none⟩,⟨some 17, .t (.mv (.t 16)), none⟩,⟨some 18, .t (.mv (.t 5)), (some (17, false))⟩,
  ⟨some 19, .t (.bin .neq (.t 18) (.c (.str []))), (some (17, false))⟩,
  ⟨some 20, .t (.pick (.t 17) (.c (.bool true)) (.t 19)), none⟩]
def F35o3 : List AOper := [⟨some 2, .t (.mv (.c (.int .i64 0))), none⟩,⟨some 3, .t (.mv (.c (.int .i64 13))), none⟩]
def F35o4 : List AOper := [⟨some 21, .t (.mv (.t 4)), none⟩,⟨some 22, .t (.iaddr 1 (.t 21) (.c (.int .i64 0))), none⟩,⟨some 23, .m (.load false 1 (.t 22)), none⟩,⟨some 24, .t (.mv (.t 4)), none⟩,⟨some 25, .t (.iaddr 1 (.t 24) (.c (.int .i64 1))), none⟩,⟨some 26, .m (.load false 1 (.t 25)), none⟩,⟨some 27, .t (.mv (.t 4)), none⟩,⟨some 28, .t (.iaddr 1 (.t 27) (.c (.int .i64 2))), none⟩,⟨some 29, .m (.load false 1 (.t 28)), none⟩,⟨some 30, .call (.c (.clo 75 [] [])) [(.t 23), (.t 26), (.t 29)], none⟩,⟨some 31, .t (.ext (.t 30) 0), none⟩,⟨some 32, .t (.ext (.t 30) 1), none⟩]
def F35p4 : List AOper := [⟨some 2, .t (.mv (.t 31)), none⟩,⟨some 3, .t (.mv (.t 32)), none⟩]
def F35A4 : List (List Nat) := [[], [0], [1, 0], [], [3], [4, 3], [], [6], [7, 6], [2, 5, 8, 1, 0, 4, 3, 7, 6], [9, 2, 5, 8, 1, 0, 4, 3, 7, 6], [9, 2, 5, 8, 1, 0, 4, 3, 7, 6], [10, 11, 9, 2, 5, 8, 1, 0, 4, 3, 7, 6], [12, 10, 11, 9, 2, 5, 8, 1, 0, 4, 3, 7, 6]]
def F35c : ACode :=
(.seq (.ops F35o0 [0])
((.seq (.ops F35o1 [4, 5, 6])
((.seq ((.seq (.ops F35o2 [4, 20])
(.cond (.t 20)
((.seq (.ops F35o3 [2, 3])
(.ret)))
(.skip))))
((.seq (.draw F35A4 F35o4 F35p4 [2, 3])
(.ret))))))))
def F35 : AFn := ⟨33, [.tmp 2, .tmp 3], F35c⟩
theorem F35_ok : cFn Tryz.prog [] 35 = some F35 := by kernel_rfl
def F37o0 : List AOper := [⟨some 2, .m (.box 26 (.t 0)), none⟩,⟨some 3, .m (.box 31 (.t 1)), none⟩,⟨some 4, .t (.mv (.c (.bool false))), none⟩]
def F37o1 : List AOper := [⟨some 5, .m (.alloc 4 [(.bool false)]), none⟩,⟨none, .m (.store 1 (.t 5) (.c (.bool true))), none⟩]
def F37o2 : List AOper := [⟨some 7, .t (.clo 79 [] [(.t 5)]), none⟩,⟨some 8, .t (.build [.nilf, (.bool false)] [(0, 1, (.t 7))]), none⟩,⟨some 6, .m (.alloc 133 [.nilf, (.bool false)]), none⟩,⟨none, .m (.store 2 (.t 6) (.t 8)), none⟩]
def F37o3 : List AOper := [⟨some 9, .m (.load true 7 (.t 2)), none⟩,⟨some 10, .m (.load true 6 (.t 3)), none⟩,⟨some 11, .call (.c (.clo 80 [] [])) [(.t 6), (.t 9), (.t 10), (.c (.str []))], none⟩]
def F37o4 : List AOper := [⟨some 12, .m (.load false 1 (.t 5)), none⟩,⟨some 4, .t (.mv (.t 12)), none⟩]
def F37c : ACode :=
(.seq (.ops F37o0 [2, 3])
((.seq (.ops F37o1 [2, 3, 5])
((.seq (.ops F37o2 [2, 3, 5, 6])
((.seq (.ops F37o3 [5])
((.seq (.ops F37o4 [4])
(.ret))))))))))
def F37 : AFn := ⟨13, [.tmp 4], F37c⟩
theorem F37_ok : cFn Tryz.prog [] 37 = some F37 := by kernel_rfl
def F40o0 : List AOper := [⟨some 0, .m (.alloc 26 [(.int .i64 0), (.int .i64 0), (.int .i64 0), (.int .i64 0), .nils, .nils, .nils]), none⟩]
def F40o1 : List AOper := [⟨some 1, .t (.build [(.int .i64 0), (.int .i64 0), (.int .i64 0), (.int .i64 0), .nils, .nils, .nils] [(0, 1, (.c (.int .i64 2))), (1, 1, (.c (.int .i64 0))), (2, 1, (.c (.int .i64 99)))]), none⟩,⟨some 2, .t (.build [(.int .i64 0), (.str []), (.int .i64 0), (.int .i64 0), (.int .i64 0), (.int .i64 0), (.int .i64 0), .nils, .nils, .nils, .nils] [(0, 1, (.c (.int .i64 1))), (1, 1, (.c (.str [105, 100]))), (2, 1, (.c (.int .i64 1))), (3, 7, (.t 1))]), none⟩,⟨some 3, .t (.build [(.int .i64 0), (.int .i64 0), (.int .i64 0), (.int .i64 0), .nils, .nils, .nils] [(0, 1, (.c (.int .i64 4))), (2, 1, (.c (.int .i64 9)))]), none⟩,⟨some 4, .t (.build [(.int .i64 0), (.str []), (.int .i64 0), (.int .i64 0), (.int .i64 0), (.int .i64 0), (.int .i64 0), .nils, .nils, .nils, .nils] [(0, 1, (.c (.int .i64 2))), (1, 1, (.c (.str [110, 97, 109, 101]))), (2, 1, (.c (.int .i64 2))), (3, 7, (.t 3))]), none⟩,⟨some 5, .t (.build [(.int .i64 0), (.int .i64 0), (.int .i64 0), (.int .i64 0), .nils, .nils, .nils] [(0, 1, (.c (.int .i64 6))), (1, 1, (.c (.int .i64 0))), (2, 1, (.c (.int .i64 40000)))]), none⟩,⟨some 6, .t (.build [(.int .i64 0), (.str []), (.int .i64 0), (.int .i64 0), (.int .i64 0), (.int .i64 0), (.int .i64 0), .nils, .nils, .nils, .nils] [(0, 1, (.c (.int .i64 3))), (1, 1, (.c (.str [100, 117, 101]))), (2, 1, (.c (.int .i64 1))), (3, 7, (.t 5))]), none⟩,⟨some 7, .m (.bslice false 98 11 3 [(.t 2), (.t 4), (.t 6)]), none⟩,⟨some 8, .t (.build [(.int .i64 0), (.int .i64 0), (.int .i64 0), (.int .i64 0), .nils, .nils, .nils] [(0, 1, (.c (.int .i64 9))), (6, 1, (.t 7))]), none⟩,⟨none, .m (.store 7 (.t 0) (.t 8)), none⟩]
def F40c : ACode :=
(.seq (.ops F40o0 [0])
((.seq (.ops F40o1 [0])
(.ret))))
def F40 : AFn := ⟨9, [.cell 0 true 7], F40c⟩
theorem F40_ok : cFn Tryz.prog [] 40 = some F40 := by kernel_rfl
def F42o0 : List AOper := [⟨some 1, .m (.box 71 (.t 0)), none⟩,⟨some 2, .t (.mv (.c (.str []))), none⟩,⟨some 3, .t (.mv (.c (.int .i64 0))), none⟩]
def F42o1 : List AOper := [⟨some 6, .m (.load true 2 (.t 1)), none⟩,⟨some 7, .call (.c (.clo 86 [] [])) [(.t 6)], none⟩,⟨some 4, .t (.mv (.t 7)), none⟩]
def F42o2 : List AOper := [⟨some 8, .t (.mv (.t 4)), none⟩,⟨some 9, .t (.bin .neq (.t 8) (.c (.int .i64 0))), none⟩]
def F42o3 : List AOper := [⟨some 10, .t (.mv (.t 4)), none⟩,⟨some 2, .t (.mv (.c (.str []))), none⟩,⟨some 3, .t (.mv (.t 10)), none⟩]
def F42o4 : List AOper := [⟨some 11, .t (.faddr 0 (.t 1)), none⟩,⟨some 12, .m (.load false 1 (.t 11)), none⟩,⟨some 13, .call (.c (.clo 88 [] [])) [(.t 12)], none⟩,⟨some 14, .call (.c (.clo 87 [] [])) [(.t 13)], none⟩,⟨some 5, .t (.mv (.t 14)), none⟩]
def F42o5 : List AOper := [⟨some 15, .t (.faddr 1 (.t 1)), none⟩,⟨some 16, .m (.load false 1 (.t 15)), none⟩,⟨some 17, .t (.bin .gtr (.t 16) (.c (.int .i64 0))), none⟩]
def F42o6 : List AOper := [⟨some 18, .t (.faddr 1 (.t 1)), none⟩,⟨some 19, .m (.load false 1 (.t 18)), none⟩,⟨some 20, .t (.bin .add (.t 19) (.c (.int .i64 1))), none⟩,⟨some 21, .t (.mv (.t 5)), none⟩,⟨some 22, .t (.len true (.t 21)), none⟩,⟨some 23, .t (.bin .sub (.t 20) (.t 22)), none⟩,⟨some 24, .t (.imax (.c (.int .i64 0)) (.t 23)), none⟩,⟨some 25, .call (.c (.clo 89 [] [])) [(.c (.str [48])), (.t 24)], none⟩,⟨some 26, .t (.mv (.t 5)), none⟩,⟨some 27, .t (.bin .add (.t 25) (.t 26)), none⟩,⟨some 5, .t (.mv (.t 27)), none⟩]
def F42o7 : List AOper := [⟨some 28, .t (.mv (.t 5)), none⟩,⟨some 29, .t (.mv (.t 5)), none⟩,⟨some 30, .t (.len true (.t 29)), none⟩,⟨some 31, .t (.faddr 1 (.t 1)), none⟩,⟨some 32, .m (.load false 1 (.t 31)), none⟩,⟨some 33, .t (.bin .sub (.t 30) (.t 32)), none⟩,⟨some 34, .t (.sliceS (.t 28) none (some (.t 33))), none⟩,⟨some 35, .t (.bin .add (.t 34) (.c (.str [46]))), none⟩,⟨some 36, .t (.mv (.t 5)), none⟩,⟨some 37, .t (.mv (.t 5)), none⟩,⟨some 38, .t (.len true (.t 37)), none⟩,⟨some 39, .t (.faddr 1 (.t 1)), none⟩,⟨some 40, .m (.load false 1 (.t 39)), none⟩,⟨some 41, .t (.bin .sub (.t 38) (.t 40)), none⟩,⟨some 42, .t (.sliceS (.t 36) (some (.t 41)) none), none⟩]
def F42p7 : List AOper := [⟨some 43, .t (.bin .add (.t 35) (.t 42)), none⟩,⟨some 5, .t (.mv (.t 43)), none⟩]
def F42A7 : List (List Nat) := [[], [], [1], [], [3], [2, 4, 1, 3], [0, 5, 2, 4, 1, 3], [6, 0, 5, 2, 4, 1, 3], [], [], [9], [], [11], [10, 12, 9, 11], [8, 13, 10, 12, 9, 11], [7, 14, 6, 0, 5, 2, 4, 1, 3, 8, 13, 10, 12, 9, 11], [15, 7, 14, 6, 0, 5, 2, 4, 1, 3, 8, 13, 10, 12, 9, 11]]
def F42o8 : List AOper := [⟨some 44, .t (.faddr 0 (.t 1)), none⟩,⟨some 45, .m (.load false 1 (.t 44)), none⟩,⟨some 46, .t (.bin .lss (.t 45) (.c (.int .i64 0))), none⟩]
def F42o9 : List AOper := [⟨some 47, .t (.mv (.t 5)), none⟩,⟨some 48, .t (.bin .add (.c (.str [45])) (.t 47)), none⟩,⟨some 5, .t (.mv (.t 48)), none⟩]
def F42o10 : List AOper := [⟨some 49, .t (.mv (.t 5)), none⟩,⟨some 2, .t (.mv (.t 49)), none⟩,⟨some 3, .t (.mv (.c (.int .i64 0))), none⟩]
def F42c : ACode :=
(.seq (.ops F42o0 [1])
((.seq ((.seq (.ops F42o1 [1, 4])
((.seq (.ops F42o2 [1, 4, 9])
(.cond (.t 9)
((.seq (.ops F42o3 [2, 3])
(.ret)))
(.skip))))))
((.seq (.ops F42o4 [1, 5])
((.seq ((.seq (.ops F42o5 [1, 5, 17])
(.cond (.t 17)
((.seq (.ops F42o6 [1, 5])
(.draw F42A7 F42o7 F42p7 [1, 5])))
(.skip))))
((.seq ((.seq (.ops F42o8 [5, 46])
(.cond (.t 46)
(.ops F42o9 [5])
(.skip))))
((.seq (.ops F42o10 [2, 3])
(.ret))))))))))))
def F42 : AFn := ⟨50, [.tmp 2, .tmp 3], F42c⟩
theorem F42_ok : cFn Tryz.prog [] 42 = some F42 := by kernel_rfl
def F43o0 : List AOper := [⟨some 4, .t (.mv (.c .nili)), none⟩]
def F43o1 : List AOper := [⟨some 5, .t (.mv (.t 0)), none⟩,⟨some 6, .call (.c (.clo 90 [] [])) [(.t 5)], none⟩]
def F43o2 : List AOper := [⟨some 7, .t (.mv (.t 0)), none⟩,⟨some 8, .t (.mv (.t 0)), none⟩,⟨some 9, .t (.nilck (.t 8)), none⟩,⟨some 10, .t (.faddr 1 (.t 9)), none⟩,⟨some 11, .m (.load false 1 (.t 10)), none⟩,⟨some 12, .t (.mv (.t 1)), none⟩,⟨some 13, .m (.bslice false 5 1 1 [(.t 12)]), none⟩,⟨some 14, .m (.append true 5 1 1 (.t 11) (.t 13)), none⟩,⟨some 15, .t (.nilck (.t 7)), none⟩,⟨some 16, .t (.faddr 1 (.t 15)), none⟩,⟨none, .m (.store 1 (.t 16) (.t 14)), none⟩]
def F43o3 : List AOper := [⟨some 4, .t (.mv (.c .nili)), none⟩]
def F43c : ACode :=
(.seq (.ops F43o0 [0, 1])
((.seq (.ops F43o1 [0, 1])
((.seq (.ops F43o2 [])
((.seq (.ops F43o3 [4])
(.ret))))))))
def F43 : AFn := ⟨17, [.tmp 4], F43c⟩
theorem F43_ok : cFn Tryz.prog [14] 43 = some F43 := by kernel_rfl
def F44o0 : List AOper := [⟨some 2, .t (.mv (.c (.str []))), none⟩]
def F44o1 : List AOper := [⟨some 3, .t (.mv (.t 0)), none⟩,⟨some 4, .t (.nilck (.t 3)), none⟩,⟨some 5, .t (.faddr 1 (.t 4)), none⟩,⟨some 6, .m (.load false 1 (.t 5)), none⟩,⟨some 7, .m (.xop (.sdata (.t 6))), none⟩,⟨some 8, .t (.mv (.t 0)), none⟩,⟨some 9, .t (.nilck (.t 8)), none⟩,⟨some 10, .t (.faddr 1 (.t 9)), none⟩,⟨some 11, .m (.load false 1 (.t 10)), none⟩,⟨some 12, .t (.len false (.t 11)), none⟩]
def F44p1 : List AOper := [⟨some 13, .m (.xop (.ustr 5 (.t 7) (.t 12))), none⟩,⟨some 2, .t (.mv (.t 13)), none⟩]
def F44A1 : List (List Nat) := [[], [0], [1, 0], [2, 1, 0], [3, 2, 1, 0], [], [5], [6, 5], [7, 6, 5], [8, 7, 6, 5], [4, 9, 3, 2, 1, 0, 8, 7, 6, 5], [10, 4, 9, 3, 2, 1, 0, 8, 7, 6, 5]]
def F44c : ACode :=
(.seq (.ops F44o0 [0])
((.seq (.draw F44A1 F44o1 F44p1 [2])
(.ret))))
def F44 : AFn := ⟨14, [.tmp 2], F44c⟩
theorem F44_ok : cFn Tryz.prog [] 44 = some F44 := by kernel_rfl
def F45o0 : List AOper := [⟨some 2, .t (.mv (.c (.str []))), none⟩,⟨some 3, .t (.mv (.c (.int .i64 0))), none⟩]
def F45o1 : List AOper := [⟨some 9, .t (.mv (.t 0)), none⟩,⟨some 10, .call (.c (.clo 91 [] [])) [(.t 9)], none⟩,⟨some 8, .t (.mv (.t 10)), none⟩,⟨some 11, .t (.ext (.t 8) 0), none⟩,⟨some 12, .t (.ext (.t 8) 1), none⟩,⟨some 13, .t (.ext (.t 8) 2), none⟩,⟨some 14, .t (.ext (.t 8) 3), none⟩,⟨some 4, .t (.mv (.t 11)), none⟩,⟨some 5, .t (.mv (.t 12)), none⟩,⟨some 6, .t (.mv (.t 13)), none⟩,⟨some 7, .t (.mv (.t 14)), none⟩]
def F45o2 : List AOper := [⟨some 15, .t (.mv (.t 7)), none⟩,⟨some 16, .t (.bin .neq (.t 15) (.c (.int .i64 0))), none⟩]
def F45o3 : List AOper := [⟨some 17, .t (.mv (.t 7)), none⟩,⟨some 2, .t (.mv (.c (.str []))), none⟩,⟨some 3, .t (.mv (.t 17)), none⟩]
def F45o4 : List AOper := [⟨some 18, .t (.mv (.t 4)), none⟩,⟨some 19, .call (.c (.clo 92 [] [])) [(.t 18), (.c (.int .i64 4))], none⟩,⟨some 20, .t (.bin .add (.t 19) (.c (.str [45]))), none⟩,⟨some 21, .t (.mv (.t 5)), none⟩,⟨some 22, .call (.c (.clo 92 [] [])) [(.t 21), (.c (.int .i64 2))], none⟩,⟨some 23, .t (.bin .add (.t 20) (.t 22)), none⟩,⟨some 24, .t (.bin .add (.t 23) (.c (.str [45]))), none⟩,⟨some 25, .t (.mv (.t 6)), none⟩,⟨some 26, .call (.c (.clo 92 [] [])) [(.t 25), (.c (.int .i64 2))], none⟩,⟨some 27, .t (.bin .add (.t 24) (.t 26)), none⟩,⟨some 2, .t (.mv (.t 27)), none⟩,⟨some 3, .t (.mv (.c (.int .i64 0))), none⟩]
def F45c : ACode :=
(.seq (.ops F45o0 [0])
((.seq (.ops F45o1 [4, 5, 6, 7])
((.seq ((.seq (.ops F45o2 [4, 5, 6, 7, 16])
(.cond (.t 16)
((.seq (.ops F45o3 [2, 3])
(.ret)))
(.skip))))
((.seq (.ops F45o4 [2, 3])
(.ret))))))))
def F45 : AFn := ⟨28, [.tmp 2, .tmp 3], F45c⟩
theorem F45_ok : cFn Tryz.prog [] 45 = some F45 := by kernel_rfl
def F47o0 : List AOper := [⟨some 2, .t (.mv (.c (.bool false))), none⟩]
def F47o1 : List AOper := [⟨some 3, .t (.mv (.t 0)), none⟩,⟨some 4, .t (.bin .geq (.t 3) (.c (.int .i64 0))), none⟩,⟨some 5, .t (.mv (.t 4)), none⟩,⟨some 6, .t (.mv (.t 0)), (some (5, true))⟩,
  ⟨some 7, .t (.bin .lss (.t 6) (.c (.int .i64 128))), (some (5, true))⟩,
  ⟨some 8, .t (.pick (.t 5) (.t 7) (.c (.bool false))), none⟩,⟨some 9, .t (.mv (.t 8)), none⟩,⟨some 10, .t (.mv (.t 0)), (some (9, true))⟩,
  ⟨some 11, .t (.conv .u8 (.t 10)), (some (9, true))⟩,
  ⟨some 12, .call (.c (.clo 73 [] [])) [(.c (.str [9, 44, 59, 124, 58, 94, 126, 35])), (.t 11)], (some (9, true))⟩,
  ⟨some 13, .t (.bin .geq (.t 12) (.c (.int .i64 0))), (some (9, true))⟩,
  ⟨some 14, .t (.pick (.t 9) (.t 13) (.c (.bool false))), none⟩,⟨some 2, .t (.mv (.t 14)), none⟩]
def F47c : ACode :=
(.seq (.ops F47o0 [0])
((.seq (.ops F47o1 [2])
(.ret))))
def F47 : AFn := ⟨15, [.tmp 2], F47c⟩
theorem F47_ok : cFn Tryz.prog [] 47 = some F47 := by kernel_rfl
def F48o0 : List AOper := [⟨some 1, .m (.box 26 (.t 0)), none⟩,⟨some 2, .t (.mv (.c (.int .i64 0))), none⟩]
def F48o1 : List AOper := [⟨some 3, .m (.alloc 3 [(.int .i64 0)]), none⟩,⟨none, .m (.store 1 (.t 3) (.c (.int .i64 4096))), none⟩]
def F48o2 : List AOper := [⟨some 5, .m (.load true 7 (.t 1)), none⟩,⟨some 6, .call (.c (.clo 94 [] [])) [(.t 5), (.c (.int .i64 1)), (.t 3)], none⟩,⟨some 4, .t (.mv (.t 6)), none⟩]
def F48o3 : List AOper := [⟨some 7, .t (.mv (.t 4)), none⟩,⟨some 8, .t (.bin .neq (.t 7) (.c (.int .i64 0))), none⟩]
def F48o4 : List AOper := [⟨some 9, .t (.mv (.t 4)), none⟩,⟨some 2, .t (.mv (.t 9)), none⟩]
def F48o5 : List AOper := [⟨some 10, .m (.load true 7 (.t 1)), none⟩,⟨some 11, .call (.c (.clo 95 [] [])) [(.t 10)], none⟩,⟨some 12, .t (.bin .gtr (.t 11) (.c (.int .i64 4096))), none⟩]
def F48o6 : List AOper := [⟨some 2, .t (.mv (.c (.int .i64 9))), none⟩]
def F48o7 : List AOper := [⟨some 2, .t (.mv (.c (.int .i64 0))), none⟩]
def F48c : ACode :=
(.seq (.ops F48o0 [1])
((.seq (.ops F48o1 [1, 3])
((.seq ((.seq (.ops F48o2 [1, 4])
((.seq (.ops F48o3 [1, 4, 8])
(.cond (.t 8)
((.seq (.ops F48o4 [2])
(.ret)))
(.skip))))))
((.seq ((.seq (.ops F48o5 [12])
(.cond (.t 12)
((.seq (.ops F48o6 [2])
(.ret)))
(.skip))))
((.seq (.ops F48o7 [2])
(.ret))))))))))
def F48 : AFn := ⟨13, [.tmp 2], F48c⟩
theorem F48_ok : cFn Tryz.prog [] 48 = some F48 := by kernel_rfl
def F49o0 : List AOper := [⟨some 1, .m (.box 26 (.t 0)), none⟩,⟨some 2, .t (.mv (.c (.bool false))), none⟩]
def F49o1 : List AOper := [⟨some 3, .t (.faddr 0 (.t 1)), none⟩,⟨some 4, .m (.load false 1 (.t 3)), none⟩,⟨some 5, .t (.bin .eql (.t 4) (.c (.int .i64 9))), none⟩,⟨some 6, .t (.mv (.t 5)), none⟩,⟨some 7, .t (.faddr 6 (.t 1)), (some (6, true))⟩,
  ⟨some 8, .m (.load false 1 (.t 7)), (some (6, true))⟩,
  ⟨some 9, .t (.len false (.t 8)), (some (6, true))⟩,
  ⟨some 10, .t (.bin .gtr (.t 9) (.c (.int .i64 0))), (some (6, true))⟩,
  ⟨some 11, .t (.pick (.t 6) (.t 10) (.c (.bool false))), none⟩,⟨some 12, .t (.mv (.t 11)), none⟩,⟨some 13, .t (.faddr 6 (.t 1)), (some (12, true))⟩,
  ⟨some 14, .m (.load false 1 (.t 13)), (some (12, true))⟩,
  ⟨some 15, .call (.c (.clo 96 [] [])) [(.t 14), (.c (.clo 97 [] []))], (some (12, true))⟩,
  ⟨some 16, .t (.not (.t 15)), (some (12, true))⟩,
  ⟨some 17, .t (.pick (.t 12) (.t 16) (.c (.bool false))), none⟩,⟨some 2, .t (.mv (.t 17)), none⟩]
def F49c : ACode :=
(.seq (.ops F49o0 [1])
((.seq (.ops F49o1 [2])
(.ret))))
def F49 : AFn := ⟨18, [.tmp 2], F49c⟩
theorem F49_ok : cFn Tryz.prog [] 49 = some F49 := by kernel_rfl
def F50o0 : List AOper := [⟨some 2, .t (.mv (.c (.bool false))), none⟩]
def F50o1 : List AOper := [⟨some 3, .t (.mv (.t 0)), none⟩,⟨some 4, .t (.bin .eql (.t 3) (.c (.int .i64 9))), none⟩,⟨some 5, .t (.mv (.t 4)), none⟩,⟨some 6, .t (.mv (.t 0)), (some (5, false))⟩,
  ⟨some 7, .t (.bin .eql (.t 6) (.c (.int .i64 44))), (some (5, false))⟩,
  ⟨some 8, .t (.pick (.t 5) (.c (.bool true)) (.t 7)), none⟩,⟨some 9, .t (.mv (.t 8)), none⟩,⟨some 10, .t (.mv (.t 0)), (some (9, false))⟩,
  ⟨some 11, .t (.bin .eql (.t 10) (.c (.int .i64 59))), (some (9, false))⟩,
  ⟨some 12, .t (.pick (.t 9) (.c (.bool true)) (.t 11)), none⟩,⟨some 13, .t (.mv (.t 12)), none⟩,⟨some 14, .t (.mv (.t 0)), (some (13, false))⟩,
  ⟨some 15, .t (.bin .eql (.t 14) (.c (.int .i64 124))), (some (13, false))⟩,
  ⟨some 16, .t (.pick (.t 13) (.c (.bool true)) (.t 15)), none⟩,⟨some 17, .t (.mv (.t 16)), none⟩,⟨some 18, .t (.mv (.t 0)), (some (17, false))⟩,
  ⟨some 19, .t (.bin .eql (.t 18) (.c (.int .i64 58))), (some (17, false))⟩,
  ⟨some 20, .t (.pick (.t 17) (.c (.bool true)) (.t 19)), none⟩,⟨some 21, .t (.mv (.t 20)), none⟩,⟨some 22, .t (.mv (.t 0)), (some (21, false))⟩,
  ⟨some 23, .t (.bin .eql (.t 22) (.c (.int .i64 94))), (some (21, false))⟩,
  ⟨some 24, .t (.pick (.t 21) (.c (.bool true)) (.t 23)), none⟩,⟨some 25, .t (.mv (.t 24)), none⟩,⟨some 26, .t (.mv (.t 0)), (some (25, false))⟩,
  ⟨some 27, .t (.bin .eql (.t 26) (.c (.int .i64 126))), (some (25, false))⟩,
  ⟨some 28, .t (.pick (.t 25) (.c (.bool true)) (.t 27)), none⟩,⟨some 29, .t (.mv (.t 28)), none⟩,⟨some 30, .t (.mv (.t 0)), (some (29, false))⟩,
  ⟨some 31, .t (.bin .eql (.t 30) (.c (.int .i64 35))), (some (29, false))⟩,
  ⟨some 32, .t (.pick (.t 29) (.c (.bool true)) (.t 31)), none⟩,⟨some 2, .t (.mv (.t 32)), none⟩]
def F50c : ACode :=
(.seq (.ops F50o0 [0])
((.seq (.ops F50o1 [2])
(.ret))))
def F50 : AFn := ⟨33, [.tmp 2], F50c⟩
theorem F50_ok : cFn Tryz.prog [] 50 = some F50 := by kernel_rfl
def F52o0 : List AOper := [⟨some 2, .m (.box 31 (.t 0)), none⟩,⟨some 4, .m (.alloc 31 [(.int .i64 0), (.int .i64 0), (.int .i64 0), (.str []), .nils, .nils]), none⟩,⟨some 5, .t (.mv (.c (.bool false))), none⟩]
def F52o1 : List AOper := [⟨some 7, .m (.load true 6 (.t 2)), none⟩,⟨some 8, .t (.mv (.t 1)), none⟩,⟨some 9, .call (.c (.clo 100 [] [])) [(.t 7), (.t 8)], none⟩,⟨some 6, .t (.mv (.t 9)), none⟩]
def F52o2 : List AOper := [⟨some 10, .t (.faddr 0 (.t 2)), none⟩,⟨some 11, .m (.load false 1 (.t 10)), none⟩,⟨some 12, .t (.bin .neq (.t 11) (.c (.int .i64 9))), none⟩,⟨some 13, .t (.mv (.t 12)), none⟩,⟨some 14, .t (.mv (.t 6)), (some (13, false))⟩,
  ⟨some 15, .t (.bin .lss (.t 14) (.c (.int .i64 0))), (some (13, false))⟩,
  ⟨some 16, .t (.pick (.t 13) (.c (.bool true)) (.t 15)), none⟩]
def F52o3 : List AOper := [⟨some 17, .t (.build [(.int .i64 0), (.int .i64 0), (.int .i64 0), (.str []), .nils, .nils] []), none⟩,⟨none, .m (.store 6 (.t 4) (.t 17)), none⟩,⟨some 5, .t (.mv (.c (.bool false))), none⟩]
def F52o4 : List AOper := [⟨some 18, .t (.faddr 5 (.t 2)), none⟩,⟨some 19, .m (.load false 1 (.t 18)), none⟩,⟨some 20, .t (.mv (.t 6)), none⟩,⟨some 21, .t (.iaddr 7 (.t 19) (.t 20)), none⟩,⟨some 22, .t (.faddr 1 (.t 21)), none⟩,⟨some 23, .m (.load true 6 (.t 22)), none⟩,⟨some 24, .call (.c (.clo 58 [] [])) [(.t 23)], none⟩,⟨none, .m (.store 6 (.t 4) (.t 24)), none⟩,⟨some 5, .t (.mv (.c (.bool true))), none⟩]
def F52c : ACode :=
(.seq (.ops F52o0 [1, 2, 4])
((.seq (.ops F52o1 [2, 4, 6])
((.seq ((.seq (.ops F52o2 [2, 4, 6, 16])
(.cond (.t 16)
((.seq (.ops F52o3 [4, 5])
(.ret)))
(.skip))))
((.seq (.ops F52o4 [4, 5])
(.ret))))))))
def F52 : AFn := ⟨25, [.cell 4 true 6, .tmp 5], F52c⟩
theorem F52_ok : cFn Tryz.prog [] 52 = some F52 := by kernel_rfl
def F53o0 : List AOper := [⟨some 4, .t (.mv (.c (.bool false))), none⟩]
def F53o1 : List AOper := [⟨some 5, .t (.mv (.t 0)), none⟩,⟨some 6, .t (.mv (.t 1)), none⟩,⟨some 7, .t (.conv .i32 (.t 6)), none⟩,⟨some 8, .t (.convIS (.t 7)), none⟩,⟨some 9, .t (.bin .add (.c (.str [34, 13, 10])) (.t 8)), none⟩,⟨some 10, .call (.c (.clo 101 [] [])) [(.t 5), (.t 9)], none⟩,⟨some 4, .t (.mv (.t 10)), none⟩]
def F53c : ACode :=
(.seq (.ops F53o0 [0, 1])
((.seq (.ops F53o1 [4])
(.ret))))
def F53 : AFn := ⟨11, [.tmp 4], F53c⟩
theorem F53_ok : cFn Tryz.prog [] 53 = some F53 := by kernel_rfl
def F56o0 : List AOper := [⟨some 4, .t (.mv (.c (.bool false))), none⟩]
def F56o1 : List AOper := [⟨some 5, .t (.mv (.c (.int .i64 0))), none⟩]
def F56o2 : List AOper := [⟨some 6, .t (.mv (.t 5)), none⟩,⟨some 7, .t (.mv (.t 0)), none⟩,⟨some 8, .t (.len true (.t 7)), none⟩,⟨some 9, .t (.bin .lss (.t 6) (.t 8)), none⟩]
def F56o3 : List AOper := [⟨some 12, .t (.mv (.t 0)), none⟩,⟨some 13, .t (.mv (.t 5)), none⟩,⟨some 14, .t (.index (.t 12) (.t 13)), none⟩,⟨some 15, .t (.mv (.t 1)), none⟩,⟨some 16, .call (.c (.clo 70 [] [])) [(.t 14), (.t 15)], none⟩]
def F56o4 : List AOper := [⟨some 4, .t (.mv (.c (.bool true))), none⟩]
def F56o5 : List AOper := [⟨some 10, .t (.mv (.t 5)), none⟩,⟨some 11, .t (.bin .add (.t 10) (.c (.int .i64 1))), none⟩,⟨some 5, .t (.mv (.t 11)), none⟩]
def F56b6 : ACode :=
(.seq ((.seq (.ops F56o2 [0, 1, 5, 9])
(.cond (.t 9)
(.skip)
(.exit 0))))
((.seq (.block 1 ((.seq (.ops F56o3 [0, 1, 5, 16])
(.cond (.t 16)
((.seq (.ops F56o4 [4])
(.ret)))
(.skip)))))
(.ops F56o5 [0, 1, 5]))))
def F56o7 : List AOper := [⟨some 4, .t (.mv (.c (.bool false))), none⟩]
def F56c : ACode :=
(.seq (.ops F56o0 [0, 1])
((.seq ((.seq (.ops F56o1 [0, 1, 5])
(.block 0 (.loop [0, 1, 5] F56b6))))
((.seq (.ops F56o7 [4])
(.ret))))))
def F56 : AFn := ⟨17, [.tmp 4], F56c⟩
theorem F56_ok : cFn Tryz.prog [] 56 = some F56 := by kernel_rfl
def F57o0 : List AOper := [⟨some 4, .t (.mv (.c .nils)), none⟩,⟨some 5, .t (.mv (.c .nils)), none⟩,⟨some 6, .t (.mv (.c (.int .i64 0))), none⟩,⟨some 7, .t (.mv (.c (.int .i64 0))), none⟩]
def F57o1 : List AOper := [⟨some 11, .t (.mv (.t 1)), none⟩,⟨some 12, .call (.c (.clo 47 [] [])) [(.t 11)], none⟩,⟨some 13, .t (.not (.t 12)), none⟩,⟨some 10, .t (.mv (.t 13)), none⟩]
def F57o2 : List AOper := [⟨some 4, .t (.mv (.c .nils)), none⟩,⟨some 5, .t (.mv (.c .nils)), none⟩,⟨some 6, .t (.mv (.c (.int .i64 0))), none⟩,⟨some 7, .t (.mv (.c (.int .i64 2))), none⟩]
def F57o3 : List AOper := [⟨some 15, .t (.mv (.t 0)), none⟩,⟨some 16, .t (.len true (.t 15)), none⟩,⟨some 17, .t (.bin .gtr (.t 16) (.c (.int .i64 65536))), none⟩,⟨some 14, .t (.mv (.t 17)), none⟩]
def F57o4 : List AOper := [⟨some 4, .t (.mv (.c .nils)), none⟩,⟨some 5, .t (.mv (.c .nils)), none⟩,⟨some 6, .t (.mv (.c (.int .i64 0))), none⟩,⟨some 7, .t (.mv (.c (.int .i64 5))), none⟩]
def F57o5 : List AOper := [⟨some 18, .t (.mv (.t 0)), none⟩,⟨some 19, .t (.mv (.t 1)), none⟩,⟨some 20, .t (.conv .u8 (.t 19)), none⟩,⟨some 21, .t (.build [(.str []), (.int .u8 0), (.int .i64 0), .nils, .nils, (.int .i64 0), (.int .i64 0)] [(0, 1, (.t 18)), (1, 1, (.t 20))]), none⟩,⟨some 22, .m (.box 158 (.t 21)), none⟩,⟨some 8, .t (.mv (.t 22)), none⟩]
def F57o6 : List AOper := [⟨some 9, .t (.mv (.c (.clo 108 [] []))), none⟩]
def F57o7 : List AOper := [⟨some 23, .t (.mv (.t 9)), none⟩,⟨some 24, .m (.xop (.fnil true (.t 23) (.c .nilf))), none⟩]
def F57o8 : List AOper := [⟨some 25, .t (.mv (.t 9)), none⟩,⟨some 26, .t (.mv (.t 8)), none⟩,⟨some 27, .call (.t 25) [(.t 26)], none⟩,⟨some 9, .t (.mv (.t 27)), none⟩]
def F57b9 : ACode :=
(.seq ((.seq (.ops F57o7 [8, 9, 24])
(.cond (.t 24)
(.skip)
(.exit 1))))
(.block 2 (.ops F57o8 [8, 9])))
def F57o10 : List AOper := [⟨some 28, .t (.mv (.t 8)), none⟩,⟨some 29, .t (.nilck (.t 28)), none⟩,⟨some 30, .t (.faddr 6 (.t 29)), none⟩,⟨some 31, .m (.load false 1 (.t 30)), none⟩,⟨some 32, .t (.bin .neq (.t 31) (.c (.int .i64 0))), none⟩]
def F57o11 : List AOper := [⟨some 33, .t (.mv (.t 8)), none⟩,⟨some 34, .t (.nilck (.t 33)), none⟩,⟨some 35, .t (.faddr 5 (.t 34)), none⟩,⟨some 36, .m (.load false 1 (.t 35)), none⟩,⟨some 37, .t (.mv (.t 8)), none⟩,⟨some 38, .t (.nilck (.t 37)), none⟩,⟨some 39, .t (.faddr 6 (.t 38)), none⟩,⟨some 40, .m (.load false 1 (.t 39)), none⟩,⟨some 4, .t (.mv (.c .nils)), none⟩,⟨some 5, .t (.mv (.c .nils)), none⟩,⟨some 6, .t (.mv (.t 36)), none⟩]
def F57p11 : List AOper := [⟨some 7, .t (.mv (.t 40)), none⟩]
def F57A11 : List (List Nat) := [[], [0], [1, 0], [2, 1, 0], [], [4], [5, 4], [6, 5, 4], [], [8], [3, 9, 2, 1, 0, 8], [7, 10, 6, 5, 4, 3, 9, 2, 1, 0, 8]]
def F57o12 : List AOper := [⟨some 41, .t (.mv (.t 8)), none⟩,⟨some 42, .t (.nilck (.t 41)), none⟩,⟨some 43, .t (.faddr 3 (.t 42)), none⟩,⟨some 44, .m (.load false 1 (.t 43)), none⟩,⟨some 45, .t (.mv (.t 8)), none⟩,⟨some 46, .t (.nilck (.t 45)), none⟩,⟨some 47, .t (.faddr 4 (.t 46)), none⟩,⟨some 48, .m (.load false 1 (.t 47)), none⟩,⟨some 4, .t (.mv (.t 44)), none⟩]
def F57p12 : List AOper := [⟨some 5, .t (.mv (.t 48)), none⟩,⟨some 6, .t (.mv (.c (.int .i64 0))), none⟩,⟨some 7, .t (.mv (.c (.int .i64 0))), none⟩]
def F57A12 : List (List Nat) := [[], [0], [1, 0], [2, 1, 0], [], [4], [5, 4], [6, 5, 4], [3, 2, 1, 0], [7, 8, 6, 5, 4, 3, 2, 1, 0], [9, 7, 8, 6, 5, 4, 3, 2, 1, 0], [10, 9, 7, 8, 6, 5, 4, 3, 2, 1, 0]]
def F57c : ACode :=
(.seq (.ops F57o0 [0, 1])
((.seq (.block 0 ((.seq (.ops F57o1 [0, 1, 10])
(.cond (.t 10)
((.seq (.ops F57o2 [4, 5, 6, 7])
(.ret)))
((.seq (.ops F57o3 [0, 1, 14])
(.cond (.t 14)
((.seq (.ops F57o4 [4, 5, 6, 7])
(.ret)))
(.skip))))))))
((.seq (.ops F57o5 [8])
((.seq ((.seq (.ops F57o6 [8, 9])
(.block 1 (.loop [8, 9] F57b9))))
((.seq ((.seq (.ops F57o10 [8, 32])
(.cond (.t 32)
((.seq (.draw F57A11 F57o11 F57p11 [4, 5, 6, 7])
(.ret)))
(.skip))))
((.seq (.draw F57A12 F57o12 F57p12 [4, 5, 6, 7])
(.ret))))))))))))
def F57 : AFn := ⟨49, [.tmp 4, .tmp 5, .tmp 6, .tmp 7], F57c⟩
theorem F57_ok : cFn Tryz.prog [24] 57 = some F57 := by kernel_rfl
def F58o0 : List AOper := [⟨some 1, .m (.box 31 (.t 0)), none⟩,⟨some 2, .m (.alloc 31 [(.int .i64 0), (.int .i64 0), (.int .i64 0), (.str []), .nils, .nils]), none⟩]
def F58o1 : List AOper := [⟨some 8, .m (.load true 6 (.t 1)), none⟩,⟨some 3, .m (.alloc 31 [(.int .i64 0), (.int .i64 0), (.int .i64 0), (.str []), .nils, .nils]), none⟩,⟨none, .m (.store 6 (.t 3) (.t 8)), none⟩]
def F58o2 : List AOper := [⟨some 9, .t (.faddr 4 (.t 3)), none⟩,⟨none, .m (.store 1 (.t 9) (.c .nils)), none⟩,⟨some 10, .t (.faddr 5 (.t 3)), none⟩,⟨none, .m (.store 1 (.t 10) (.c .nils)), none⟩]
def F58o3 : List AOper := [⟨some 11, .t (.faddr 4 (.t 1)), none⟩,⟨some 12, .m (.load false 1 (.t 11)), none⟩,⟨some 13, .t (.len false (.t 12)), none⟩,⟨some 14, .t (.mv (.c (.int .i64 0))), none⟩]
def F58o4 : List AOper := [⟨some 15, .t (.bin .lss (.t 14) (.t 13)), none⟩]
def F58o5 : List AOper := [⟨some 16, .t (.iaddr 6 (.t 12) (.t 14)), none⟩,⟨some 17, .m (.load true 6 (.t 16)), none⟩,⟨some 5, .m (.alloc 31 [(.int .i64 0), (.int .i64 0), (.int .i64 0), (.str []), .nils, .nils]), none⟩,⟨none, .m (.store 6 (.t 5) (.t 17)), none⟩]
def F58o6 : List AOper := [⟨some 18, .t (.faddr 4 (.t 3)), none⟩,⟨some 19, .m (.load false 1 (.t 18)), none⟩,⟨some 20, .m (.load true 6 (.t 5)), none⟩,⟨some 21, .call (.c (.clo 58 [] [])) [(.t 20)], none⟩,⟨some 22, .m (.bslice false 31 6 1 [(.t 21)]), none⟩]
def F58p6 : List AOper := [⟨some 23, .m (.append false 31 6 88 (.t 19) (.t 22)), none⟩,⟨some 24, .t (.faddr 4 (.t 3)), none⟩,⟨none, .m (.store 1 (.t 24) (.t 23)), none⟩]
def F58A6 : List (List Nat) := [[], [0], [], [2], [3, 2], [1, 4, 0, 3, 2], [5, 1, 4, 0, 3, 2], [6, 5, 1, 4, 0, 3, 2]]
def F58o7 : List AOper := [⟨some 25, .t (.bin .add (.t 14) (.c (.int .i64 1))), none⟩,⟨some 14, .t (.mv (.t 25)), none⟩]
def F58b8 : ACode :=
(.seq (.ops F58o4 [1, 2, 3, 12, 13, 14, 15])
((.seq (.cond (.t 15)
(.skip)
(.exit 0))
((.seq (.block 1 ((.seq (.ops F58o5 [1, 2, 3, 5, 12, 13, 14])
(.draw F58A6 F58o6 F58p6 [1, 2, 3, 12, 13, 14]))))
(.ops F58o7 [1, 2, 3, 12, 13, 14]))))))
def F58o9 : List AOper := [⟨some 26, .t (.faddr 5 (.t 1)), none⟩,⟨some 27, .m (.load false 1 (.t 26)), none⟩,⟨some 28, .t (.len false (.t 27)), none⟩,⟨some 29, .t (.mv (.c (.int .i64 0))), none⟩]
def F58o10 : List AOper := [⟨some 30, .t (.bin .lss (.t 29) (.t 28)), none⟩]
def F58o11 : List AOper := [⟨some 31, .t (.iaddr 7 (.t 27) (.t 29)), none⟩,⟨some 32, .m (.load true 7 (.t 31)), none⟩,⟨some 7, .m (.alloc 83 [(.str []), (.int .i64 0), (.int .i64 0), (.int .i64 0), (.str []), .nils, .nils]), none⟩,⟨none, .m (.store 7 (.t 7) (.t 32)), none⟩]
def F58o12 : List AOper := [⟨some 33, .t (.faddr 5 (.t 3)), none⟩,⟨some 34, .m (.load false 1 (.t 33)), none⟩,⟨some 35, .t (.faddr 0 (.t 7)), none⟩,⟨some 36, .m (.load false 1 (.t 35)), none⟩,⟨some 37, .t (.faddr 1 (.t 7)), none⟩,⟨some 38, .m (.load true 6 (.t 37)), none⟩,⟨some 39, .call (.c (.clo 58 [] [])) [(.t 38)], none⟩,⟨some 40, .t (.build [(.str []), (.int .i64 0), (.int .i64 0), (.int .i64 0), (.str []), .nils, .nils] [(0, 1, (.t 36)), (1, 6, (.t 39))]), none⟩,⟨some 41, .m (.bslice false 83 7 1 [(.t 40)]), none⟩]
def F58p12 : List AOper := [⟨some 42, .m (.append false 83 7 104 (.t 34) (.t 41)), none⟩,⟨some 43, .t (.faddr 5 (.t 3)), none⟩,⟨none, .m (.store 1 (.t 43) (.t 42)), none⟩]
def F58A12 : List (List Nat) := [[], [0], [], [2], [], [4], [5, 4], [3, 6, 2, 5, 4], [7, 3, 6, 2, 5, 4], [1, 8, 0, 7, 3, 6, 2, 5, 4], [9, 1, 8, 0, 7, 3, 6, 2, 5, 4], [10, 9, 1, 8, 0, 7, 3, 6, 2, 5, 4]]
def F58o13 : List AOper := [⟨some 44, .t (.bin .add (.t 29) (.c (.int .i64 1))), none⟩,⟨some 29, .t (.mv (.t 44)), none⟩]
def F58b14 : ACode :=
(.seq (.ops F58o10 [2, 3, 27, 28, 29, 30])
((.seq (.cond (.t 30)
(.skip)
(.exit 2))
((.seq (.block 3 ((.seq (.ops F58o11 [2, 3, 7, 27, 28, 29])
(.draw F58A12 F58o12 F58p12 [2, 3, 27, 28, 29]))))
(.ops F58o13 [2, 3, 27, 28, 29]))))))
def F58o15 : List AOper := [⟨some 45, .m (.load true 6 (.t 3)), none⟩,⟨none, .m (.store 6 (.t 2) (.t 45)), none⟩]
def F58c : ACode :=
(.seq (.ops F58o0 [1, 2])
((.seq (.ops F58o1 [1, 2, 3])
((.seq (.ops F58o2 [1, 2, 3])
((.seq ((.seq (.ops F58o3 [1, 2, 3, 12, 13, 14])
(.block 0 (.loop [1, 2, 3, 12, 13, 14] F58b8))))
((.seq ((.seq (.ops F58o9 [2, 3, 27, 28, 29])
(.block 2 (.loop [2, 3, 27, 28, 29] F58b14))))
((.seq (.ops F58o15 [2])
(.ret))))))))))))
def F58 : AFn := ⟨46, [.cell 2 true 6], F58c⟩
theorem F58_ok : cFn Tryz.prog [] 58 = some F58 := by kernel_rfl
def F59o0 : List AOper := [⟨some 2, .m (.alloc 31 [(.int .i64 0), (.int .i64 0), (.int .i64 0), (.str []), .nils, .nils]), none⟩]
def F59o1 : List AOper := [⟨some 7, .t (.build [(.int .i64 0), (.int .i64 0), (.int .i64 0), (.str []), .nils, .nils] [(0, 1, (.c (.int .i64 9)))]), none⟩,⟨some 3, .m (.alloc 31 [(.int .i64 0), (.int .i64 0), (.int .i64 0), (.str []), .nils, .nils]), none⟩,⟨none, .m (.store 6 (.t 3) (.t 7)), none⟩]
def F59o2 : List AOper := [⟨some 8, .t (.mv (.t 0)), none⟩,⟨some 9, .t (.len false (.t 8)), none⟩,⟨some 10, .t (.mv (.c (.int .i64 0))), none⟩]
def F59o3 : List AOper := [⟨some 11, .t (.bin .lss (.t 10) (.t 9)), none⟩]
def F59o4 : List AOper := [⟨some 12, .t (.mv (.t 10)), none⟩,⟨some 13, .t (.iaddr 7 (.t 8) (.t 10)), none⟩,⟨some 14, .m (.load true 7 (.t 13)), none⟩,⟨some 5, .m (.alloc 83 [(.str []), (.int .i64 0), (.int .i64 0), (.int .i64 0), (.str []), .nils, .nils]), none⟩,⟨some 4, .t (.mv (.t 12)), none⟩,⟨none, .m (.store 7 (.t 5) (.t 14)), none⟩]
def F59o5 : List AOper := [⟨some 15, .t (.mv (.t 0)), none⟩,⟨some 16, .t (.mv (.t 4)), none⟩,⟨some 17, .t (.bin .add (.t 16) (.c (.int .i64 1))), none⟩,⟨some 18, .t (.sliceL 7 (.t 15) (some (.t 17)) none), none⟩,⟨some 19, .t (.clo 110 [] [(.t 5)]), none⟩,⟨some 20, .call (.c (.clo 109 [] [])) [(.t 18), (.t 19)], none⟩,⟨some 6, .t (.mv (.t 20)), none⟩]
def F59o6 : List AOper := [⟨some 21, .t (.faddr 1 (.t 5)), none⟩,⟨some 22, .m (.load true 6 (.t 21)), none⟩,⟨some 23, .call (.c (.clo 111 [] [])) [(.t 22)], none⟩,⟨some 24, .t (.not (.t 23)), none⟩,⟨some 25, .t (.mv (.t 24)), none⟩,⟨some 26, .t (.mv (.t 6)), (some (25, true))⟩,
  ⟨some 27, .t (.not (.t 26)), (some (25, true))⟩,
  ⟨some 28, .t (.pick (.t 25) (.t 27) (.c (.bool false))), none⟩]
def F59o7 : List AOper := [⟨some 29, .t (.faddr 5 (.t 3)), none⟩,⟨some 30, .m (.load false 1 (.t 29)), none⟩,⟨some 31, .m (.load true 7 (.t 5)), none⟩,⟨some 32, .m (.bslice false 83 7 1 [(.t 31)]), none⟩,⟨some 33, .m (.append true 83 7 104 (.t 30) (.t 32)), none⟩,⟨some 34, .t (.faddr 5 (.t 3)), none⟩,⟨none, .m (.store 1 (.t 34) (.t 33)), none⟩]
def F59o8 : List AOper := [⟨some 35, .t (.bin .add (.t 10) (.c (.int .i64 1))), none⟩,⟨some 10, .t (.mv (.t 35)), none⟩]
def F59b9 : ACode :=
(.seq (.ops F59o3 [0, 2, 3, 8, 9, 10, 11])
((.seq (.cond (.t 11)
(.skip)
(.exit 0))
((.seq (.block 1 ((.seq (.ops F59o4 [0, 2, 3, 4, 5, 8, 9, 10])
((.seq (.ops F59o5 [0, 2, 3, 5, 6, 8, 9, 10])
((.seq (.ops F59o6 [0, 2, 3, 5, 8, 9, 10, 28])
(.cond (.t 28)
(.ops F59o7 [0, 2, 3, 8, 9, 10])
(.skip)))))))))
(.ops F59o8 [0, 2, 3, 8, 9, 10]))))))
def F59o10 : List AOper := [⟨some 36, .t (.faddr 5 (.t 3)), none⟩,⟨some 37, .m (.load false 1 (.t 36)), none⟩,⟨some 38, .call (.c (.clo 112 [] [])) [(.t 37), (.c (.clo 113 [] []))], none⟩]
def F59o11 : List AOper := [⟨some 39, .m (.load true 6 (.t 3)), none⟩,⟨some 40, .call (.c (.clo 58 [] [])) [(.t 39)], none⟩,⟨none, .m (.store 6 (.t 2) (.t 40)), none⟩]
def F59c : ACode :=
(.seq (.ops F59o0 [0, 2])
((.seq (.ops F59o1 [0, 2, 3])
((.seq ((.seq (.ops F59o2 [0, 2, 3, 8, 9, 10])
(.block 0 (.loop [0, 2, 3, 8, 9, 10] F59b9))))
((.seq (.ops F59o10 [2, 3])
((.seq (.ops F59o11 [2])
(.ret))))))))))
def F59 : AFn := ⟨41, [.cell 2 true 6], F59c⟩
theorem F59_ok : cFn Tryz.prog [33] 59 = some F59 := by kernel_rfl
def F66o0 : List AOper := [⟨some 4, .t (.mv (.c (.int .i64 0))), none⟩,⟨some 5, .t (.mv (.c .nili)), none⟩]
def F66o1 : List AOper := [⟨some 6, .t (.mv (.t 0)), none⟩,⟨some 7, .call (.c (.clo 90 [] [])) [(.t 6)], none⟩]
def F66o2 : List AOper := [⟨some 8, .t (.mv (.t 0)), none⟩,⟨some 9, .t (.mv (.t 0)), none⟩,⟨some 10, .t (.nilck (.t 9)), none⟩,⟨some 11, .t (.faddr 1 (.t 10)), none⟩,⟨some 12, .m (.load false 1 (.t 11)), none⟩,⟨some 13, .t (.mv (.t 1)), none⟩,⟨some 14, .m (.xop (.apps 5 1 (.t 12) (.t 13))), none⟩,⟨some 15, .t (.nilck (.t 8)), none⟩,⟨some 16, .t (.faddr 1 (.t 15)), none⟩,⟨none, .m (.store 1 (.t 16) (.t 14)), none⟩]
def F66o3 : List AOper := [⟨some 17, .t (.mv (.t 1)), none⟩,⟨some 18, .t (.len true (.t 17)), none⟩,⟨some 4, .t (.mv (.t 18)), none⟩,⟨some 5, .t (.mv (.c .nili)), none⟩]
def F66c : ACode :=
(.seq (.ops F66o0 [0, 1])
((.seq (.ops F66o1 [0, 1])
((.seq (.ops F66o2 [1])
((.seq (.ops F66o3 [4, 5])
(.ret))))))))
def F66 : AFn := ⟨19, [.tmp 4, .tmp 5], F66c⟩
theorem F66_ok : cFn Tryz.prog [14] 66 = some F66 := by kernel_rfl
def F68o0 : List AOper := [⟨some 2, .t (.mv (.c (.int .i64 0))), none⟩]
def F68o1 : List AOper := [⟨some 3, .t (.mv (.t 0)), none⟩,⟨some 4, .t (.nilck (.t 3)), none⟩,⟨some 5, .t (.faddr 1 (.t 4)), none⟩,⟨some 6, .m (.load false 1 (.t 5)), none⟩,⟨some 7, .t (.len false (.t 6)), none⟩,⟨some 2, .t (.mv (.t 7)), none⟩]
def F68c : ACode :=
(.seq (.ops F68o0 [0])
((.seq (.ops F68o1 [2])
(.ret))))
def F68 : AFn := ⟨8, [.tmp 2], F68c⟩
theorem F68_ok : cFn Tryz.prog [] 68 = some F68 := by kernel_rfl
def F69o0 : List AOper := [⟨some 1, .m (.box 101 (.t 0)), none⟩,⟨some 2, .t (.mv (.c (.str []))), none⟩]
def F69o1 : List AOper := [⟨some 5, .t (.faddr 1 (.t 1)), none⟩,⟨some 6, .m (.load false 1 (.t 5)), none⟩,⟨some 7, .t (.not (.t 6)), none⟩]
def F69o2 : List AOper := [⟨some 8, .t (.faddr 0 (.t 1)), none⟩,⟨some 9, .m (.load false 1 (.t 8)), none⟩,⟨some 2, .t (.mv (.t 9)), none⟩]
def F69o3 : List AOper := [⟨some 3, .t (.mv (.c (.str [34]))), none⟩]
def F69o4 : List AOper := [⟨some 4, .t (.mv (.c (.int .i64 0))), none⟩]
def F69o5 : List AOper := [⟨some 10, .t (.mv (.t 4)), none⟩,⟨some 11, .t (.faddr 0 (.t 1)), none⟩,⟨some 12, .m (.load false 1 (.t 11)), none⟩,⟨some 13, .t (.len true (.t 12)), none⟩,⟨some 14, .t (.bin .lss (.t 10) (.t 13)), none⟩]
def F69o6 : List AOper := [⟨some 17, .t (.faddr 0 (.t 1)), none⟩,⟨some 18, .m (.load false 1 (.t 17)), none⟩,⟨some 19, .t (.mv (.t 4)), none⟩,⟨some 20, .t (.index (.t 18) (.t 19)), none⟩,⟨some 21, .t (.bin .eql (.t 20) (.c (.int .u8 34))), none⟩]
def F69o7 : List AOper := [⟨some 22, .t (.mv (.t 3)), none⟩,⟨some 23, .t (.bin .add (.t 22) (.c (.str [34]))), none⟩,⟨some 3, .t (.mv (.t 23)), none⟩]
def F69o8 : List AOper := [⟨some 24, .t (.mv (.t 3)), none⟩,⟨some 25, .t (.faddr 0 (.t 1)), none⟩,⟨some 26, .m (.load false 1 (.t 25)), none⟩,⟨some 27, .t (.mv (.t 4)), none⟩,⟨some 28, .t (.mv (.t 4)), none⟩,⟨some 29, .t (.bin .add (.t 28) (.c (.int .i64 1))), none⟩,⟨some 30, .t (.sliceS (.t 26) (some (.t 27)) (some (.t 29))), none⟩,⟨some 31, .t (.bin .add (.t 24) (.t 30)), none⟩,⟨some 3, .t (.mv (.t 31)), none⟩]
def F69o9 : List AOper := [⟨some 15, .t (.mv (.t 4)), none⟩,⟨some 16, .t (.bin .add (.t 15) (.c (.int .i64 1))), none⟩,⟨some 4, .t (.mv (.t 16)), none⟩]
def F69b10 : ACode :=
(.seq ((.seq (.ops F69o5 [1, 3, 4, 14])
(.cond (.t 14)
(.skip)
(.exit 0))))
((.seq (.block 1 ((.seq ((.seq (.ops F69o6 [1, 3, 4, 21])
(.cond (.t 21)
(.ops F69o7 [1, 3, 4])
(.skip))))
(.ops F69o8 [1, 3, 4]))))
(.ops F69o9 [1, 3, 4]))))
def F69o11 : List AOper := [⟨some 32, .t (.mv (.t 3)), none⟩,⟨some 33, .t (.bin .add (.t 32) (.c (.str [34]))), none⟩,⟨some 2, .t (.mv (.t 33)), none⟩]
def F69c : ACode :=
(.seq (.ops F69o0 [1])
((.seq ((.seq (.ops F69o1 [1, 7])
(.cond (.t 7)
((.seq (.ops F69o2 [2])
(.ret)))
(.skip))))
((.seq (.ops F69o3 [1, 3])
((.seq ((.seq (.ops F69o4 [1, 3, 4])
(.block 0 (.loop [1, 3, 4] F69b10))))
((.seq (.ops F69o11 [2])
(.ret))))))))))
def F69 : AFn := ⟨34, [.tmp 2], F69c⟩
theorem F69_ok : cFn Tryz.prog [] 69 = some F69 := by kernel_rfl
def F70o0 : List AOper := [⟨some 4, .t (.mv (.c (.bool false))), none⟩]
def F70o1 : List AOper := [⟨some 5, .t (.mv (.t 0)), none⟩,⟨some 6, .t (.conv .i64 (.t 5)), none⟩,⟨some 7, .t (.mv (.t 1)), none⟩,⟨some 8, .t (.bin .eql (.t 6) (.t 7)), none⟩,⟨some 9, .t (.mv (.t 8)), none⟩,⟨some 10, .t (.mv (.t 0)), (some (9, false))⟩,
  ⟨some 11, .t (.bin .eql (.t 10) (.c (.int .u8 34))), (some (9, false))⟩,
  ⟨some 12, .t (.pick (.t 9) (.c (.bool true)) (.t 11)), none⟩,⟨some 13, .t (.mv (.t 12)), none⟩,⟨some 14, .t (.mv (.t 0)), (some (13, false))⟩,
  ⟨some 15, .t (.bin .eql (.t 14) (.c (.int .u8 13))), (some (13, false))⟩,
  ⟨some 16, .t (.pick (.t 13) (.c (.bool true)) (.t 15)), none⟩,⟨some 17, .t (.mv (.t 16)), none⟩,⟨some 18, .t (.mv (.t 0)), (some (17, false))⟩,
  ⟨some 19, .t (.bin .eql (.t 18) (.c (.int .u8 10))), (some (17, false))⟩,
  ⟨some 20, .t (.pick (.t 17) (.c (.bool true)) (.t 19)), none⟩,⟨some 4, .t (.mv (.t 20)), none⟩]
def F70c : ACode :=
(.seq (.ops F70o0 [0, 1])
((.seq (.ops F70o1 [4])
(.ret))))
def F70 : AFn := ⟨21, [.tmp 4], F70c⟩
theorem F70_ok : cFn Tryz.prog [] 70 = some F70 := by kernel_rfl
def F71o0 : List AOper := [⟨some 4, .t (.mv (.c (.str []))), none⟩,⟨some 5, .t (.mv (.c (.str []))), none⟩,⟨some 6, .t (.mv (.c (.bool false))), none⟩]
def F71o1 : List AOper := [⟨some 7, .t (.mv (.t 0)), none⟩,⟨some 8, .t (.mv (.t 1)), none⟩,⟨some 9, .call (.c (.clo 120 [] [])) [(.t 7), (.t 8)], none⟩,⟨some 10, .t (.ext (.t 9) 0), none⟩,⟨some 11, .t (.ext (.t 9) 1), none⟩,⟨some 12, .t (.ext (.t 9) 2), none⟩,⟨some 4, .t (.mv (.t 10)), none⟩,⟨some 5, .t (.mv (.t 11)), none⟩,⟨some 6, .t (.mv (.t 12)), none⟩]
def F71c : ACode :=
(.seq (.ops F71o0 [0, 1])
((.seq (.ops F71o1 [4, 5, 6])
(.ret))))
def F71 : AFn := ⟨13, [.tmp 4, .tmp 5, .tmp 6], F71c⟩
theorem F71_ok : cFn Tryz.prog [] 71 = some F71 := by kernel_rfl
def F72o0 : List AOper := [⟨some 2, .t (.mv (.c (.int .i64 0))), none⟩,⟨some 3, .t (.mv (.c .nili)), none⟩]
def F72o1 : List AOper := [⟨some 7, .t (.mv (.t 0)), none⟩,⟨some 8, .call (.c (.clo 121 [] [])) [(.t 7)], none⟩,⟨some 6, .t (.mv (.t 8)), none⟩,⟨some 9, .t (.ext (.t 6) 0), none⟩,⟨some 10, .t (.ext (.t 6) 1), none⟩,⟨some 4, .t (.mv (.t 9)), none⟩,⟨some 5, .t (.mv (.t 10)), none⟩]
def F72o2 : List AOper := [⟨some 11, .t (.mv (.t 5)), none⟩,⟨some 12, .m (.xop (.inil true (.t 11) (.c .nili))), none⟩]
def F72o3 : List AOper := [⟨some 13, .t (.mv (.t 4)), none⟩,⟨some 14, .t (.mv (.t 0)), none⟩,⟨some 15, .t (.mv (.t 5)), none⟩,⟨some 16, .call (.c (.clo 122 [] [])) [(.c (.str [65, 116, 111, 105])), (.t 14), (.c (.int .i64 0)), (.c (.int .i64 0)), (.t 15)], none⟩,⟨some 2, .t (.mv (.t 13)), none⟩,⟨some 3, .t (.mv (.t 16)), none⟩]
def F72o4 : List AOper := [⟨some 17, .t (.mv (.t 4)), none⟩,⟨some 2, .t (.mv (.t 17)), none⟩,⟨some 3, .t (.mv (.c .nili)), none⟩]
def F72c : ACode :=
(.seq (.ops F72o0 [0])
((.seq (.ops F72o1 [0, 4, 5])
((.seq ((.seq (.ops F72o2 [0, 4, 5, 12])
(.cond (.t 12)
((.seq (.ops F72o3 [2, 3])
(.ret)))
(.skip))))
((.seq (.ops F72o4 [2, 3])
(.ret))))))))
def F72 : AFn := ⟨18, [.tmp 2, .tmp 3], F72c⟩
theorem F72_ok : cFn Tryz.prog [12] 72 = some F72 := by kernel_rfl
def F73o0 : List AOper := [⟨some 4, .t (.mv (.c (.int .i64 0))), none⟩]
def F73o1 : List AOper := [⟨some 5, .t (.mv (.t 0)), none⟩,⟨some 6, .t (.mv (.t 1)), none⟩,⟨some 7, .call (.c (.clo 123 [] [])) [(.t 5), (.t 6)], none⟩,⟨some 4, .t (.mv (.t 7)), none⟩]
def F73c : ACode :=
(.seq (.ops F73o0 [0, 1])
((.seq (.ops F73o1 [4])
(.ret))))
def F73 : AFn := ⟨8, [.tmp 4], F73c⟩
theorem F73_ok : cFn Tryz.prog [] 73 = some F73 := by kernel_rfl
def F74o0 : List AOper := [⟨some 6, .t (.mv (.c .nils)), none⟩,⟨some 7, .t (.mv (.c (.str []))), none⟩,⟨some 8, .t (.mv (.c (.bool false))), none⟩]
def F74o1 : List AOper := [⟨some 12, .t (.mv (.t 0)), none⟩,⟨some 7, .t (.mv (.t 12)), none⟩]
def F74o2 : List AOper := [⟨some 13, .t (.mv (.t 1)), none⟩,⟨some 14, .t (.len false (.t 13)), none⟩,⟨some 15, .t (.mv (.c (.int .i64 0))), none⟩]
def F74o3 : List AOper := [⟨some 16, .t (.bin .lss (.t 15) (.t 14)), none⟩]
def F74o4 : List AOper := [⟨some 17, .t (.mv (.t 15)), none⟩,⟨some 18, .t (.iaddr 1 (.t 13) (.t 15)), none⟩,⟨some 19, .m (.load false 1 (.t 18)), none⟩,⟨some 9, .t (.mv (.t 17)), none⟩,⟨some 10, .t (.mv (.t 19)), none⟩]
def F74o5 : List AOper := [⟨some 21, .t (.mv (.t 7)), none⟩,⟨some 22, .t (.mv (.t 10)), none⟩,⟨some 23, .call (.c (.clo 76 [] [])) [(.t 21), (.t 22)], none⟩,⟨some 20, .t (.mv (.t 23)), none⟩,⟨some 24, .t (.ext (.t 20) 0), none⟩,⟨some 25, .t (.ext (.t 20) 1), none⟩,⟨some 7, .t (.mv (.t 24)), none⟩,⟨some 8, .t (.mv (.t 25)), none⟩]
def F74o6 : List AOper := [⟨some 26, .t (.mv (.t 8)), none⟩,⟨some 27, .t (.not (.t 26)), none⟩]
def F74o7 : List AOper := [⟨some 28, .t (.mv (.t 0)), none⟩,⟨some 6, .t (.mv (.c .nils)), none⟩,⟨some 7, .t (.mv (.t 28)), none⟩,⟨some 8, .t (.mv (.c (.bool false))), none⟩]
def F74o8 : List AOper := [⟨some 11, .t (.mv (.c (.int .i64 0))), none⟩]
def F74o9 : List AOper := [⟨some 30, .t (.mv (.t 7)), none⟩,⟨some 31, .t (.mv (.t 2)), none⟩,⟨some 32, .t (.mv (.t 9)), none⟩,⟨some 33, .t (.iaddr 1 (.t 31) (.t 32)), none⟩,⟨some 34, .m (.load false 1 (.t 33)), none⟩,⟨some 35, .call (.c (.clo 77 [] [])) [(.t 30), (.t 34)], none⟩,⟨some 29, .t (.mv (.t 35)), none⟩,⟨some 36, .t (.ext (.t 29) 0), none⟩,⟨some 37, .t (.ext (.t 29) 1), none⟩,⟨some 38, .t (.ext (.t 29) 2), none⟩,⟨some 11, .t (.mv (.t 36)), none⟩,⟨some 7, .t (.mv (.t 37)), none⟩,⟨some 8, .t (.mv (.t 38)), none⟩]
def F74o10 : List AOper := [⟨some 39, .t (.mv (.t 8)), none⟩,⟨some 40, .t (.not (.t 39)), none⟩]
def F74o11 : List AOper := [⟨some 41, .t (.mv (.t 0)), none⟩,⟨some 6, .t (.mv (.c .nils)), none⟩,⟨some 7, .t (.mv (.t 41)), none⟩,⟨some 8, .t (.mv (.c (.bool false))), none⟩]
def F74o12 : List AOper := [⟨some 42, .t (.mv (.t 6)), none⟩,⟨some 43, .t (.mv (.t 11)), none⟩,⟨some 44, .m (.bslice false 3 1 1 [(.t 43)]), none⟩,⟨some 45, .m (.append false 3 1 8 (.t 42) (.t 44)), none⟩,⟨some 6, .t (.mv (.t 45)), none⟩]
def F74o13 : List AOper := [⟨some 46, .t (.bin .add (.t 15) (.c (.int .i64 1))), none⟩,⟨some 15, .t (.mv (.t 46)), none⟩]
def F74b14 : ACode :=
(.seq (.ops F74o3 [0, 2, 6, 7, 13, 14, 15, 16])
((.seq (.cond (.t 16)
(.skip)
(.exit 0))
((.seq (.block 1 ((.seq (.ops F74o4 [0, 2, 6, 7, 9, 10, 13, 14, 15])
((.seq ((.seq (.ops F74o5 [0, 2, 6, 7, 8, 9, 13, 14, 15])
((.seq (.ops F74o6 [0, 2, 6, 7, 9, 13, 14, 15, 27])
(.cond (.t 27)
((.seq (.ops F74o7 [6, 7, 8])
(.ret)))
(.skip))))))
((.seq (.ops F74o8 [0, 2, 6, 7, 9, 13, 14, 15])
((.seq ((.seq (.ops F74o9 [0, 2, 6, 7, 8, 11, 13, 14, 15])
((.seq (.ops F74o10 [0, 2, 6, 7, 11, 13, 14, 15, 40])
(.cond (.t 40)
((.seq (.ops F74o11 [6, 7, 8])
(.ret)))
(.skip))))))
(.ops F74o12 [0, 2, 6, 7, 13, 14, 15]))))))))))
(.ops F74o13 [0, 2, 6, 7, 13, 14, 15]))))))
def F74o15 : List AOper := [⟨some 47, .t (.mv (.t 6)), none⟩,⟨some 48, .t (.mv (.t 7)), none⟩,⟨some 6, .t (.mv (.t 47)), none⟩,⟨some 7, .t (.mv (.t 48)), none⟩,⟨some 8, .t (.mv (.c (.bool true))), none⟩]
def F74c : ACode :=
(.seq (.ops F74o0 [0, 1, 2, 6])
((.seq (.ops F74o1 [0, 1, 2, 6, 7])
((.seq ((.seq (.ops F74o2 [0, 2, 6, 7, 13, 14, 15])
(.block 0 (.loop [0, 2, 6, 7, 13, 14, 15] F74b14))))
((.seq (.ops F74o15 [6, 7, 8])
(.ret))))))))
def F74 : AFn := ⟨49, [.tmp 6, .tmp 7, .tmp 8], F74c⟩
theorem F74_ok : cFn Tryz.prog [] 74 = some F74 := by kernel_rfl
def F75o0 : List AOper := [⟨some 6, .t (.mv (.c (.int .i64 0))), none⟩,⟨some 7, .t (.mv (.c (.int .i64 0))), none⟩]
def F75o1 : List AOper := [⟨some 13, .t (.mv (.t 0)), none⟩,⟨some 14, .t (.mv (.t 1)), none⟩,⟨some 15, .call (.c (.clo 124 [] [])) [(.t 13), (.t 14)], none⟩,⟨some 12, .t (.mv (.t 15)), none⟩,⟨some 16, .t (.ext (.t 12) 0), none⟩,⟨some 17, .t (.ext (.t 12) 1), none⟩,⟨some 8, .t (.mv (.t 16)), none⟩,⟨some 9, .t (.mv (.t 17)), none⟩]
def F75o2 : List AOper := [⟨some 18, .t (.mv (.t 9)), none⟩,⟨some 19, .t (.bin .neq (.t 18) (.c (.int .i64 0))), none⟩,⟨some 20, .t (.mv (.t 19)), none⟩,⟨some 21, .t (.mv (.t 2)), (some (20, false))⟩,
  ⟨some 22, .t (.mv (.t 8)), (some (20, false))⟩,
  ⟨some 23, .call (.c (.clo 125 [] [])) [(.t 21), (.c (.int .i64 1)), (.t 22)], (some (20, false))⟩,
  ⟨some 24, .t (.not (.t 23)), (some (20, false))⟩,
  ⟨some 25, .t (.pick (.t 20) (.c (.bool true)) (.t 24)), none⟩]
def F75o3 : List AOper := [⟨some 6, .t (.mv (.c (.int .i64 0))), none⟩,⟨some 7, .t (.mv (.c (.int .i64 17))), none⟩]
def F75o4 : List AOper := [⟨some 26, .t (.mv (.t 0)), none⟩,⟨some 27, .call (.c (.clo 126 [] [])) [(.t 26)], none⟩,⟨some 28, .t (.bin .add (.c (.int .i64 (-719162))) (.t 27)), none⟩,⟨some 29, .t (.mv (.t 2)), none⟩,⟨some 30, .t (.bin .add (.t 28) (.t 29)), none⟩,⟨some 31, .t (.bin .sub (.t 30) (.c (.int .i64 1))), none⟩,⟨some 10, .t (.mv (.t 31)), none⟩]
def F75o5 : List AOper := [⟨some 11, .t (.mv (.c (.int .i64 1))), none⟩]
def F75o6 : List AOper := [⟨some 32, .t (.mv (.t 11)), none⟩,⟨some 33, .t (.mv (.t 1)), none⟩,⟨some 34, .t (.bin .lss (.t 32) (.t 33)), none⟩]
def F75o7 : List AOper := [⟨some 37, .t (.mv (.t 10)), none⟩,⟨some 38, .t (.mv (.t 0)), none⟩,⟨some 39, .t (.mv (.t 11)), none⟩,⟨some 40, .call (.c (.clo 127 [] [])) [(.t 38), (.t 39)], none⟩,⟨some 41, .t (.bin .add (.t 37) (.t 40)), none⟩,⟨some 10, .t (.mv (.t 41)), none⟩]
def F75o8 : List AOper := [⟨some 35, .t (.mv (.t 11)), none⟩,⟨some 36, .t (.bin .add (.t 35) (.c (.int .i64 1))), none⟩,⟨some 11, .t (.mv (.t 36)), none⟩]
def F75b9 : ACode :=
(.seq ((.seq (.ops F75o6 [0, 1, 10, 11, 34])
(.cond (.t 34)
(.skip)
(.exit 0))))
((.seq (.block 1 (.ops F75o7 [0, 1, 10, 11]))
(.ops F75o8 [0, 1, 10, 11]))))
def F75o10 : List AOper := [⟨some 42, .t (.mv (.t 10)), none⟩,⟨some 6, .t (.mv (.t 42)), none⟩,⟨some 7, .t (.mv (.c (.int .i64 0))), none⟩]
def F75c : ACode :=
(.seq (.ops F75o0 [0, 1, 2])
((.seq (.ops F75o1 [0, 1, 2, 8, 9])
((.seq ((.seq (.ops F75o2 [0, 1, 2, 25])
(.cond (.t 25)
((.seq (.ops F75o3 [6, 7])
(.ret)))
(.skip))))
((.seq (.ops F75o4 [0, 1, 10])
((.seq ((.seq (.ops F75o5 [0, 1, 10, 11])
(.block 0 (.loop [0, 1, 10, 11] F75b9))))
((.seq (.ops F75o10 [6, 7])
(.ret))))))))))))
def F75 : AFn := ⟨43, [.tmp 6, .tmp 7], F75c⟩
theorem F75_ok : cFn Tryz.prog [] 75 = some F75 := by kernel_rfl
def F76o0 : List AOper := [⟨some 4, .t (.mv (.c (.str []))), none⟩,⟨some 5, .t (.mv (.c (.bool false))), none⟩]
def F76o1 : List AOper := [⟨some 6, .t (.mv (.t 0)), none⟩,⟨some 7, .t (.mv (.t 1)), none⟩,⟨some 8, .call (.c (.clo 128 [] [])) [(.t 6), (.t 7)], none⟩,⟨some 9, .t (.ext (.t 8) 0), none⟩,⟨some 10, .t (.ext (.t 8) 1), none⟩,⟨some 4, .t (.mv (.t 9)), none⟩,⟨some 5, .t (.mv (.t 10)), none⟩]
def F76c : ACode :=
(.seq (.ops F76o0 [0, 1])
((.seq (.ops F76o1 [4, 5])
(.ret))))
def F76 : AFn := ⟨11, [.tmp 4, .tmp 5], F76c⟩
theorem F76_ok : cFn Tryz.prog [] 76 = some F76 := by kernel_rfl
def F77o0 : List AOper := [⟨some 4, .t (.mv (.c (.int .i64 0))), none⟩,⟨some 5, .t (.mv (.c (.str []))), none⟩,⟨some 6, .t (.mv (.c (.bool false))), none⟩]
def F77o1 : List AOper := [⟨some 8, .t (.mv (.t 0)), none⟩,⟨some 9, .t (.len true (.t 8)), none⟩,⟨some 10, .t (.mv (.t 1)), none⟩,⟨some 11, .t (.bin .lss (.t 9) (.t 10)), none⟩]
def F77o2 : List AOper := [⟨some 12, .t (.mv (.t 0)), none⟩,⟨some 4, .t (.mv (.c (.int .i64 0))), none⟩,⟨some 5, .t (.mv (.t 12)), none⟩,⟨some 6, .t (.mv (.c (.bool false))), none⟩]
def F77o3 : List AOper := [⟨some 13, .t (.mv (.t 1)), none⟩,⟨some 14, .t (.mv (.c (.int .i64 0))), none⟩]
def F77o4 : List AOper := [⟨some 15, .t (.bin .lss (.t 14) (.t 13)), none⟩]
def F77o5 : List AOper := [⟨some 16, .t (.mv (.t 14)), none⟩,⟨some 7, .t (.mv (.t 16)), none⟩]
def F77o6 : List AOper := [⟨some 17, .t (.mv (.t 0)), none⟩,⟨some 18, .t (.mv (.t 7)), none⟩,⟨some 19, .t (.index (.t 17) (.t 18)), none⟩,⟨some 20, .t (.conv .i64 (.t 19)), none⟩,⟨some 21, .call (.c (.clo 125 [] [])) [(.t 20), (.c (.int .i64 48)), (.c (.int .i64 57))], none⟩,⟨some 22, .t (.not (.t 21)), none⟩]
def F77o7 : List AOper := [⟨some 23, .t (.mv (.t 0)), none⟩,⟨some 4, .t (.mv (.c (.int .i64 0))), none⟩,⟨some 5, .t (.mv (.t 23)), none⟩,⟨some 6, .t (.mv (.c (.bool false))), none⟩]
def F77o8 : List AOper := [⟨some 24, .t (.mv (.t 4)), none⟩,⟨some 25, .t (.bin .mul (.c (.int .i64 10)) (.t 24)), none⟩,⟨some 26, .t (.mv (.t 0)), none⟩,⟨some 27, .t (.mv (.t 7)), none⟩,⟨some 28, .t (.index (.t 26) (.t 27)), none⟩,⟨some 29, .t (.bin .sub (.t 28) (.c (.int .u8 48))), none⟩,⟨some 30, .t (.conv .i64 (.t 29)), none⟩,⟨some 31, .t (.bin .add (.t 25) (.t 30)), none⟩,⟨some 4, .t (.mv (.t 31)), none⟩]
def F77o9 : List AOper := [⟨some 32, .t (.bin .add (.t 14) (.c (.int .i64 1))), none⟩,⟨some 14, .t (.mv (.t 32)), none⟩]
def F77b10 : ACode :=
(.seq (.ops F77o4 [0, 1, 4, 13, 14, 15])
((.seq (.cond (.t 15)
(.skip)
(.exit 0))
((.seq (.block 1 ((.seq (.ops F77o5 [0, 1, 4, 7, 13, 14])
((.seq ((.seq (.ops F77o6 [0, 1, 4, 7, 13, 14, 22])
(.cond (.t 22)
((.seq (.ops F77o7 [4, 5, 6])
(.ret)))
(.skip))))
(.ops F77o8 [0, 1, 4, 13, 14]))))))
(.ops F77o9 [0, 1, 4, 13, 14]))))))
def F77o11 : List AOper := [⟨some 33, .t (.mv (.t 4)), none⟩,⟨some 34, .t (.mv (.t 0)), none⟩,⟨some 35, .t (.mv (.t 1)), none⟩,⟨some 36, .t (.sliceS (.t 34) (some (.t 35)) none), none⟩,⟨some 4, .t (.mv (.t 33)), none⟩]
def F77p11 : List AOper := [⟨some 5, .t (.mv (.t 36)), none⟩,⟨some 6, .t (.mv (.c (.bool true))), none⟩]
def F77A11 : List (List Nat) := [[], [], [], [1, 2], [0], [3, 4, 1, 2, 0], [5, 3, 4, 1, 2, 0]]
def F77c : ACode :=
(.seq (.ops F77o0 [0, 1, 4])
((.seq ((.seq (.ops F77o1 [0, 1, 4, 11])
(.cond (.t 11)
((.seq (.ops F77o2 [4, 5, 6])
(.ret)))
(.skip))))
((.seq ((.seq (.ops F77o3 [0, 1, 4, 13, 14])
(.block 0 (.loop [0, 1, 4, 13, 14] F77b10))))
((.seq (.draw F77A11 F77o11 F77p11 [4, 5, 6])
(.ret))))))))
def F77 : AFn := ⟨37, [.tmp 4, .tmp 5, .tmp 6], F77c⟩
theorem F77_ok : cFn Tryz.prog [] 77 = some F77 := by kernel_rfl
def F80o0 : List AOper := [⟨some 5, .m (.box 26 (.t 1)), none⟩,⟨some 6, .m (.box 31 (.t 2)), none⟩]
def F80o1 : List AOper := [⟨some 14, .t (.mv (.t 0)), none⟩,⟨some 15, .t (.nilck (.t 14)), none⟩,⟨some 16, .t (.faddr 1 (.t 15)), none⟩,⟨some 17, .m (.load false 1 (.t 16)), none⟩,⟨some 13, .t (.mv (.t 17)), none⟩]
def F80o2 : List AOper := [⟨some 19, .t (.faddr 0 (.t 5)), none⟩,⟨some 20, .m (.load false 1 (.t 19)), none⟩,⟨some 21, .t (.bin .lss (.t 20) (.c (.int .i64 1))), none⟩,⟨some 22, .t (.mv (.t 21)), none⟩,⟨some 23, .t (.faddr 0 (.t 5)), (some (22, false))⟩,
  ⟨some 24, .m (.load false 1 (.t 23)), (some (22, false))⟩,
  ⟨some 25, .t (.bin .gtr (.t 24) (.c (.int .i64 10))), (some (22, false))⟩,
  ⟨some 26, .t (.pick (.t 22) (.c (.bool true)) (.t 25)), none⟩,⟨some 27, .t (.mv (.t 26)), none⟩,⟨some 28, .t (.faddr 0 (.t 6)), (some (27, false))⟩,
  ⟨some 29, .m (.load false 1 (.t 28)), (some (27, false))⟩,
  ⟨some 30, .t (.faddr 0 (.t 5)), (some (27, false))⟩,
  ⟨some 31, .m (.load false 1 (.t 30)), (some (27, false))⟩,
  ⟨some 32, .t (.bin .neq (.t 29) (.t 31)), (some (27, false))⟩,
  ⟨some 33, .t (.pick (.t 27) (.c (.bool true)) (.t 32)), none⟩,⟨some 18, .t (.mv (.t 33)), none⟩]
def F80o3 : List AOper := [⟨some 34, .t (.mv (.t 0)), none⟩,⟨some 35, .t (.mv (.t 3)), none⟩,⟨some 36, .call (.c (.clo 129 [] [])) [(.t 34), (.t 35), (.c (.int .i64 1))], none⟩]
def F80o4 : List AOper := [⟨some 38, .m (.load true 6 (.t 6)), none⟩,⟨some 39, .call (.c (.clo 130 [] [])) [(.t 38)], none⟩,⟨some 40, .t (.not (.t 39)), none⟩,⟨some 37, .t (.mv (.t 40)), none⟩]
def F80o5 : List AOper := [⟨some 41, .t (.mv (.t 0)), none⟩,⟨some 42, .t (.mv (.t 3)), none⟩,⟨some 43, .call (.c (.clo 129 [] [])) [(.t 41), (.t 42), (.c (.int .i64 8))], none⟩]
def F80o6 : List AOper := [⟨some 44, .t (.faddr 0 (.t 5)), none⟩,⟨some 45, .m (.load false 1 (.t 44)), none⟩]
def F80o7 : List AOper := [⟨some 47, .t (.bin .eql (.t 45) (.c (.int .i64 2))), none⟩,⟨some 46, .t (.mv (.t 47)), none⟩]
def F80o8 : List AOper := [⟨some 48, .t (.bin .eql (.t 45) (.c (.int .i64 6))), none⟩,⟨some 46, .t (.mv (.t 48)), none⟩]
def F80o9 : List AOper := [⟨some 49, .t (.bin .eql (.t 45) (.c (.int .i64 7))), none⟩,⟨some 46, .t (.mv (.t 49)), none⟩]
def F80o10 : List AOper := [⟨some 50, .t (.mv (.t 0)), none⟩,⟨some 51, .m (.load true 7 (.t 5)), none⟩,⟨some 52, .t (.mv (.t 3)), none⟩,⟨some 53, .t (.faddr 1 (.t 6)), none⟩,⟨some 54, .m (.load false 1 (.t 53)), none⟩,⟨some 55, .call (.c (.clo 131 [] [])) [(.t 50), (.t 51), (.t 52), (.t 54)], none⟩]
def F80o11 : List AOper := [⟨some 57, .t (.bin .eql (.t 45) (.c (.int .i64 3))), none⟩,⟨some 56, .t (.mv (.t 57)), none⟩]
def F80o12 : List AOper := [⟨some 58, .t (.faddr 2 (.t 6)), none⟩,⟨some 59, .m (.load false 1 (.t 58)), none⟩,⟨some 60, .t (.faddr 3 (.t 5)), none⟩,⟨some 61, .m (.load false 1 (.t 60)), none⟩,⟨some 62, .t (.bin .neq (.t 59) (.t 61)), none⟩]
def F80o13 : List AOper := [⟨some 63, .t (.mv (.t 0)), none⟩,⟨some 64, .t (.mv (.t 3)), none⟩,⟨some 65, .call (.c (.clo 129 [] [])) [(.t 63), (.t 64), (.c (.int .i64 3))], none⟩]
def F80o14 : List AOper := [⟨some 66, .t (.mv (.t 0)), none⟩,⟨some 67, .m (.load true 7 (.t 5)), none⟩,⟨some 68, .t (.mv (.t 3)), none⟩,⟨some 69, .t (.faddr 1 (.t 6)), none⟩,⟨some 70, .m (.load false 1 (.t 69)), none⟩,⟨some 71, .call (.c (.clo 131 [] [])) [(.t 66), (.t 67), (.t 68), (.t 70)], none⟩]
def F80o15 : List AOper := [⟨some 73, .t (.bin .eql (.t 45) (.c (.int .i64 4))), none⟩,⟨some 72, .t (.mv (.t 73)), none⟩]
def F80o16 : List AOper := [⟨some 74, .t (.bin .eql (.t 45) (.c (.int .i64 5))), none⟩,⟨some 72, .t (.mv (.t 74)), none⟩]
def F80o17 : List AOper := [⟨some 75, .t (.faddr 0 (.t 5)), none⟩,⟨some 76, .m (.load false 1 (.t 75)), none⟩,⟨some 77, .t (.bin .eql (.t 76) (.c (.int .i64 4))), none⟩,⟨some 78, .t (.mv (.t 77)), none⟩,⟨some 79, .t (.faddr 4 (.t 5)), (some (78, true))⟩,
  ⟨some 80, .m (.load false 1 (.t 79)), (some (78, true))⟩,
  ⟨some 81, .t (.len false (.t 80)), (some (78, true))⟩,
  ⟨some 82, .t (.bin .gtr (.t 81) (.c (.int .i64 0))), (some (78, true))⟩,
  ⟨some 83, .t (.pick (.t 78) (.t 82) (.c (.bool false))), none⟩]
def F80o18 : List AOper := [⟨some 84, .t (.faddr 4 (.t 5)), none⟩,⟨some 85, .m (.load false 1 (.t 84)), none⟩,⟨some 86, .t (.faddr 3 (.t 6)), none⟩,⟨some 87, .m (.load false 1 (.t 86)), none⟩,⟨some 88, .call (.c (.clo 132 [] [])) [(.t 85), (.t 87)], none⟩,⟨some 89, .t (.not (.t 88)), none⟩]
def F80o19 : List AOper := [⟨some 90, .t (.mv (.t 0)), none⟩,⟨some 91, .t (.mv (.t 3)), none⟩,⟨some 92, .call (.c (.clo 129 [] [])) [(.t 90), (.t 91), (.c (.int .i64 4))], none⟩]
def F80o20 : List AOper := [⟨some 93, .t (.mv (.t 0)), none⟩,⟨some 94, .m (.load true 7 (.t 5)), none⟩,⟨some 95, .t (.mv (.t 3)), none⟩,⟨some 96, .t (.faddr 3 (.t 6)), none⟩,⟨some 97, .m (.load false 1 (.t 96)), none⟩,⟨some 98, .t (.len true (.t 97)), none⟩,⟨some 99, .call (.c (.clo 131 [] [])) [(.t 93), (.t 94), (.t 95), (.t 98)], none⟩]
def F80o21 : List AOper := [⟨some 101, .t (.bin .eql (.t 45) (.c (.int .i64 8))), none⟩,⟨some 100, .t (.mv (.t 101)), none⟩]
def F80o22 : List AOper := [⟨some 102, .t (.mv (.t 0)), none⟩,⟨some 103, .m (.load true 7 (.t 5)), none⟩,⟨some 104, .t (.mv (.t 3)), none⟩,⟨some 105, .t (.faddr 4 (.t 6)), none⟩,⟨some 106, .m (.load false 1 (.t 105)), none⟩,⟨some 107, .t (.len false (.t 106)), none⟩,⟨some 108, .call (.c (.clo 131 [] [])) [(.t 102), (.t 103), (.t 104), (.t 107)], none⟩]
def F80o23 : List AOper := [⟨some 109, .t (.faddr 4 (.t 6)), none⟩,⟨some 110, .m (.load false 1 (.t 109)), none⟩,⟨some 111, .t (.len false (.t 110)), none⟩,⟨some 112, .t (.mv (.c (.int .i64 0))), none⟩]
def F80o24 : List AOper := [⟨some 113, .t (.bin .lss (.t 112) (.t 111)), none⟩]
def F80o25 : List AOper := [⟨some 114, .t (.mv (.t 112)), none⟩,⟨some 115, .t (.iaddr 6 (.t 110) (.t 112)), none⟩,⟨some 116, .m (.load true 6 (.t 115)), none⟩,⟨some 9, .m (.alloc 31 [(.int .i64 0), (.int .i64 0), (.int .i64 0), (.str []), .nils, .nils]), none⟩,⟨some 8, .t (.mv (.t 114)), none⟩,⟨none, .m (.store 6 (.t 9) (.t 116)), none⟩]
def F80o26 : List AOper := [⟨some 117, .t (.mv (.t 3)), none⟩,⟨some 118, .t (.bin .add (.t 117) (.c (.str [91]))), none⟩,⟨some 119, .t (.mv (.t 8)), none⟩,⟨some 120, .call (.c (.clo 87 [] [])) [(.t 119)], none⟩,⟨some 121, .t (.bin .add (.t 118) (.t 120)), none⟩,⟨some 122, .t (.bin .add (.t 121) (.c (.str [93]))), none⟩,⟨some 10, .t (.mv (.t 122)), none⟩]
def F80o27 : List AOper := [⟨some 123, .t (.faddr 5 (.t 5)), none⟩,⟨some 124, .m (.load false 1 (.t 123)), none⟩,⟨some 125, .t (.len false (.t 124)), none⟩,⟨some 126, .t (.bin .eql (.t 125) (.c (.int .i64 1))), none⟩]
def F80o28 : List AOper := [⟨some 127, .t (.mv (.t 0)), none⟩,⟨some 128, .t (.faddr 5 (.t 5)), none⟩,⟨some 129, .m (.load false 1 (.t 128)), none⟩,⟨some 130, .t (.iaddr 7 (.t 129) (.c (.int .i64 0))), none⟩,⟨some 131, .m (.load true 7 (.t 130)), none⟩,⟨some 132, .m (.load true 6 (.t 9)), none⟩,⟨some 133, .t (.mv (.t 10)), none⟩]
def F80p28 : List AOper := [⟨some 134, .call (.c (.clo 80 [] [])) [(.t 127), (.t 131), (.t 132), (.t 133)], none⟩]
def F80A28 : List (List Nat) := [[], [], [1], [2, 1], [3, 2, 1], [], [], [0, 4, 5, 6, 3, 2, 1]]
def F80o29 : List AOper := [⟨some 135, .t (.mv (.t 0)), none⟩,⟨some 136, .t (.mv (.t 10)), none⟩,⟨some 137, .call (.c (.clo 129 [] [])) [(.t 135), (.t 136), (.c (.int .i64 1))], none⟩]
def F80o30 : List AOper := [⟨some 138, .t (.bin .add (.t 112) (.c (.int .i64 1))), none⟩,⟨some 112, .t (.mv (.t 138)), none⟩]
def F80b31 : ACode :=
(.seq (.ops F80o24 [0, 3, 5, 110, 111, 112, 113])
((.seq (.cond (.t 113)
(.skip)
(.exit 2))
((.seq (.block 3 ((.seq (.ops F80o25 [0, 3, 5, 8, 9, 110, 111, 112])
((.seq (.ops F80o26 [0, 3, 5, 9, 10, 110, 111, 112])
((.seq (.ops F80o27 [0, 3, 5, 9, 10, 110, 111, 112, 126])
(.cond (.t 126)
(.draw F80A28 F80o28 F80p28 [0, 3, 5, 110, 111, 112])
(.ops F80o29 [0, 3, 5, 110, 111, 112])))))))))
(.ops F80o30 [0, 3, 5, 110, 111, 112]))))))
def F80o32 : List AOper := [⟨some 140, .t (.bin .eql (.t 45) (.c (.int .i64 9))), none⟩,⟨some 139, .t (.mv (.t 140)), none⟩]
def F80o33 : List AOper := [⟨some 141, .t (.mv (.t 0)), none⟩,⟨some 142, .m (.load true 7 (.t 5)), none⟩,⟨some 143, .m (.load true 6 (.t 6)), none⟩,⟨some 144, .t (.mv (.t 3)), none⟩,⟨some 145, .call (.c (.clo 133 [] [])) [(.t 141), (.t 142), (.t 143), (.t 144)], none⟩]
def F80o34 : List AOper := [⟨some 147, .t (.bin .eql (.t 45) (.c (.int .i64 10))), none⟩,⟨some 146, .t (.mv (.t 147)), none⟩]
def F80o35 : List AOper := [⟨some 149, .m (.load true 7 (.t 5)), none⟩,⟨some 150, .t (.faddr 3 (.t 6)), none⟩,⟨some 151, .m (.load false 1 (.t 150)), none⟩,⟨some 152, .call (.c (.clo 134 [] [])) [(.t 149), (.t 151)], none⟩,⟨some 148, .t (.mv (.t 152)), none⟩,⟨some 153, .t (.ext (.t 148) 0), none⟩,⟨some 154, .t (.ext (.t 148) 1), none⟩,⟨some 11, .m (.alloc 98 [(.int .i64 0), (.str []), (.int .i64 0), (.int .i64 0), (.int .i64 0), (.int .i64 0), (.int .i64 0), .nils, .nils, .nils, .nils]), none⟩,⟨none, .m (.store 11 (.t 11) (.t 153)), none⟩,⟨some 12, .t (.mv (.t 154)), none⟩]
def F80o36 : List AOper := [⟨some 155, .t (.mv (.t 12)), none⟩]
def F80o37 : List AOper := [⟨some 156, .t (.mv (.t 0)), none⟩,⟨some 157, .t (.faddr 3 (.t 11)), none⟩,⟨some 158, .m (.load true 7 (.t 157)), none⟩,⟨some 159, .t (.faddr 4 (.t 6)), none⟩,⟨some 160, .m (.load false 1 (.t 159)), none⟩,⟨some 161, .t (.iaddr 6 (.t 160) (.c (.int .i64 0))), none⟩,⟨some 162, .m (.load true 6 (.t 161)), none⟩,⟨some 163, .t (.mv (.t 3)), none⟩,⟨some 164, .t (.bin .add (.t 163) (.c (.str [63]))), none⟩,⟨some 165, .t (.faddr 3 (.t 6)), none⟩,⟨some 166, .m (.load false 1 (.t 165)), none⟩,⟨some 167, .t (.bin .add (.t 164) (.t 166)), none⟩]
def F80p37 : List AOper := [⟨some 168, .call (.c (.clo 80 [] [])) [(.t 156), (.t 158), (.t 162), (.t 167)], none⟩]
def F80A37 : List (List Nat) := [[], [], [1], [], [3], [4, 3], [5, 4, 3], [], [7], [], [9], [8, 10, 7, 9], [0, 2, 6, 11, 1, 5, 4, 3, 8, 10, 7, 9]]
def F80o38 : List AOper := [⟨some 169, .t (.mv (.t 0)), none⟩,⟨some 170, .t (.mv (.t 3)), none⟩,⟨some 171, .call (.c (.clo 129 [] [])) [(.t 169), (.t 170), (.c (.int .i64 7))], none⟩]
def F80c : ACode :=
(.seq (.ops F80o0 [0, 3, 5, 6])
((.seq (.block 0 ((.seq (.ops F80o1 [0, 3, 5, 6, 13])
(.cond (.t 13)
(.ret)
((.seq (.ops F80o2 [0, 3, 5, 6, 18])
(.cond (.t 18)
((.seq (.ops F80o3 [])
(.ret)))
((.seq (.ops F80o4 [0, 3, 5, 6, 37])
(.cond (.t 37)
((.seq (.ops F80o5 [])
(.ret)))
(.skip)))))))))))
((.seq (.ops F80o6 [0, 3, 5, 6, 45])
(.block 1 ((.seq ((.seq (.ops F80o7 [0, 3, 5, 6, 45, 46])
(.cond (.t 46)
(.skip)
((.seq (.ops F80o8 [0, 3, 5, 6, 45, 46])
(.cond (.t 46)
(.skip)
(.ops F80o9 [0, 3, 5, 6, 45, 46])))))))
(.cond (.t 46)
(.ops F80o10 [])
((.seq (.ops F80o11 [0, 3, 5, 6, 45, 56])
(.cond (.t 56)
((.seq (.ops F80o12 [0, 3, 5, 6, 62])
(.cond (.t 62)
(.ops F80o13 [])
(.ops F80o14 []))))
((.seq ((.seq (.ops F80o15 [0, 3, 5, 6, 45, 72])
(.cond (.t 72)
(.skip)
(.ops F80o16 [0, 3, 5, 6, 45, 72]))))
(.cond (.t 72)
((.seq (.ops F80o17 [0, 3, 5, 6, 83])
(.cond (.t 83)
((.seq (.ops F80o18 [0, 3, 89])
(.cond (.t 89)
(.ops F80o19 [])
(.skip))))
(.ops F80o20 []))))
((.seq (.ops F80o21 [0, 3, 5, 6, 45, 100])
(.cond (.t 100)
((.seq (.ops F80o22 [0, 3, 5, 6])
((.seq (.ops F80o23 [0, 3, 5, 110, 111, 112])
(.block 2 (.loop [0, 3, 5, 110, 111, 112] F80b31))))))
((.seq (.ops F80o32 [0, 3, 5, 6, 45, 139])
(.cond (.t 139)
(.ops F80o33 [])
((.seq (.ops F80o34 [0, 3, 5, 6, 146])
(.cond (.t 146)
((.seq (.ops F80o35 [0, 3, 6, 11, 12])
((.seq (.ops F80o36 [0, 3, 6, 11, 155])
(.cond (.t 155)
(.draw F80A37 F80o37 F80p37 [])
(.ops F80o38 []))))))
(.skip)))))))))))))))))))))))))
def F80 : AFn := ⟨172, [], F80c⟩
theorem F80_ok : cFn Tryz.prog [] 80 = some F80 := by kernel_rfl
def F86o0 : List AOper := [⟨some 1, .m (.box 71 (.t 0)), none⟩,⟨some 2, .t (.mv (.c (.int .i64 0))), none⟩]
def F86o1 : List AOper := [⟨some 3, .t (.faddr 0 (.t 1)), none⟩,⟨some 4, .m (.load false 1 (.t 3)), none⟩,⟨some 5, .call (.c (.clo 88 [] [])) [(.t 4)], none⟩,⟨some 6, .t (.bin .gtr (.t 5) (.c (.int .i64 999999999999999))), none⟩,⟨some 7, .t (.mv (.t 6)), none⟩,⟨some 8, .t (.faddr 0 (.t 1)), (some (7, false))⟩,
  ⟨some 9, .m (.load false 1 (.t 8)), (some (7, false))⟩,
  ⟨some 10, .t (.bin .lss (.t 9) (.c (.int .i64 (-999999999999999)))), (some (7, false))⟩,
  ⟨some 11, .t (.pick (.t 7) (.c (.bool true)) (.t 10)), none⟩,⟨some 12, .t (.mv (.t 11)), none⟩,⟨some 13, .t (.faddr 1 (.t 1)), (some (12, false))⟩,
  ⟨some 14, .m (.load false 1 (.t 13)), (some (12, false))⟩,
  ⟨some 15, .t (.bin .lss (.t 14) (.c (.int .i64 0))), (some (12, false))⟩,
  ⟨some 16, .t (.pick (.t 12) (.c (.bool true)) (.t 15)), none⟩,⟨some 17, .t (.mv (.t 16)), none⟩,⟨some 18, .t (.faddr 1 (.t 1)), (some (17, false))⟩,
  ⟨some 19, .m (.load false 1 (.t 18)), (some (17, false))⟩,
  ⟨some 20, .t (.bin .gtr (.t 19) (.c (.int .i64 12))), (some (17, false))⟩,
  ⟨some 21, .t (.pick (.t 17) (.c (.bool true)) (.t 20)), none⟩]
def F86o2 : List AOper := [⟨some 2, .t (.mv (.c (.int .i64 2))), none⟩]
def F86o3 : List AOper := [⟨some 2, .t (.mv (.c (.int .i64 0))), none⟩]
def F86c : ACode :=
(.seq (.ops F86o0 [1])
((.seq ((.seq (.ops F86o1 [21])
(.cond (.t 21)
((.seq (.ops F86o2 [2])
(.ret)))
(.skip))))
((.seq (.ops F86o3 [2])
(.ret))))))
def F86 : AFn := ⟨22, [.tmp 2], F86c⟩
theorem F86_ok : cFn Tryz.prog [] 86 = some F86 := by kernel_rfl
def F88o0 : List AOper := [⟨some 2, .t (.mv (.c (.int .i64 0))), none⟩]
def F88o1 : List AOper := [⟨some 3, .t (.mv (.t 0)), none⟩,⟨some 4, .t (.mv (.t 0)), none⟩,⟨some 5, .t (.neg (.t 4)), none⟩,⟨some 6, .t (.imax (.t 3) (.t 5)), none⟩,⟨some 2, .t (.mv (.t 6)), none⟩]
def F88c : ACode :=
(.seq (.ops F88o0 [0])
((.seq (.ops F88o1 [2])
(.ret))))
def F88 : AFn := ⟨7, [.tmp 2], F88c⟩
theorem F88_ok : cFn Tryz.prog [] 88 = some F88 := by kernel_rfl
def F89o0 : List AOper := [⟨some 4, .t (.mv (.c (.str []))), none⟩]
def F89o1 : List AOper := [⟨some 11, .t (.mv (.t 1)), none⟩]
def F89o2 : List AOper := [⟨some 13, .t (.bin .eql (.t 11) (.c (.int .i64 0))), none⟩,⟨some 12, .t (.mv (.t 13)), none⟩]
def F89o3 : List AOper := [⟨some 4, .t (.mv (.c (.str []))), none⟩]
def F89o4 : List AOper := [⟨some 15, .t (.bin .eql (.t 11) (.c (.int .i64 1))), none⟩,⟨some 14, .t (.mv (.t 15)), none⟩]
def F89o5 : List AOper := [⟨some 16, .t (.mv (.t 0)), none⟩,⟨some 4, .t (.mv (.t 16)), none⟩]
def F89o6 : List AOper := [⟨some 17, .t (.mv (.t 1)), none⟩,⟨some 18, .t (.bin .lss (.t 17) (.c (.int .i64 0))), none⟩]
def F89o7 : List AOper := [⟨some 19, .m (.xop (.mki 9 (.c (.str [115, 116, 114, 105, 110, 103, 115, 58, 32, 110, 101, 103, 97, 116, 105, 118, 101, 32, 82, 101, 112, 101, 97, 116, 32, 99, 111, 117, 110, 116])))), none⟩,⟨none, .call (.c .undef) [], none⟩]
def F89o8 : List AOper := [⟨some 21, .t (.mv (.t 0)), none⟩,⟨some 22, .t (.len true (.t 21)), none⟩,⟨some 23, .t (.conv .u64 (.t 22)), none⟩,⟨some 24, .t (.mv (.t 1)), none⟩,⟨some 25, .t (.conv .u64 (.t 24)), none⟩,⟨some 26, .call (.c (.clo 139 [] [])) [(.t 23), (.t 25)], none⟩,⟨some 20, .t (.mv (.t 26)), none⟩,⟨some 27, .t (.ext (.t 20) 0), none⟩,⟨some 28, .t (.ext (.t 20) 1), none⟩,⟨some 5, .t (.mv (.t 27)), none⟩,⟨some 6, .t (.mv (.t 28)), none⟩]
def F89o9 : List AOper := [⟨some 29, .t (.mv (.t 5)), none⟩,⟨some 30, .t (.bin .gtr (.t 29) (.c (.int .u64 0))), none⟩,⟨some 31, .t (.mv (.t 30)), none⟩,⟨some 32, .t (.mv (.t 6)), (some (31, false))⟩,
  ⟨some 33, .t (.bin .gtr (.t 32) (.c (.int .u64 9223372036854775807))), (some (31, false))⟩,
  ⟨some 34, .t (.pick (.t 31) (.c (.bool true)) (.t 33)), none⟩]
def F89o10 : List AOper := [⟨some 35, .m (.xop (.mki 9 (.c (.str [115, 116, 114, 105, 110, 103, 115, 58, 32, 82, 101, 112, 101, 97, 116, 32, 111, 117, 116, 112, 117, 116, 32, 108, 101, 110, 103, 116, 104, 32, 111, 118, 101, 114, 102, 108, 111, 119])))), none⟩,⟨none, .call (.c .undef) [], none⟩]
def F89o11 : List AOper := [⟨some 36, .t (.mv (.t 6)), none⟩,⟨some 37, .t (.conv .i64 (.t 36)), none⟩,⟨some 7, .t (.mv (.t 37)), none⟩]
def F89o12 : List AOper := [⟨some 38, .t (.mv (.t 0)), none⟩,⟨some 39, .t (.len true (.t 38)), none⟩,⟨some 40, .t (.bin .eql (.t 39) (.c (.int .i64 0))), none⟩]
def F89o13 : List AOper := [⟨some 4, .t (.mv (.c (.str []))), none⟩]
def F89o14 : List AOper := [⟨some 41, .t (.mv (.t 0)), none⟩,⟨some 42, .t (.index (.t 41) (.c (.int .i64 0))), none⟩]
def F89o15 : List AOper := [⟨some 44, .t (.bin .eql (.t 42) (.c (.int .u8 32))), none⟩,⟨some 43, .t (.mv (.t 44)), none⟩]
def F89o16 : List AOper := [⟨some 45, .t (.bin .eql (.t 42) (.c (.int .u8 45))), none⟩,⟨some 43, .t (.mv (.t 45)), none⟩]
def F89o17 : List AOper := [⟨some 46, .t (.bin .eql (.t 42) (.c (.int .u8 48))), none⟩,⟨some 43, .t (.mv (.t 46)), none⟩]
def F89o18 : List AOper := [⟨some 47, .t (.bin .eql (.t 42) (.c (.int .u8 61))), none⟩,⟨some 43, .t (.mv (.t 47)), none⟩]
def F89o19 : List AOper := [⟨some 48, .t (.bin .eql (.t 42) (.c (.int .u8 9))), none⟩,⟨some 43, .t (.mv (.t 48)), none⟩]
def F89o20 : List AOper := [⟨some 50, .t (.mv (.t 7)), none⟩,⟨some 51, .t (.bin .leq (.t 50) (.c (.int .i64 128))), none⟩,⟨some 52, .t (.mv (.t 51)), none⟩,⟨some 53, .t (.mv (.t 0)), (some (52, true))⟩,
  ⟨some 54, .call (.c (.clo 140 [] [])) [(.c (.str [32, 32, 32, 32, 32, 32, 32, 32, 32, 32, 32, 32, 32, 32, 32, 32, 32, 32, 32, 32, 32, 32, 32, 32, 32, 32, 32, 32, 32, 32, 32, 32, 32, 32, 32, 32, 32, 32, 32, 32, 32, 32, 32, 32, 32, 32, 32, 32, 32, 32, 32, 32, 32, 32, 32, 32, 32, 32, 32, 32, 32, 32, 32, 32, 32, 32, 32, 32, 32, 32, 32, 32, 32, 32, 32, 32, 32, 32, 32, 32, 32, 32, 32, 32, 32, 32, 32, 32, 32, 32, 32, 32, 32, 32, 32, 32, 32, 32, 32, 32, 32, 32, 32, 32, 32, 32, 32, 32, 32, 32, 32, 32, 32, 32, 32, 32, 32, 32, 32, 32, 32, 32, 32, 32, 32, 32, 32, 32])), (.t 53)], (some (52, true))⟩,
  ⟨some 55, .t (.pick (.t 52) (.t 54) (.c (.bool false))), none⟩,⟨some 49, .t (.mv (.t 55)), none⟩]
def F89o21 : List AOper := [⟨some 56, .t (.mv (.t 7)), none⟩,⟨some 57, .t (.sliceS (.c (.str [32, 32, 32, 32, 32, 32, 32, 32, 32, 32, 32, 32, 32, 32, 32, 32, 32, 32, 32, 32, 32, 32, 32, 32, 32, 32, 32, 32, 32, 32, 32, 32, 32, 32, 32, 32, 32, 32, 32, 32, 32, 32, 32, 32, 32, 32, 32, 32, 32, 32, 32, 32, 32, 32, 32, 32, 32, 32, 32, 32, 32, 32, 32, 32, 32, 32, 32, 32, 32, 32, 32, 32, 32, 32, 32, 32, 32, 32, 32, 32, 32, 32, 32, 32, 32, 32, 32, 32, 32, 32, 32, 32, 32, 32, 32, 32, 32, 32, 32, 32, 32, 32, 32, 32, 32, 32, 32, 32, 32, 32, 32, 32, 32, 32, 32, 32, 32, 32, 32, 32, 32, 32, 32, 32, 32, 32, 32, 32])) none (some (.t 56))), none⟩,⟨some 4, .t (.mv (.t 57)), none⟩]
def F89o22 : List AOper := [⟨some 59, .t (.mv (.t 7)), none⟩,⟨some 60, .t (.bin .leq (.t 59) (.c (.int .i64 128))), none⟩,⟨some 61, .t (.mv (.t 60)), none⟩,⟨some 62, .t (.mv (.t 0)), (some (61, true))⟩,
  ⟨some 63, .call (.c (.clo 140 [] [])) [(.c (.str [45, 45, 45, 45, 45, 45, 45, 45, 45, 45, 45, 45, 45, 45, 45, 45, 45, 45, 45, 45, 45, 45, 45, 45, 45, 45, 45, 45, 45, 45, 45, 45, 45, 45, 45, 45, 45, 45, 45, 45, 45, 45, 45, 45, 45, 45, 45, 45, 45, 45, 45, 45, 45, 45, 45, 45, 45, 45, 45, 45, 45, 45, 45, 45, 45, 45, 45, 45, 45, 45, 45, 45, 45, 45, 45, 45, 45, 45, 45, 45, 45, 45, 45, 45, 45, 45, 45, 45, 45, 45, 45, 45, 45, 45, 45, 45, 45, 45, 45, 45, 45, 45, 45, 45, 45, 45, 45, 45, 45, 45, 45, 45, 45, 45, 45, 45, 45, 45, 45, 45, 45, 45, 45, 45, 45, 45, 45, 45])), (.t 62)], (some (61, true))⟩,
  ⟨some 64, .t (.pick (.t 61) (.t 63) (.c (.bool false))), none⟩,⟨some 58, .t (.mv (.t 64)), none⟩]
def F89o23 : List AOper := [⟨some 65, .t (.mv (.t 7)), none⟩,⟨some 66, .t (.sliceS (.c (.str [45, 45, 45, 45, 45, 45, 45, 45, 45, 45, 45, 45, 45, 45, 45, 45, 45, 45, 45, 45, 45, 45, 45, 45, 45, 45, 45, 45, 45, 45, 45, 45, 45, 45, 45, 45, 45, 45, 45, 45, 45, 45, 45, 45, 45, 45, 45, 45, 45, 45, 45, 45, 45, 45, 45, 45, 45, 45, 45, 45, 45, 45, 45, 45, 45, 45, 45, 45, 45, 45, 45, 45, 45, 45, 45, 45, 45, 45, 45, 45, 45, 45, 45, 45, 45, 45, 45, 45, 45, 45, 45, 45, 45, 45, 45, 45, 45, 45, 45, 45, 45, 45, 45, 45, 45, 45, 45, 45, 45, 45, 45, 45, 45, 45, 45, 45, 45, 45, 45, 45, 45, 45, 45, 45, 45, 45, 45, 45])) none (some (.t 65))), none⟩,⟨some 4, .t (.mv (.t 66)), none⟩]
def F89o24 : List AOper := [⟨some 68, .t (.mv (.t 7)), none⟩,⟨some 69, .t (.bin .leq (.t 68) (.c (.int .i64 64))), none⟩,⟨some 70, .t (.mv (.t 69)), none⟩,⟨some 71, .t (.mv (.t 0)), (some (70, true))⟩,
  ⟨some 72, .call (.c (.clo 140 [] [])) [(.c (.str [48, 48, 48, 48, 48, 48, 48, 48, 48, 48, 48, 48, 48, 48, 48, 48, 48, 48, 48, 48, 48, 48, 48, 48, 48, 48, 48, 48, 48, 48, 48, 48, 48, 48, 48, 48, 48, 48, 48, 48, 48, 48, 48, 48, 48, 48, 48, 48, 48, 48, 48, 48, 48, 48, 48, 48, 48, 48, 48, 48, 48, 48, 48, 48])), (.t 71)], (some (70, true))⟩,
  ⟨some 73, .t (.pick (.t 70) (.t 72) (.c (.bool false))), none⟩,⟨some 67, .t (.mv (.t 73)), none⟩]
def F89o25 : List AOper := [⟨some 74, .t (.mv (.t 7)), none⟩,⟨some 75, .t (.sliceS (.c (.str [48, 48, 48, 48, 48, 48, 48, 48, 48, 48, 48, 48, 48, 48, 48, 48, 48, 48, 48, 48, 48, 48, 48, 48, 48, 48, 48, 48, 48, 48, 48, 48, 48, 48, 48, 48, 48, 48, 48, 48, 48, 48, 48, 48, 48, 48, 48, 48, 48, 48, 48, 48, 48, 48, 48, 48, 48, 48, 48, 48, 48, 48, 48, 48])) none (some (.t 74))), none⟩,⟨some 4, .t (.mv (.t 75)), none⟩]
def F89o26 : List AOper := [⟨some 77, .t (.mv (.t 7)), none⟩,⟨some 78, .t (.bin .leq (.t 77) (.c (.int .i64 128))), none⟩,⟨some 79, .t (.mv (.t 78)), none⟩,⟨some 80, .t (.mv (.t 0)), (some (79, true))⟩,
  ⟨some 81, .call (.c (.clo 140 [] [])) [(.c (.str [61, 61, 61, 61, 61, 61, 61, 61, 61, 61, 61, 61, 61, 61, 61, 61, 61, 61, 61, 61, 61, 61, 61, 61, 61, 61, 61, 61, 61, 61, 61, 61, 61, 61, 61, 61, 61, 61, 61, 61, 61, 61, 61, 61, 61, 61, 61, 61, 61, 61, 61, 61, 61, 61, 61, 61, 61, 61, 61, 61, 61, 61, 61, 61, 61, 61, 61, 61, 61, 61, 61, 61, 61, 61, 61, 61, 61, 61, 61, 61, 61, 61, 61, 61, 61, 61, 61, 61, 61, 61, 61, 61, 61, 61, 61, 61, 61, 61, 61, 61, 61, 61, 61, 61, 61, 61, 61, 61, 61, 61, 61, 61, 61, 61, 61, 61, 61, 61, 61, 61, 61, 61, 61, 61, 61, 61, 61, 61])), (.t 80)], (some (79, true))⟩,
  ⟨some 82, .t (.pick (.t 79) (.t 81) (.c (.bool false))), none⟩,⟨some 76, .t (.mv (.t 82)), none⟩]
def F89o27 : List AOper := [⟨some 83, .t (.mv (.t 7)), none⟩,⟨some 84, .t (.sliceS (.c (.str [61, 61, 61, 61, 61, 61, 61, 61, 61, 61, 61, 61, 61, 61, 61, 61, 61, 61, 61, 61, 61, 61, 61, 61, 61, 61, 61, 61, 61, 61, 61, 61, 61, 61, 61, 61, 61, 61, 61, 61, 61, 61, 61, 61, 61, 61, 61, 61, 61, 61, 61, 61, 61, 61, 61, 61, 61, 61, 61, 61, 61, 61, 61, 61, 61, 61, 61, 61, 61, 61, 61, 61, 61, 61, 61, 61, 61, 61, 61, 61, 61, 61, 61, 61, 61, 61, 61, 61, 61, 61, 61, 61, 61, 61, 61, 61, 61, 61, 61, 61, 61, 61, 61, 61, 61, 61, 61, 61, 61, 61, 61, 61, 61, 61, 61, 61, 61, 61, 61, 61, 61, 61, 61, 61, 61, 61, 61, 61])) none (some (.t 83))), none⟩,⟨some 4, .t (.mv (.t 84)), none⟩]
def F89o28 : List AOper := [⟨some 86, .t (.mv (.t 7)), none⟩,⟨some 87, .t (.bin .leq (.t 86) (.c (.int .i64 64))), none⟩,⟨some 88, .t (.mv (.t 87)), none⟩,⟨some 89, .t (.mv (.t 0)), (some (88, true))⟩,
  ⟨some 90, .call (.c (.clo 140 [] [])) [(.c (.str [9, 9, 9, 9, 9, 9, 9, 9, 9, 9, 9, 9, 9, 9, 9, 9, 9, 9, 9, 9, 9, 9, 9, 9, 9, 9, 9, 9, 9, 9, 9, 9, 9, 9, 9, 9, 9, 9, 9, 9, 9, 9, 9, 9, 9, 9, 9, 9, 9, 9, 9, 9, 9, 9, 9, 9, 9, 9, 9, 9, 9, 9, 9, 9])), (.t 89)], (some (88, true))⟩,
  ⟨some 91, .t (.pick (.t 88) (.t 90) (.c (.bool false))), none⟩,⟨some 85, .t (.mv (.t 91)), none⟩]
def F89o29 : List AOper := [⟨some 92, .t (.mv (.t 7)), none⟩,⟨some 93, .t (.sliceS (.c (.str [9, 9, 9, 9, 9, 9, 9, 9, 9, 9, 9, 9, 9, 9, 9, 9, 9, 9, 9, 9, 9, 9, 9, 9, 9, 9, 9, 9, 9, 9, 9, 9, 9, 9, 9, 9, 9, 9, 9, 9, 9, 9, 9, 9, 9, 9, 9, 9, 9, 9, 9, 9, 9, 9, 9, 9, 9, 9, 9, 9, 9, 9, 9, 9])) none (some (.t 92))), none⟩,⟨some 4, .t (.mv (.t 93)), none⟩]
def F89o30 : List AOper := [⟨some 94, .t (.mv (.t 7)), none⟩,⟨some 8, .t (.mv (.t 94)), none⟩]
def F89o31 : List AOper := [⟨some 95, .t (.mv (.t 7)), none⟩,⟨some 96, .t (.bin .gtr (.t 95) (.c (.int .i64 8192))), none⟩]
def F89o32 : List AOper := [⟨some 97, .t (.mv (.t 0)), none⟩,⟨some 98, .t (.len true (.t 97)), none⟩,⟨some 99, .t (.bin .quo (.c (.int .i64 8192)) (.t 98)), none⟩,⟨some 100, .t (.mv (.t 0)), none⟩,⟨some 101, .t (.len true (.t 100)), none⟩,⟨some 102, .t (.bin .mul (.t 99) (.t 101)), none⟩,⟨some 8, .t (.mv (.t 102)), none⟩]
def F89o33 : List AOper := [⟨some 103, .t (.mv (.t 8)), none⟩,⟨some 104, .t (.bin .eql (.t 103) (.c (.int .i64 0))), none⟩]
def F89o34 : List AOper := [⟨some 105, .t (.mv (.t 0)), none⟩,⟨some 106, .t (.len true (.t 105)), none⟩,⟨some 8, .t (.mv (.t 106)), none⟩]
def F89o35 : List AOper := [⟨some 9, .m (.alloc 89 [.nilp, .nils]), none⟩]
def F89o36 : List AOper := [⟨some 107, .t (.mv (.t 7)), none⟩,⟨some 108, .call (.c (.clo 141 [] [])) [(.t 9), (.t 107)], none⟩]
def F89o37 : List AOper := [⟨some 109, .t (.mv (.t 0)), none⟩,⟨some 110, .call (.c (.clo 66 [] [])) [(.t 9), (.t 109)], none⟩]
def F89o38 : List AOper := [⟨some 111, .call (.c (.clo 68 [] [])) [(.t 9)], none⟩,⟨some 112, .t (.mv (.t 7)), none⟩,⟨some 113, .t (.bin .lss (.t 111) (.t 112)), none⟩]
def F89o39 : List AOper := [⟨some 114, .t (.mv (.t 7)), none⟩,⟨some 115, .call (.c (.clo 68 [] [])) [(.t 9)], none⟩,⟨some 116, .t (.bin .sub (.t 114) (.t 115)), none⟩,⟨some 117, .call (.c (.clo 68 [] [])) [(.t 9)], none⟩,⟨some 118, .t (.mv (.t 8)), none⟩,⟨some 119, .call (.c .undef) [], none⟩,⟨some 10, .t (.mv (.t 119)), none⟩]
def F89o40 : List AOper := [⟨some 120, .call (.c (.clo 44 [] [])) [(.t 9)], none⟩,⟨some 121, .t (.mv (.t 10)), none⟩,⟨some 122, .t (.sliceS (.t 120) none (some (.t 121))), none⟩,⟨some 123, .call (.c (.clo 66 [] [])) [(.t 9), (.t 122)], none⟩]
def F89b41 : ACode :=
(.seq ((.seq (.ops F89o38 [7, 8, 9, 113])
(.cond (.t 113)
(.skip)
(.exit 3))))
(.block 4 ((.seq (.ops F89o39 [7, 8, 9, 10])
(.ops F89o40 [7, 8, 9])))))
def F89o42 : List AOper := [⟨some 124, .call (.c (.clo 44 [] [])) [(.t 9)], none⟩,⟨some 4, .t (.mv (.t 124)), none⟩]
def F89c : ACode :=
(.seq (.ops F89o0 [0, 1])
((.seq ((.seq (.ops F89o1 [0, 1, 11])
(.block 0 ((.seq (.ops F89o2 [0, 1, 11, 12])
(.cond (.t 12)
((.seq (.ops F89o3 [4])
(.ret)))
((.seq (.ops F89o4 [0, 1, 14])
(.cond (.t 14)
((.seq (.ops F89o5 [4])
(.ret)))
(.skip))))))))))
((.seq ((.seq (.ops F89o6 [0, 1, 18])
(.cond (.t 18)
(.ops F89o7 [0, 1])
(.skip))))
((.seq (.ops F89o8 [0, 5, 6])
((.seq ((.seq (.ops F89o9 [0, 6, 34])
(.cond (.t 34)
(.ops F89o10 [0, 6])
(.skip))))
((.seq (.ops F89o11 [0, 7])
((.seq ((.seq (.ops F89o12 [0, 7, 40])
(.cond (.t 40)
((.seq (.ops F89o13 [4])
(.ret)))
(.skip))))
((.seq ((.seq (.ops F89o14 [0, 7, 42])
(.block 1 ((.seq ((.seq (.ops F89o15 [0, 7, 42, 43])
(.cond (.t 43)
(.skip)
((.seq (.ops F89o16 [0, 7, 42, 43])
(.cond (.t 43)
(.skip)
((.seq (.ops F89o17 [0, 7, 42, 43])
(.cond (.t 43)
(.skip)
((.seq (.ops F89o18 [0, 7, 42, 43])
(.cond (.t 43)
(.skip)
(.ops F89o19 [0, 7, 43])))))))))))))
(.cond (.t 43)
(.block 2 ((.seq (.ops F89o20 [0, 7, 49])
(.cond (.t 49)
((.seq (.ops F89o21 [4])
(.ret)))
((.seq (.ops F89o22 [0, 7, 58])
(.cond (.t 58)
((.seq (.ops F89o23 [4])
(.ret)))
((.seq (.ops F89o24 [0, 7, 67])
(.cond (.t 67)
((.seq (.ops F89o25 [4])
(.ret)))
((.seq (.ops F89o26 [0, 7, 76])
(.cond (.t 76)
((.seq (.ops F89o27 [4])
(.ret)))
((.seq (.ops F89o28 [0, 7, 85])
(.cond (.t 85)
((.seq (.ops F89o29 [4])
(.ret)))
(.skip)))))))))))))))))
(.skip)))))))
((.seq (.ops F89o30 [0, 7, 8])
((.seq ((.seq (.ops F89o31 [0, 7, 8, 96])
(.cond (.t 96)
((.seq (.ops F89o32 [0, 7, 8])
((.seq (.ops F89o33 [0, 7, 8, 104])
(.cond (.t 104)
(.ops F89o34 [0, 7, 8])
(.skip))))))
(.skip))))
((.seq (.ops F89o35 [0, 7, 8, 9])
((.seq (.ops F89o36 [0, 7, 8, 9])
((.seq (.ops F89o37 [7, 8, 9])
((.seq (.block 3 (.loop [7, 8, 9] F89b41))
((.seq (.ops F89o42 [4])
(.ret))))))))))))))))))))))))))))))
def F89 : AFn := ⟨125, [.tmp 4], F89c⟩
theorem F89_ok : cFn Tryz.prog [] 89 = some F89 := by kernel_rfl
end Go.Proofs.YtbaaokocnegdoaaGreatDoor
