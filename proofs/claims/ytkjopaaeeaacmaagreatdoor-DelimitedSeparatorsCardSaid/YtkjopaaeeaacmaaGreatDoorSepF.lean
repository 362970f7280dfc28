/- Functions of the program as the logic reads them, each with the proof that it is so read. -/
import Derived.Test.YtkjopaaeeaacmaaGreatDoorProg
import Derived.Test.YtkjopaaeeaacmaaGreatDoorCore5
import Derived.KernelRfl
set_option maxRecDepth 100000
namespace Go.Proofs.YtkjopaaeeaacmaaGreatDoor
open Go Go.Ab
def F3o0 : List AOper := [⟨some 2, .t (.mv (.c (.bool false))), none⟩]
def F3o1 : List AOper := [⟨some 3, .call (.c (.clo 4 [] [])) [], none⟩,⟨some 4, .t (.mv (.t 3)), none⟩,⟨some 5, .t (.mv (.t 0)), (some (4, true))⟩,
  ⟨some 6, .call (.c (.clo 5 [] [])) [(.t 5)], (some (4, true))⟩,
  ⟨some 7, .t (.mv (.t 0)), (some (4, true))⟩,
  ⟨some 8, .call (.c (.clo 6 [] [])) [(.t 7)], (some (4, true))⟩,
  ⟨some 9, .t (.beq 0 false (.t 6) (.t 8)), (some (4, true))⟩,
  ⟨some 10, .t (.pick (.t 4) (.t 9) (.c (.bool false))), none⟩,⟨some 2, .t (.mv (.t 10)), none⟩]
def F3c : ACode :=
(.seq (.ops F3o0 [0])
((.seq (.ops F3o1 [2])
(.ret))))
def F3 : AFn := ⟨11, [.tmp 2], F3c⟩
theorem F3_ok : cFn Tryz.prog [] 3 = some F3 := by kernel_rfl
def F4o0 : List AOper := [⟨some 0, .t (.mv (.c (.bool false))), none⟩]
def F4o1 : List AOper := [⟨some 10, .t (.build [(.int .i64 0), (.int .i64 0), (.int .i64 0), (.str []), .nils, .nils] [(0, 1, (.c (.int .i64 6))), (1, 1, (.c (.int .i64 19782)))]), none⟩,⟨some 11, .t (.build [(.str []), (.int .i64 0), (.int .i64 0), (.int .i64 0), (.str []), .nils, .nils] [(0, 1, (.c (.str [100, 117, 101]))), (1, 6, (.t 10))]), none⟩,⟨some 12, .t (.build [(.int .i64 0), (.int .i64 0), (.int .i64 0), (.str []), .nils, .nils] [(0, 1, (.c (.int .i64 2))), (1, 1, (.c (.int .i64 7)))]), none⟩,⟨some 13, .t (.build [(.str []), (.int .i64 0), (.int .i64 0), (.int .i64 0), (.str []), .nils, .nils] [(0, 1, (.c (.str [105, 100]))), (1, 6, (.t 12))]), none⟩,⟨some 14, .m (.bslice false 29 7 2 [(.t 11), (.t 13)]), none⟩,⟨some 15, .t (.build [(.int .i64 0), (.int .i64 0), (.int .i64 0), (.str []), .nils, .nils] [(0, 1, (.c (.int .i64 9))), (5, 1, (.t 14))]), none⟩,⟨some 1, .m (.alloc 27 [(.int .i64 0), (.int .i64 0), (.int .i64 0), (.str []), .nils, .nils]), none⟩,⟨none, .m (.store 6 (.t 1) (.t 15)), none⟩]
def F4o2 : List AOper := [⟨some 17, .call (.c (.clo 8 [] [])) [], none⟩,⟨some 18, .m (.load true 6 (.t 1)), none⟩,⟨some 19, .call (.c (.clo 7 [] [])) [(.t 17), (.c (.int .i64 44)), (.t 18)], none⟩,⟨some 16, .t (.mv (.t 19)), none⟩,⟨some 20, .t (.ext (.t 16) 0), none⟩,⟨some 21, .t (.ext (.t 16) 1), none⟩,⟨some 2, .t (.mv (.t 20)), none⟩]
def F4p2 : List AOper := [⟨some 3, .t (.mv (.t 21)), none⟩]
def F4A2 : List (List Nat) := [[], [], [1, 0], [2, 1, 0], [3, 2, 1, 0], [3, 2, 1, 0], [4, 3, 2, 1, 0], [5, 6, 4, 3, 2, 1, 0]]
def F4o3 : List AOper := [⟨some 23, .call (.c (.clo 8 [] [])) [], none⟩,⟨some 24, .t (.mv (.t 2)), none⟩,⟨some 25, .call (.c (.clo 9 [] [])) [(.t 23), (.c (.int .i64 44)), (.t 24)], none⟩,⟨some 22, .t (.mv (.t 25)), none⟩,⟨some 26, .t (.ext (.t 22) 0), none⟩,⟨some 27, .t (.ext (.t 22) 1), none⟩,⟨some 28, .t (.ext (.t 22) 2), none⟩,⟨some 4, .m (.alloc 27 [(.int .i64 0), (.int .i64 0), (.int .i64 0), (.str []), .nils, .nils]), none⟩,⟨none, .m (.store 6 (.t 4) (.t 26)), none⟩,⟨some 5, .t (.mv (.t 27)), none⟩,⟨some 6, .t (.mv (.t 28)), none⟩]
def F4o4 : List AOper := [⟨some 30, .call (.c (.clo 8 [] [])) [], none⟩,⟨some 31, .call (.c (.clo 9 [] [])) [(.t 30), (.c (.int .i64 44)), (.c (.str [55, 44, 120]))], none⟩,⟨some 29, .t (.mv (.t 31)), none⟩,⟨some 32, .t (.ext (.t 29) 0), none⟩,⟨some 33, .t (.ext (.t 29) 1), none⟩,⟨some 34, .t (.ext (.t 29) 2), none⟩,⟨some 7, .m (.alloc 27 [(.int .i64 0), (.int .i64 0), (.int .i64 0), (.str []), .nils, .nils]), none⟩,⟨none, .m (.store 6 (.t 7) (.t 32)), none⟩,⟨some 8, .t (.mv (.t 33)), none⟩,⟨some 9, .t (.mv (.t 34)), none⟩]
def F4o5 : List AOper := [⟨some 35, .t (.mv (.t 3)), none⟩,⟨some 36, .t (.bin .eql (.t 35) (.c (.int .i64 0))), none⟩,⟨some 37, .t (.mv (.t 36)), none⟩,⟨some 38, .t (.mv (.t 2)), (some (37, true))⟩,
  ⟨some 39, .t (.bin .eql (.t 38) (.c (.str [55, 44, 44, 50, 48, 50, 52, 45, 48, 50, 45, 50, 57]))), (some (37, true))⟩,
  ⟨some 40, .t (.pick (.t 37) (.t 39) (.c (.bool false))), none⟩,⟨some 41, .t (.mv (.t 40)), none⟩,⟨some 42, .t (.mv (.t 6)), (some (41, true))⟩,
  ⟨some 43, .t (.bin .eql (.t 42) (.c (.int .i64 0))), (some (41, true))⟩,
  ⟨some 44, .t (.pick (.t 41) (.t 43) (.c (.bool false))), none⟩,⟨some 45, .t (.mv (.t 44)), none⟩,⟨some 46, .t (.mv (.t 5)), (some (45, true))⟩,
  ⟨some 47, .t (.bin .eql (.t 46) (.c (.int .i64 0))), (some (45, true))⟩,
  ⟨some 48, .t (.pick (.t 45) (.t 47) (.c (.bool false))), none⟩,⟨some 49, .t (.mv (.t 48)), none⟩,⟨some 50, .m (.load true 6 (.t 1)), (some (49, true))⟩,
  ⟨some 51, .m (.load true 6 (.t 4)), (some (49, true))⟩,
  ⟨some 52, .call (.c (.clo 10 [] [])) [(.t 50), (.t 51)], (some (49, true))⟩,
  ⟨some 53, .t (.pick (.t 49) (.t 52) (.c (.bool false))), none⟩,⟨some 54, .t (.mv (.t 53)), none⟩,⟨some 55, .t (.mv (.t 9)), (some (54, true))⟩,
  ⟨some 56, .t (.bin .eql (.t 55) (.c (.int .i64 4))), (some (54, true))⟩,
  ⟨some 57, .t (.pick (.t 54) (.t 56) (.c (.bool false))), none⟩,⟨some 58, .t (.mv (.t 57)), none⟩,⟨some 59, .t (.mv (.t 8)), (some (58, true))⟩,
  ⟨some 60, .t (.bin .eql (.t 59) (.c (.int .i64 3))), (some (58, true))⟩,
  ⟨some 61, .t (.pick (.t 58) (.t 60) (.c (.bool false))), none⟩,⟨some 0, .t (.mv (.t 61)), none⟩]
def F4c : ACode :=
(.seq (.ops F4o0 [])
((.seq (.ops F4o1 [1])
((.seq (.draw F4A2 F4o2 F4p2 [1, 2, 3])
((.seq (.ops F4o3 [1, 2, 3, 4, 5, 6])
((.seq (.ops F4o4 [1, 2, 3, 4, 5, 6, 8, 9])
((.seq (.ops F4o5 [0])
(.ret))))))))))))
def F4 : AFn := ⟨62, [.tmp 0], F4c⟩
theorem F4_ok : cFn Tryz.prog [] 4 = some F4 := by kernel_rfl
def F5o0 : List AOper := [⟨some 2, .t (.mv (.c (.bool false))), none⟩]
def F5o1 : List AOper := [⟨some 3, .t (.mv (.t 0)), none⟩,⟨some 4, .t (.bin .geq (.t 3) (.c (.int .i64 0))), none⟩,⟨some 5, .t (.mv (.t 4)), none⟩,⟨some 6, .t (.mv (.t 0)), (some (5, true))⟩,
  ⟨some 7, .t (.bin .lss (.t 6) (.c (.int .i64 128))), (some (5, true))⟩,
  ⟨some 8, .t (.pick (.t 5) (.t 7) (.c (.bool false))), none⟩,⟨some 9, .t (.mv (.t 8)), none⟩,⟨some 10, .t (.mv (.t 0)), (some (9, true))⟩,
  ⟨some 11, .t (.conv .u8 (.t 10)), (some (9, true))⟩,
  ⟨some 12, .call (.c (.clo 11 [] [])) [(.c (.str [9, 44, 59, 124, 58, 94, 126, 35])), (.t 11)], (some (9, true))⟩,
  ⟨some 13, .t (.bin .geq (.t 12) (.c (.int .i64 0))), (some (9, true))⟩,
  ⟨some 14, .t (.pick (.t 9) (.t 13) (.c (.bool false))), none⟩,⟨some 2, .t (.mv (.t 14)), none⟩]
def F5c : ACode :=
(.seq (.ops F5o0 [0])
((.seq (.ops F5o1 [2])
(.ret))))
def F5 : AFn := ⟨15, [.tmp 2], F5c⟩
theorem F5_ok : cFn Tryz.prog [] 5 = some F5 := by kernel_rfl
def F6o0 : List AOper := [⟨some 2, .t (.mv (.c (.bool false))), none⟩]
def F6o1 : List AOper := [⟨some 3, .t (.mv (.t 0)), none⟩,⟨some 4, .t (.bin .eql (.t 3) (.c (.int .i64 9))), none⟩,⟨some 5, .t (.mv (.t 4)), none⟩,⟨some 6, .t (.mv (.t 0)), (some (5, false))⟩,
  ⟨some 7, .t (.bin .eql (.t 6) (.c (.int .i64 44))), (some (5, false))⟩,
  ⟨some 8, .t (.pick (.t 5) (.c (.bool true)) (.t 7)), none⟩,⟨some 9, .t (.mv (.t 8)), none⟩,⟨some 10, .t (.mv (.t 0)), (some (9, false))⟩,
  ⟨some 11, .t (.bin .eql (.t 10) (.c (.int .i64 59))), (some (9, false))⟩,
  ⟨some 12, .t (.pick (.t 9) (.c (.bool true)) (.t 11)), none⟩,⟨some 13, .t (.mv (.t 12)), none⟩,⟨some 14, .t (.mv (.t 0)), (some (13, false))⟩,
  ⟨some 15, .t (.bin .eql (.t 14) (.c (.int .i64 124))), (some (13, false))⟩,
  ⟨some 16, .t (.pick (.t 13) (.c (.bool true)) (.t 15)), none⟩,⟨some 17, .t (.mv (.t 16)), none⟩,⟨some 18, .t (.mv (.t 0)), (some (17, false))⟩,
  ⟨some 19, .t (.bin .eql (.t 18) (.c (.int .i64 58))), (some (17, false))⟩,
  ⟨some 20, .t (.pick (.t 17) (.c (.bool true)) (.t 19)), none⟩,⟨some 21, .t (.mv (.t 20)), none⟩,⟨some 22, .t (.mv (.t 0)), (some (21, false))⟩,
  ⟨some 23, .t (.bin .eql (.t 22) (.c (.int .i64 94))), (some (21, false))⟩,
  ⟨some 24, .t (.pick (.t 21) (.c (.bool true)) (.t 23)), none⟩,⟨some 25, .t (.mv (.t 24)), none⟩,⟨some 26, .t (.mv (.t 0)), (some (25, false))⟩,
  ⟨some 27, .t (.bin .eql (.t 26) (.c (.int .i64 126))), (some (25, false))⟩,
  ⟨some 28, .t (.pick (.t 25) (.c (.bool true)) (.t 27)), none⟩,⟨some 29, .t (.mv (.t 28)), none⟩,⟨some 30, .t (.mv (.t 0)), (some (29, false))⟩,
  ⟨some 31, .t (.bin .eql (.t 30) (.c (.int .i64 35))), (some (29, false))⟩,
  ⟨some 32, .t (.pick (.t 29) (.c (.bool true)) (.t 31)), none⟩,⟨some 2, .t (.mv (.t 32)), none⟩]
def F6c : ACode :=
(.seq (.ops F6o0 [0])
((.seq (.ops F6o1 [2])
(.ret))))
def F6 : AFn := ⟨33, [.tmp 2], F6c⟩
theorem F6_ok : cFn Tryz.prog [] 6 = some F6 := by kernel_rfl
def F7o0 : List AOper := [⟨some 3, .m (.box 37 (.t 0)), none⟩,⟨some 5, .m (.box 27 (.t 2)), none⟩,⟨some 6, .t (.mv (.c (.str []))), none⟩,⟨some 7, .t (.mv (.c (.int .i64 0))), none⟩]
def F7o1 : List AOper := [⟨some 17, .m (.load true 7 (.t 3)), none⟩,⟨some 18, .t (.mv (.t 1)), none⟩,⟨some 19, .call (.c (.clo 12 [] [])) [(.t 17), (.t 18)], none⟩,⟨some 8, .t (.mv (.t 19)), none⟩]
def F7o2 : List AOper := [⟨some 20, .t (.mv (.t 8)), none⟩,⟨some 21, .t (.bin .neq (.t 20) (.c (.int .i64 0))), none⟩]
def F7o3 : List AOper := [⟨some 22, .t (.mv (.t 8)), none⟩,⟨some 6, .t (.mv (.c (.str []))), none⟩,⟨some 7, .t (.mv (.t 22)), none⟩]
def F7o4 : List AOper := [⟨some 23, .m (.load true 7 (.t 3)), none⟩,⟨some 24, .m (.load true 6 (.t 5)), none⟩,⟨some 25, .call (.c (.clo 13 [] [])) [(.t 23), (.t 24)], none⟩,⟨some 26, .t (.not (.t 25)), none⟩]
def F7o5 : List AOper := [⟨some 6, .t (.mv (.c (.str []))), none⟩,⟨some 7, .t (.mv (.c (.int .i64 18))), none⟩]
def F7o6 : List AOper := [⟨some 9, .t (.mv (.c .nils)), none⟩]
def F7o7 : List AOper := [⟨some 27, .t (.faddr 6 (.t 3)), none⟩,⟨some 28, .m (.load false 1 (.t 27)), none⟩,⟨some 29, .t (.len false (.t 28)), none⟩,⟨some 30, .t (.mv (.c (.int .i64 0))), none⟩]
def F7o8 : List AOper := [⟨some 31, .t (.bin .lss (.t 30) (.t 29)), none⟩]
def F7o9 : List AOper := [⟨some 32, .t (.iaddr 11 (.t 28) (.t 30)), none⟩,⟨some 33, .m (.load true 11 (.t 32)), none⟩,⟨some 11, .m (.alloc 47 [(.int .i64 0), (.str []), (.int .i64 0), (.int .i64 0), (.int .i64 0), (.int .i64 0), (.int .i64 0), .nils, .nils, .nils, .nils]), none⟩,⟨none, .m (.store 11 (.t 11) (.t 33)), none⟩]
def F7o10 : List AOper := [⟨some 12, .m (.alloc 49 [(.str []), (.bool false)]), none⟩]
def F7o11 : List AOper := [⟨some 35, .m (.load true 6 (.t 5)), none⟩,⟨some 36, .t (.faddr 1 (.t 11)), none⟩,⟨some 37, .m (.load false 1 (.t 36)), none⟩,⟨some 38, .call (.c (.clo 14 [] [])) [(.t 35), (.t 37)], none⟩,⟨some 34, .t (.mv (.t 38)), none⟩,⟨some 39, .t (.ext (.t 34) 0), none⟩,⟨some 40, .t (.ext (.t 34) 1), none⟩,⟨some 13, .m (.alloc 27 [(.int .i64 0), (.int .i64 0), (.int .i64 0), (.str []), .nils, .nils]), none⟩,⟨none, .m (.store 6 (.t 13) (.t 39)), none⟩,⟨some 14, .t (.mv (.t 40)), none⟩]
def F7o12 : List AOper := [⟨some 41, .t (.mv (.t 14)), none⟩]
def F7o13 : List AOper := [⟨some 43, .t (.faddr 3 (.t 11)), none⟩,⟨some 44, .m (.load true 7 (.t 43)), none⟩,⟨some 45, .m (.load true 6 (.t 13)), none⟩,⟨some 46, .call (.c (.clo 15 [] [])) [(.t 44), (.t 45)], none⟩,⟨some 42, .t (.mv (.t 46)), none⟩,⟨some 47, .t (.ext (.t 42) 0), none⟩,⟨some 48, .t (.ext (.t 42) 1), none⟩,⟨some 15, .t (.mv (.t 47)), none⟩,⟨some 16, .t (.mv (.t 48)), none⟩]
def F7o14 : List AOper := [⟨some 49, .t (.mv (.t 16)), none⟩,⟨some 50, .t (.bin .neq (.t 49) (.c (.int .i64 0))), none⟩]
def F7o15 : List AOper := [⟨some 51, .t (.mv (.t 16)), none⟩,⟨some 6, .t (.mv (.c (.str []))), none⟩,⟨some 7, .t (.mv (.t 51)), none⟩]
def F7o16 : List AOper := [⟨some 52, .t (.mv (.t 15)), none⟩,⟨some 53, .t (.mv (.t 15)), none⟩,⟨some 54, .t (.bin .eql (.t 53) (.c (.str []))), none⟩,⟨some 55, .t (.mv (.t 54)), none⟩,⟨some 56, .t (.mv (.t 15)), (some (55, false))⟩,
  ⟨some 57, .t (.mv (.t 1)), (some (55, false))⟩,
  ⟨some 58, .call (.c (.clo 16 [] [])) [(.t 56), (.t 57)], (some (55, false))⟩,
  ⟨some 59, .t (.pick (.t 55) (.c (.bool true)) (.t 58)), none⟩,⟨some 60, .t (.build [(.str []), (.bool false)] [(0, 1, (.t 52)), (1, 1, (.t 59))]), none⟩,⟨none, .m (.store 2 (.t 12) (.t 60)), none⟩]
def F7o17 : List AOper := [⟨some 61, .t (.mv (.t 9)), none⟩,⟨some 62, .m (.load true 2 (.t 12)), none⟩,⟨some 63, .m (.bslice false 49 2 1 [(.t 62)]), none⟩,⟨some 64, .m (.append false 49 2 24 (.t 61) (.t 63)), none⟩,⟨some 9, .t (.mv (.t 64)), none⟩]
def F7o18 : List AOper := [⟨some 65, .t (.bin .add (.t 30) (.c (.int .i64 1))), none⟩,⟨some 30, .t (.mv (.t 65)), none⟩]
def F7b19 : ACode :=
(.seq (.ops F7o8 [1, 5, 9, 28, 29, 30, 31])
((.seq (.cond (.t 31)
(.skip)
(.exit 0))
((.seq (.block 1 ((.seq (.ops F7o9 [1, 5, 9, 11, 28, 29, 30])
((.seq (.ops F7o10 [1, 5, 9, 11, 12, 28, 29, 30])
((.seq ((.seq (.ops F7o11 [1, 5, 9, 11, 12, 13, 14, 28, 29, 30])
((.seq (.ops F7o12 [1, 5, 9, 11, 12, 13, 28, 29, 30, 41])
(.cond (.t 41)
((.seq (.ops F7o13 [1, 5, 9, 12, 15, 16, 28, 29, 30])
((.seq ((.seq (.ops F7o14 [1, 5, 9, 12, 15, 16, 28, 29, 30, 50])
(.cond (.t 50)
((.seq (.ops F7o15 [6, 7])
(.ret)))
(.skip))))
(.ops F7o16 [1, 5, 9, 12, 28, 29, 30])))))
(.skip))))))
(.ops F7o17 [1, 5, 9, 28, 29, 30]))))))))
(.ops F7o18 [1, 5, 9, 28, 29, 30]))))))
def F7o20 : List AOper := [⟨some 66, .t (.mv (.t 9)), none⟩,⟨some 67, .t (.mv (.t 1)), none⟩,⟨some 68, .call (.c (.clo 17 [] [])) [(.t 66), (.t 67)], none⟩,⟨some 69, .t (.ext (.t 68) 0), none⟩,⟨some 70, .t (.ext (.t 68) 1), none⟩,⟨some 6, .t (.mv (.t 69)), none⟩,⟨some 7, .t (.mv (.t 70)), none⟩]
def F7c : ACode :=
(.seq (.ops F7o0 [1, 3, 5])
((.seq ((.seq (.ops F7o1 [1, 3, 5, 8])
((.seq (.ops F7o2 [1, 3, 5, 8, 21])
(.cond (.t 21)
((.seq (.ops F7o3 [6, 7])
(.ret)))
(.skip))))))
((.seq ((.seq (.ops F7o4 [1, 3, 5, 26])
(.cond (.t 26)
((.seq (.ops F7o5 [6, 7])
(.ret)))
(.skip))))
((.seq (.ops F7o6 [1, 3, 5, 9])
((.seq ((.seq (.ops F7o7 [1, 5, 9, 28, 29, 30])
(.block 0 (.loop [1, 5, 9, 28, 29, 30] F7b19))))
((.seq (.ops F7o20 [6, 7])
(.ret))))))))))))
def F7 : AFn := ⟨71, [.tmp 6, .tmp 7], F7c⟩
theorem F7_ok : cFn Tryz.prog [] 7 = some F7 := by kernel_rfl
def F8o0 : List AOper := [⟨some 0, .m (.alloc 37 [(.int .i64 0), (.int .i64 0), (.int .i64 0), (.int .i64 0), .nils, .nils, .nils]), none⟩]
def F8o1 : List AOper := [⟨some 1, .t (.build [(.int .i64 0), (.int .i64 0), (.int .i64 0), (.int .i64 0), .nils, .nils, .nils] [(0, 1, (.c (.int .i64 2))), (1, 1, (.c (.int .i64 0))), (2, 1, (.c (.int .i64 99)))]), none⟩,⟨some 2, .t (.build [(.int .i64 0), (.str []), (.int .i64 0), (.int .i64 0), (.int .i64 0), (.int .i64 0), (.int .i64 0), .nils, .nils, .nils, .nils] [(0, 1, (.c (.int .i64 1))), (1, 1, (.c (.str [105, 100]))), (2, 1, (.c (.int .i64 1))), (3, 7, (.t 1))]), none⟩,⟨some 3, .t (.build [(.int .i64 0), (.int .i64 0), (.int .i64 0), (.int .i64 0), .nils, .nils, .nils] [(0, 1, (.c (.int .i64 4))), (2, 1, (.c (.int .i64 9)))]), none⟩,⟨some 4, .t (.build [(.int .i64 0), (.str []), (.int .i64 0), (.int .i64 0), (.int .i64 0), (.int .i64 0), (.int .i64 0), .nils, .nils, .nils, .nils] [(0, 1, (.c (.int .i64 2))), (1, 1, (.c (.str [110, 97, 109, 101]))), (2, 1, (.c (.int .i64 2))), (3, 7, (.t 3))]), none⟩,⟨some 5, .t (.build [(.int .i64 0), (.int .i64 0), (.int .i64 0), (.int .i64 0), .nils, .nils, .nils] [(0, 1, (.c (.int .i64 6))), (1, 1, (.c (.int .i64 0))), (2, 1, (.c (.int .i64 40000)))]), none⟩,⟨some 6, .t (.build [(.int .i64 0), (.str []), (.int .i64 0), (.int .i64 0), (.int .i64 0), (.int .i64 0), (.int .i64 0), .nils, .nils, .nils, .nils] [(0, 1, (.c (.int .i64 3))), (1, 1, (.c (.str [100, 117, 101]))), (2, 1, (.c (.int .i64 1))), (3, 7, (.t 5))]), none⟩,⟨some 7, .m (.bslice false 47 11 3 [(.t 2), (.t 4), (.t 6)]), none⟩,⟨some 8, .t (.build [(.int .i64 0), (.int .i64 0), (.int .i64 0), (.int .i64 0), .nils, .nils, .nils] [(0, 1, (.c (.int .i64 9))), (6, 1, (.t 7))]), none⟩,⟨none, .m (.store 7 (.t 0) (.t 8)), none⟩]
def F8c : ACode :=
(.seq (.ops F8o0 [0])
((.seq (.ops F8o1 [0])
(.ret))))
def F8 : AFn := ⟨9, [.cell 0 true 7], F8c⟩
theorem F8_ok : cFn Tryz.prog [] 8 = some F8 := by kernel_rfl
def F9o0 : List AOper := [⟨some 3, .m (.box 37 (.t 0)), none⟩,⟨some 6, .m (.alloc 27 [(.int .i64 0), (.int .i64 0), (.int .i64 0), (.str []), .nils, .nils]), none⟩,⟨some 7, .t (.mv (.c (.int .i64 0))), none⟩,⟨some 8, .t (.mv (.c (.int .i64 0))), none⟩]
def F9o1 : List AOper := [⟨some 17, .m (.load true 7 (.t 3)), none⟩,⟨some 18, .t (.mv (.t 1)), none⟩,⟨some 19, .call (.c (.clo 12 [] [])) [(.t 17), (.t 18)], none⟩,⟨some 9, .t (.mv (.t 19)), none⟩]
def F9o2 : List AOper := [⟨some 20, .t (.mv (.t 9)), none⟩,⟨some 21, .t (.bin .neq (.t 20) (.c (.int .i64 0))), none⟩]
def F9o3 : List AOper := [⟨some 22, .t (.build [(.int .i64 0), (.int .i64 0), (.int .i64 0), (.str []), .nils, .nils] []), none⟩,⟨some 23, .t (.mv (.t 9)), none⟩,⟨none, .m (.store 6 (.t 6) (.t 22)), none⟩,⟨some 7, .t (.mv (.c (.int .i64 0))), none⟩,⟨some 8, .t (.mv (.t 23)), none⟩]
def F9o4 : List AOper := [⟨some 25, .t (.mv (.t 2)), none⟩,⟨some 26, .t (.mv (.t 1)), none⟩,⟨some 27, .call (.c (.clo 18 [] [])) [(.t 25), (.t 26)], none⟩,⟨some 24, .t (.mv (.t 27)), none⟩,⟨some 28, .t (.ext (.t 24) 0), none⟩,⟨some 29, .t (.ext (.t 24) 1), none⟩,⟨some 30, .t (.ext (.t 24) 2), none⟩,⟨some 31, .t (.ext (.t 24) 3), none⟩,⟨some 10, .t (.mv (.t 28)), none⟩,⟨some 11, .t (.mv (.t 29)), none⟩,⟨some 7, .t (.mv (.t 30)), none⟩,⟨some 8, .t (.mv (.t 31)), none⟩]
def F9o5 : List AOper := [⟨some 33, .t (.mv (.t 8)), none⟩,⟨some 34, .t (.bin .neq (.t 33) (.c (.int .i64 0))), none⟩,⟨some 32, .t (.mv (.t 34)), none⟩]
def F9o6 : List AOper := [⟨some 35, .t (.build [(.int .i64 0), (.int .i64 0), (.int .i64 0), (.str []), .nils, .nils] []), none⟩,⟨some 36, .t (.mv (.t 7)), none⟩,⟨some 37, .t (.mv (.t 8)), none⟩,⟨none, .m (.store 6 (.t 6) (.t 35)), none⟩,⟨some 7, .t (.mv (.t 36)), none⟩,⟨some 8, .t (.mv (.t 37)), none⟩]
def F9o7 : List AOper := [⟨some 39, .t (.mv (.t 10)), none⟩,⟨some 40, .t (.len false (.t 39)), none⟩,⟨some 41, .t (.faddr 6 (.t 3)), none⟩,⟨some 42, .m (.load false 1 (.t 41)), none⟩,⟨some 43, .t (.len false (.t 42)), none⟩,⟨some 44, .t (.bin .lss (.t 40) (.t 43)), none⟩,⟨some 38, .t (.mv (.t 44)), none⟩]
def F9o8 : List AOper := [⟨some 45, .t (.build [(.int .i64 0), (.int .i64 0), (.int .i64 0), (.str []), .nils, .nils] []), none⟩,⟨some 46, .t (.mv (.t 2)), none⟩,⟨some 47, .t (.len true (.t 46)), none⟩,⟨none, .m (.store 6 (.t 6) (.t 45)), none⟩,⟨some 7, .t (.mv (.t 47)), none⟩,⟨some 8, .t (.mv (.c (.int .i64 4))), none⟩]
def F9o9 : List AOper := [⟨some 49, .t (.mv (.t 10)), none⟩,⟨some 50, .t (.len false (.t 49)), none⟩,⟨some 51, .t (.faddr 6 (.t 3)), none⟩,⟨some 52, .m (.load false 1 (.t 51)), none⟩,⟨some 53, .t (.len false (.t 52)), none⟩,⟨some 54, .t (.bin .gtr (.t 50) (.t 53)), none⟩,⟨some 48, .t (.mv (.t 54)), none⟩]
def F9o10 : List AOper := [⟨some 55, .t (.build [(.int .i64 0), (.int .i64 0), (.int .i64 0), (.str []), .nils, .nils] []), none⟩,⟨some 56, .t (.mv (.t 11)), none⟩,⟨some 57, .t (.faddr 6 (.t 3)), none⟩,⟨some 58, .m (.load false 1 (.t 57)), none⟩,⟨some 59, .t (.len false (.t 58)), none⟩,⟨some 60, .t (.iaddr 1 (.t 56) (.t 59)), none⟩,⟨some 61, .m (.load false 1 (.t 60)), none⟩,⟨none, .m (.store 6 (.t 6) (.t 55)), none⟩]
def F9p10 : List AOper := [⟨some 7, .t (.mv (.t 61)), none⟩,⟨some 8, .t (.mv (.c (.int .i64 21))), none⟩]
def F9A10 : List (List Nat) := [[], [], [], [2], [3, 2], [1, 4, 3, 2], [5, 1, 4, 3, 2], [0], [6, 7, 5, 1, 4, 3, 2, 0], [8, 6, 7, 5, 1, 4, 3, 2, 0]]
def F9o11 : List AOper := [⟨some 12, .t (.mv (.c .nils)), none⟩]
def F9o12 : List AOper := [⟨some 62, .t (.faddr 6 (.t 3)), none⟩,⟨some 63, .m (.load false 1 (.t 62)), none⟩,⟨some 64, .t (.len false (.t 63)), none⟩,⟨some 65, .t (.mv (.c (.int .i64 0))), none⟩]
def F9o13 : List AOper := [⟨some 66, .t (.bin .lss (.t 65) (.t 64)), none⟩]
def F9o14 : List AOper := [⟨some 67, .t (.mv (.t 65)), none⟩,⟨some 68, .t (.iaddr 11 (.t 63) (.t 65)), none⟩,⟨some 69, .m (.load true 11 (.t 68)), none⟩,⟨some 14, .m (.alloc 47 [(.int .i64 0), (.str []), (.int .i64 0), (.int .i64 0), (.int .i64 0), (.int .i64 0), (.int .i64 0), .nils, .nils, .nils, .nils]), none⟩,⟨some 13, .t (.mv (.t 67)), none⟩,⟨none, .m (.store 11 (.t 14) (.t 69)), none⟩]
def F9o15 : List AOper := [⟨some 15, .m (.alloc 27 [(.int .i64 0), (.int .i64 0), (.int .i64 0), (.str []), .nils, .nils]), none⟩]
def F9o16 : List AOper := [⟨some 16, .t (.mv (.c (.int .i64 0))), none⟩]
def F9o17 : List AOper := [⟨some 71, .t (.mv (.t 10)), none⟩,⟨some 72, .t (.mv (.t 13)), none⟩,⟨some 73, .t (.iaddr 2 (.t 71) (.t 72)), none⟩,⟨some 74, .t (.faddr 1 (.t 73)), none⟩,⟨some 75, .m (.load false 1 (.t 74)), none⟩,⟨some 76, .t (.mv (.t 75)), none⟩,⟨some 77, .t (.mv (.t 10)), (some (76, false))⟩,
  ⟨some 78, .t (.mv (.t 13)), (some (76, false))⟩,
  ⟨some 79, .t (.iaddr 2 (.t 77) (.t 78)), (some (76, false))⟩,
  ⟨some 80, .t (.faddr 0 (.t 79)), (some (76, false))⟩,
  ⟨some 81, .m (.load false 1 (.t 80)), (some (76, false))⟩,
  ⟨some 82, .t (.bin .neq (.t 81) (.c (.str []))), (some (76, false))⟩,
  ⟨some 83, .t (.pick (.t 76) (.c (.bool true)) (.t 82)), none⟩,⟨some 70, .t (.mv (.t 83)), none⟩]
def F9o18 : List AOper := [⟨some 85, .t (.faddr 3 (.t 14)), none⟩,⟨some 86, .m (.load true 7 (.t 85)), none⟩,⟨some 87, .t (.mv (.t 10)), none⟩,⟨some 88, .t (.mv (.t 13)), none⟩,⟨some 89, .t (.iaddr 2 (.t 87) (.t 88)), none⟩,⟨some 90, .t (.faddr 0 (.t 89)), none⟩,⟨some 91, .m (.load false 1 (.t 90)), none⟩,⟨some 92, .call (.c (.clo 19 [] [])) [(.t 86), (.t 91)], none⟩,⟨some 84, .t (.mv (.t 92)), none⟩,⟨some 93, .t (.ext (.t 84) 0), none⟩,⟨some 94, .t (.ext (.t 84) 1), none⟩,⟨none, .m (.store 6 (.t 15) (.t 93)), none⟩]
def F9p18 : List AOper := [⟨some 16, .t (.mv (.t 94)), none⟩]
def F9A18 : List (List Nat) := [[], [0], [], [], [2, 3], [4, 2, 3], [5, 4, 2, 3], [1, 6, 0, 5, 4, 2, 3], [7, 1, 6, 0, 5, 4, 2, 3], [8, 7, 1, 6, 0, 5, 4, 2, 3], [8, 7, 1, 6, 0, 5, 4, 2, 3], [9, 8, 7, 1, 6, 0, 5, 4, 2, 3], [10, 11, 9, 8, 7, 1, 6, 0, 5, 4, 2, 3]]
def F9o19 : List AOper := [⟨some 96, .t (.faddr 2 (.t 14)), none⟩,⟨some 97, .m (.load false 1 (.t 96)), none⟩,⟨some 98, .t (.bin .eql (.t 97) (.c (.int .i64 3))), none⟩,⟨some 95, .t (.mv (.t 98)), none⟩]
def F9o20 : List AOper := [⟨some 99, .t (.faddr 10 (.t 14)), none⟩,⟨some 100, .m (.load false 1 (.t 99)), none⟩,⟨some 101, .t (.iaddr 6 (.t 100) (.c (.int .i64 0))), none⟩,⟨some 102, .m (.load true 6 (.t 101)), none⟩,⟨none, .m (.store 6 (.t 15) (.t 102)), none⟩]
def F9o21 : List AOper := [⟨some 104, .t (.faddr 2 (.t 14)), none⟩,⟨some 105, .m (.load false 1 (.t 104)), none⟩,⟨some 106, .t (.bin .eql (.t 105) (.c (.int .i64 1))), none⟩,⟨some 103, .t (.mv (.t 106)), none⟩]
def F9o22 : List AOper := [⟨some 16, .t (.mv (.c (.int .i64 19))), none⟩]
def F9o23 : List AOper := [⟨some 107, .t (.mv (.t 16)), none⟩,⟨some 108, .t (.bin .neq (.t 107) (.c (.int .i64 0))), none⟩]
def F9o24 : List AOper := [⟨some 109, .t (.build [(.int .i64 0), (.int .i64 0), (.int .i64 0), (.str []), .nils, .nils] []), none⟩,⟨some 110, .t (.mv (.t 11)), none⟩,⟨some 111, .t (.mv (.t 13)), none⟩,⟨some 112, .t (.iaddr 1 (.t 110) (.t 111)), none⟩,⟨some 113, .m (.load false 1 (.t 112)), none⟩,⟨some 114, .t (.mv (.t 16)), none⟩,⟨none, .m (.store 6 (.t 6) (.t 109)), none⟩,⟨some 7, .t (.mv (.t 113)), none⟩]
def F9p24 : List AOper := [⟨some 8, .t (.mv (.t 114)), none⟩]
def F9A24 : List (List Nat) := [[], [], [], [1, 2], [3, 1, 2], [], [0], [4, 6, 3, 1, 2, 0], [5, 7, 4, 6, 3, 1, 2, 0]]
def F9o25 : List AOper := [⟨some 115, .t (.mv (.t 12)), none⟩,⟨some 116, .t (.faddr 1 (.t 14)), none⟩,⟨some 117, .m (.load false 1 (.t 116)), none⟩,⟨some 118, .m (.load true 6 (.t 15)), none⟩,⟨some 119, .t (.build [(.str []), (.int .i64 0), (.int .i64 0), (.int .i64 0), (.str []), .nils, .nils] [(0, 1, (.t 117)), (1, 6, (.t 118))]), none⟩,⟨some 120, .m (.bslice false 29 7 1 [(.t 119)]), none⟩,⟨some 121, .m (.append false 29 7 104 (.t 115) (.t 120)), none⟩,⟨some 12, .t (.mv (.t 121)), none⟩]
def F9o26 : List AOper := [⟨some 122, .t (.bin .add (.t 65) (.c (.int .i64 1))), none⟩,⟨some 65, .t (.mv (.t 122)), none⟩]
def F9b27 : ACode :=
(.seq (.ops F9o13 [6, 10, 11, 12, 63, 64, 65, 66])
((.seq (.cond (.t 66)
(.skip)
(.exit 1))
((.seq (.block 2 ((.seq (.ops F9o14 [6, 10, 11, 12, 13, 14, 63, 64, 65])
((.seq (.ops F9o15 [6, 10, 11, 12, 13, 14, 15, 63, 64, 65])
((.seq (.ops F9o16 [6, 10, 11, 12, 13, 14, 15, 16, 63, 64, 65])
((.seq (.block 3 ((.seq (.ops F9o17 [6, 10, 11, 12, 13, 14, 15, 16, 63, 64, 65, 70])
(.cond (.t 70)
(.draw F9A18 F9o18 F9p18 [6, 10, 11, 12, 13, 14, 15, 16, 63, 64, 65])
((.seq (.ops F9o19 [6, 10, 11, 12, 13, 14, 15, 16, 63, 64, 65, 95])
(.cond (.t 95)
(.ops F9o20 [6, 10, 11, 12, 13, 14, 15, 16, 63, 64, 65])
((.seq (.ops F9o21 [6, 10, 11, 12, 13, 14, 15, 16, 63, 64, 65, 103])
(.cond (.t 103)
(.ops F9o22 [6, 10, 11, 12, 13, 14, 15, 16, 63, 64, 65])
(.skip)))))))))))
((.seq ((.seq (.ops F9o23 [6, 10, 11, 12, 13, 14, 15, 16, 63, 64, 65, 108])
(.cond (.t 108)
((.seq (.draw F9A24 F9o24 F9p24 [6, 7, 8])
(.ret)))
(.skip))))
(.ops F9o25 [6, 10, 11, 12, 63, 64, 65]))))))))))))
(.ops F9o26 [6, 10, 11, 12, 63, 64, 65]))))))
def F9o28 : List AOper := [⟨some 123, .t (.mv (.t 12)), none⟩,⟨some 124, .call (.c (.clo 21 [] [])) [(.t 123)], none⟩,⟨some 125, .call (.c (.clo 20 [] [])) [(.t 124)], none⟩,⟨none, .m (.store 6 (.t 6) (.t 125)), none⟩,⟨some 7, .t (.mv (.c (.int .i64 0))), none⟩,⟨some 8, .t (.mv (.c (.int .i64 0))), none⟩]
def F9c : ACode :=
(.seq (.ops F9o0 [1, 2, 3, 6])
((.seq ((.seq (.ops F9o1 [1, 2, 3, 6, 9])
((.seq (.ops F9o2 [1, 2, 3, 6, 9, 21])
(.cond (.t 21)
((.seq (.ops F9o3 [6, 7, 8])
(.ret)))
(.skip))))))
((.seq (.ops F9o4 [2, 3, 6, 7, 8, 10, 11])
((.seq (.block 0 ((.seq (.ops F9o5 [2, 3, 6, 7, 8, 10, 11, 32])
(.cond (.t 32)
((.seq (.ops F9o6 [6, 7, 8])
(.ret)))
((.seq (.ops F9o7 [2, 3, 6, 10, 11, 38])
(.cond (.t 38)
((.seq (.ops F9o8 [6, 7, 8])
(.ret)))
((.seq (.ops F9o9 [3, 6, 10, 11, 48])
(.cond (.t 48)
((.seq (.draw F9A10 F9o10 F9p10 [6, 7, 8])
(.ret)))
(.skip)))))))))))
((.seq (.ops F9o11 [3, 6, 10, 11, 12])
((.seq ((.seq (.ops F9o12 [6, 10, 11, 12, 63, 64, 65])
(.block 1 (.loop [6, 10, 11, 12, 63, 64, 65] F9b27))))
((.seq (.ops F9o28 [6, 7, 8])
(.ret))))))))))))))
def F9 : AFn := ⟨126, [.cell 6 true 6, .tmp 7, .tmp 8], F9c⟩
theorem F9_ok : cFn Tryz.prog [] 9 = some F9 := by kernel_rfl
def F10o0 : List AOper := [⟨some 2, .m (.box 27 (.t 0)), none⟩,⟨some 3, .m (.box 27 (.t 1)), none⟩,⟨some 4, .t (.mv (.c (.bool false))), none⟩]
def F10o1 : List AOper := [⟨some 7, .t (.faddr 0 (.t 2)), none⟩,⟨some 8, .m (.load false 1 (.t 7)), none⟩,⟨some 9, .t (.faddr 0 (.t 3)), none⟩,⟨some 10, .m (.load false 1 (.t 9)), none⟩,⟨some 11, .t (.bin .neq (.t 8) (.t 10)), none⟩,⟨some 12, .t (.mv (.t 11)), none⟩,⟨some 13, .t (.faddr 1 (.t 2)), (some (12, false))⟩,
  ⟨some 14, .m (.load false 1 (.t 13)), (some (12, false))⟩,
  ⟨some 15, .t (.faddr 1 (.t 3)), (some (12, false))⟩,
  ⟨some 16, .m (.load false 1 (.t 15)), (some (12, false))⟩,
  ⟨some 17, .t (.bin .neq (.t 14) (.t 16)), (some (12, false))⟩,
  ⟨some 18, .t (.pick (.t 12) (.c (.bool true)) (.t 17)), none⟩,⟨some 19, .t (.mv (.t 18)), none⟩,⟨some 20, .t (.faddr 2 (.t 2)), (some (19, false))⟩,
  ⟨some 21, .m (.load false 1 (.t 20)), (some (19, false))⟩,
  ⟨some 22, .t (.faddr 2 (.t 3)), (some (19, false))⟩,
  ⟨some 23, .m (.load false 1 (.t 22)), (some (19, false))⟩,
  ⟨some 24, .t (.bin .neq (.t 21) (.t 23)), (some (19, false))⟩,
  ⟨some 25, .t (.pick (.t 19) (.c (.bool true)) (.t 24)), none⟩,⟨some 26, .t (.mv (.t 25)), none⟩,⟨some 27, .t (.faddr 3 (.t 2)), (some (26, false))⟩,
  ⟨some 28, .m (.load false 1 (.t 27)), (some (26, false))⟩,
  ⟨some 29, .t (.faddr 3 (.t 3)), (some (26, false))⟩,
  ⟨some 30, .m (.load false 1 (.t 29)), (some (26, false))⟩,
  ⟨some 31, .t (.bin .neq (.t 28) (.t 30)), (some (26, false))⟩,
  ⟨some 32, .t (.pick (.t 26) (.c (.bool true)) (.t 31)), none⟩,⟨some 33, .t (.mv (.t 32)), none⟩,⟨some 34, .t (.faddr 4 (.t 2)), (some (33, false))⟩,
  ⟨some 35, .m (.load false 1 (.t 34)), (some (33, false))⟩,
  ⟨some 36, .t (.len false (.t 35)), (some (33, false))⟩,
  ⟨some 37, .t (.faddr 4 (.t 3)), (some (33, false))⟩,
  ⟨some 38, .m (.load false 1 (.t 37)), (some (33, false))⟩,
  ⟨some 39, .t (.len false (.t 38)), (some (33, false))⟩,
  ⟨some 40, .t (.bin .neq (.t 36) (.t 39)), (some (33, false))⟩,
  ⟨some 41, .t (.pick (.t 33) (.c (.bool true)) (.t 40)), none⟩,⟨some 42, .t (.mv (.t 41)), none⟩,⟨some 43, .t (.faddr 5 (.t 2)), (some (42, false))⟩,
  ⟨some 44, .m (.load false 1 (.t 43)), (some (42, false))⟩,
  ⟨some 45, .t (.len false (.t 44)), (some (42, false))⟩,
  ⟨some 46, .t (.faddr 5 (.t 3)), (some (42, false))⟩,
  ⟨some 47, .m (.load false 1 (.t 46)), (some (42, false))⟩,
  ⟨some 48, .t (.len false (.t 47)), (some (42, false))⟩,
  ⟨some 49, .t (.bin .neq (.t 45) (.t 48)), (some (42, false))⟩,
  ⟨some 50, .t (.pick (.t 42) (.c (.bool true)) (.t 49)), none⟩]
def F10o2 : List AOper := [⟨some 4, .t (.mv (.c (.bool false))), none⟩]
def F10o3 : List AOper := [⟨some 5, .t (.mv (.c (.int .i64 0))), none⟩]
def F10o4 : List AOper := [⟨some 51, .t (.mv (.t 5)), none⟩,⟨some 52, .t (.faddr 4 (.t 2)), none⟩,⟨some 53, .m (.load false 1 (.t 52)), none⟩,⟨some 54, .t (.len false (.t 53)), none⟩,⟨some 55, .t (.bin .lss (.t 51) (.t 54)), none⟩]
def F10o5 : List AOper := [⟨some 58, .t (.faddr 4 (.t 2)), none⟩,⟨some 59, .m (.load false 1 (.t 58)), none⟩,⟨some 60, .t (.mv (.t 5)), none⟩,⟨some 61, .t (.iaddr 6 (.t 59) (.t 60)), none⟩,⟨some 62, .m (.load true 6 (.t 61)), none⟩,⟨some 63, .t (.faddr 4 (.t 3)), none⟩,⟨some 64, .m (.load false 1 (.t 63)), none⟩,⟨some 65, .t (.mv (.t 5)), none⟩,⟨some 66, .t (.iaddr 6 (.t 64) (.t 65)), none⟩,⟨some 67, .m (.load true 6 (.t 66)), none⟩]
def F10p5 : List AOper := [⟨some 68, .call (.c (.clo 10 [] [])) [(.t 62), (.t 67)], none⟩,⟨some 69, .t (.not (.t 68)), none⟩]
def F10A5 : List (List Nat) := [[], [0], [], [1, 2, 0], [3, 1, 2, 0], [], [5], [], [6, 7, 5], [8, 6, 7, 5], [4, 9, 3, 1, 2, 0, 8, 6, 7, 5], [10, 4, 9, 3, 1, 2, 0, 8, 6, 7, 5]]
def F10o6 : List AOper := [⟨some 4, .t (.mv (.c (.bool false))), none⟩]
def F10o7 : List AOper := [⟨some 56, .t (.mv (.t 5)), none⟩,⟨some 57, .t (.bin .add (.t 56) (.c (.int .i64 1))), none⟩,⟨some 5, .t (.mv (.t 57)), none⟩]
def F10b8 : ACode :=
(.seq ((.seq (.ops F10o4 [2, 3, 5, 55])
(.cond (.t 55)
(.skip)
(.exit 0))))
((.seq (.block 1 ((.seq (.draw F10A5 F10o5 F10p5 [2, 3, 5, 69])
(.cond (.t 69)
((.seq (.ops F10o6 [4])
(.ret)))
(.skip)))))
(.ops F10o7 [2, 3, 5]))))
def F10o9 : List AOper := [⟨some 6, .t (.mv (.c (.int .i64 0))), none⟩]
def F10o10 : List AOper := [⟨some 70, .t (.mv (.t 6)), none⟩,⟨some 71, .t (.faddr 5 (.t 2)), none⟩,⟨some 72, .m (.load false 1 (.t 71)), none⟩,⟨some 73, .t (.len false (.t 72)), none⟩,⟨some 74, .t (.bin .lss (.t 70) (.t 73)), none⟩]
def F10o11 : List AOper := [⟨some 77, .t (.faddr 5 (.t 2)), none⟩,⟨some 78, .m (.load false 1 (.t 77)), none⟩,⟨some 79, .t (.mv (.t 6)), none⟩,⟨some 80, .t (.iaddr 7 (.t 78) (.t 79)), none⟩,⟨some 81, .t (.faddr 0 (.t 80)), none⟩,⟨some 82, .m (.load false 1 (.t 81)), none⟩,⟨some 83, .t (.faddr 5 (.t 3)), none⟩,⟨some 84, .m (.load false 1 (.t 83)), none⟩,⟨some 85, .t (.mv (.t 6)), none⟩,⟨some 86, .t (.iaddr 7 (.t 84) (.t 85)), none⟩,⟨some 87, .t (.faddr 0 (.t 86)), none⟩,⟨some 88, .m (.load false 1 (.t 87)), none⟩,⟨some 89, .t (.bin .neq (.t 82) (.t 88)), none⟩,⟨some 90, .t (.mv (.t 89)), none⟩,⟨some 91, .t (.faddr 5 (.t 2)), (some (90, false))⟩,
  ⟨some 92, .m (.load false 1 (.t 91)), (some (90, false))⟩,
  ⟨some 93, .t (.mv (.t 6)), (some (90, false))⟩,
  ⟨some 94, .t (.iaddr 7 (.t 92) (.t 93)), (some (90, false))⟩,
  ⟨some 95, .t (.faddr 1 (.t 94)), (some (90, false))⟩,
  ⟨some 96, .m (.load true 6 (.t 95)), (some (90, false))⟩,
  ⟨some 97, .t (.faddr 5 (.t 3)), (some (90, false))⟩,
  ⟨some 98, .m (.load false 1 (.t 97)), (some (90, false))⟩,
  ⟨some 99, .t (.mv (.t 6)), (some (90, false))⟩,
  ⟨some 100, .t (.iaddr 7 (.t 98) (.t 99)), (some (90, false))⟩,
  ⟨some 101, .t (.faddr 1 (.t 100)), (some (90, false))⟩,
  ⟨some 102, .m (.load true 6 (.t 101)), (some (90, false))⟩]
def F10p11 : List AOper := [⟨some 103, .call (.c (.clo 10 [] [])) [(.t 96), (.t 102)], (some (90, false))⟩,
  ⟨some 104, .t (.not (.t 103)), (some (90, false))⟩,
  ⟨some 105, .t (.pick (.t 90) (.c (.bool true)) (.t 104)), none⟩]
def F10A11 : List (List Nat) := [[], [0], [], [1, 2, 0], [3, 1, 2, 0], [4, 3, 1, 2, 0], [], [6], [], [7, 8, 6], [9, 7, 8, 6], [10, 9, 7, 8, 6], [5, 11, 4, 3, 1, 2, 0, 10, 9, 7, 8, 6], [12, 5, 11, 4, 3, 1, 2, 0, 10, 9, 7, 8, 6], [13, 12, 5, 11, 4, 3, 1, 2, 0, 10, 9, 7, 8, 6], [14, 13, 12, 5, 11, 4, 3, 1, 2, 0, 10, 9, 7, 8, 6], [13, 12, 5, 11, 4, 3, 1, 2, 0, 10, 9, 7, 8, 6], [15, 16, 14, 13, 12, 5, 11, 4, 3, 1, 2, 0, 10, 9, 7, 8, 6], [17, 15, 16, 14, 13, 12, 5, 11, 4, 3, 1, 2, 0, 10, 9, 7, 8, 6], [18, 17, 15, 16, 14, 13, 12, 5, 11, 4, 3, 1, 2, 0, 10, 9, 7, 8, 6], [13, 12, 5, 11, 4, 3, 1, 2, 0, 10, 9, 7, 8, 6], [20, 13, 12, 5, 11, 4, 3, 1, 2, 0, 10, 9, 7, 8, 6], [13, 12, 5, 11, 4, 3, 1, 2, 0, 10, 9, 7, 8, 6], [21, 22, 20, 13, 12, 5, 11, 4, 3, 1, 2, 0, 10, 9, 7, 8, 6], [23, 21, 22, 20, 13, 12, 5, 11, 4, 3, 1, 2, 0, 10, 9, 7, 8, 6], [24, 23, 21, 22, 20, 13, 12, 5, 11, 4, 3, 1, 2, 0, 10, 9, 7, 8, 6], [19, 25, 18, 17, 15, 16, 14, 24, 23, 21, 22, 20, 13, 12, 5, 11, 4, 3, 1, 2, 0, 10, 9, 7, 8, 6], [26, 19, 25, 18, 17, 15, 16, 14, 24, 23, 21, 22, 20, 13, 12, 5, 11, 4, 3, 1, 2, 0, 10, 9, 7, 8, 6], [27, 26, 19, 25, 18, 17, 15, 16, 14, 24, 23, 21, 22, 20, 13, 12, 5, 11, 4, 3, 1, 2, 0, 10, 9, 7, 8, 6]]
def F10o12 : List AOper := [⟨some 4, .t (.mv (.c (.bool false))), none⟩]
def F10o13 : List AOper := [⟨some 75, .t (.mv (.t 6)), none⟩,⟨some 76, .t (.bin .add (.t 75) (.c (.int .i64 1))), none⟩,⟨some 6, .t (.mv (.t 76)), none⟩]
def F10b14 : ACode :=
(.seq ((.seq (.ops F10o10 [2, 3, 6, 74])
(.cond (.t 74)
(.skip)
(.exit 2))))
((.seq (.block 3 ((.seq (.draw F10A11 F10o11 F10p11 [2, 3, 6, 105])
(.cond (.t 105)
((.seq (.ops F10o12 [4])
(.ret)))
(.skip)))))
(.ops F10o13 [2, 3, 6]))))
def F10o15 : List AOper := [⟨some 4, .t (.mv (.c (.bool true))), none⟩]
def F10c : ACode :=
(.seq (.ops F10o0 [2, 3])
((.seq ((.seq (.ops F10o1 [2, 3, 50])
(.cond (.t 50)
((.seq (.ops F10o2 [4])
(.ret)))
(.skip))))
((.seq ((.seq (.ops F10o3 [2, 3, 5])
(.block 0 (.loop [2, 3, 5] F10b8))))
((.seq ((.seq (.ops F10o9 [2, 3, 6])
(.block 2 (.loop [2, 3, 6] F10b14))))
((.seq (.ops F10o15 [4])
(.ret))))))))))
def F10 : AFn := ⟨106, [.tmp 4], F10c⟩
theorem F10_ok : cFn Tryz.prog [] 10 = some F10 := by kernel_rfl
def F11o0 : List AOper := [⟨some 4, .t (.mv (.c (.int .i64 0))), none⟩]
def F11o1 : List AOper := [⟨some 5, .t (.mv (.t 0)), none⟩,⟨some 6, .t (.mv (.t 1)), none⟩,⟨some 7, .call (.c (.clo 22 [] [])) [(.t 5), (.t 6)], none⟩,⟨some 4, .t (.mv (.t 7)), none⟩]
def F11c : ACode :=
(.seq (.ops F11o0 [0, 1])
((.seq (.ops F11o1 [4])
(.ret))))
def F11 : AFn := ⟨8, [.tmp 4], F11c⟩
theorem F11_ok : cFn Tryz.prog [] 11 = some F11 := by kernel_rfl
def F12o0 : List AOper := [⟨some 2, .m (.box 37 (.t 0)), none⟩,⟨some 4, .t (.mv (.c (.int .i64 0))), none⟩]
def F12o1 : List AOper := [⟨some 6, .t (.mv (.t 1)), none⟩,⟨some 7, .call (.c (.clo 5 [] [])) [(.t 6)], none⟩,⟨some 8, .t (.not (.t 7)), none⟩,⟨some 5, .t (.mv (.t 8)), none⟩]
def F12o2 : List AOper := [⟨some 4, .t (.mv (.c (.int .i64 2))), none⟩]
def F12o3 : List AOper := [⟨some 10, .m (.load true 7 (.t 2)), none⟩,⟨some 11, .call (.c (.clo 23 [] [])) [(.t 10)], none⟩,⟨some 12, .t (.bin .neq (.t 11) (.c (.int .i64 0))), none⟩,⟨some 13, .t (.mv (.t 12)), none⟩,⟨some 14, .m (.load true 7 (.t 2)), (some (13, false))⟩,
  ⟨some 15, .call (.c (.clo 24 [] [])) [(.t 14)], (some (13, false))⟩,
  ⟨some 16, .t (.not (.t 15)), (some (13, false))⟩,
  ⟨some 17, .t (.pick (.t 13) (.c (.bool true)) (.t 16)), none⟩,⟨some 9, .t (.mv (.t 17)), none⟩]
def F12o4 : List AOper := [⟨some 4, .t (.mv (.c (.int .i64 18))), none⟩]
def F12o5 : List AOper := [⟨some 4, .t (.mv (.c (.int .i64 0))), none⟩]
def F12c : ACode :=
(.seq (.ops F12o0 [1, 2])
((.seq (.block 0 ((.seq (.ops F12o1 [2, 5])
(.cond (.t 5)
((.seq (.ops F12o2 [4])
(.ret)))
((.seq (.ops F12o3 [9])
(.cond (.t 9)
((.seq (.ops F12o4 [4])
(.ret)))
(.skip))))))))
((.seq (.ops F12o5 [4])
(.ret))))))
def F12 : AFn := ⟨18, [.tmp 4], F12c⟩
theorem F12_ok : cFn Tryz.prog [] 12 = some F12 := by kernel_rfl
def F13o0 : List AOper := [⟨some 2, .m (.box 37 (.t 0)), none⟩,⟨some 3, .m (.box 27 (.t 1)), none⟩,⟨some 4, .t (.mv (.c (.bool false))), none⟩]
def F13o1 : List AOper := [⟨some 5, .m (.alloc 4 [(.bool false)]), none⟩,⟨none, .m (.store 1 (.t 5) (.c (.bool true))), none⟩]
def F13o2 : List AOper := [⟨some 7, .t (.clo 25 [] [(.t 5)]), none⟩,⟨some 8, .t (.build [.nilf, (.bool false)] [(0, 1, (.t 7))]), none⟩,⟨some 6, .m (.alloc 68 [.nilf, (.bool false)]), none⟩,⟨none, .m (.store 2 (.t 6) (.t 8)), none⟩]
def F13o3 : List AOper := [⟨some 9, .m (.load true 7 (.t 2)), none⟩,⟨some 10, .m (.load true 6 (.t 3)), none⟩,⟨some 11, .call (.c (.clo 26 [] [])) [(.t 6), (.t 9), (.t 10), (.c (.str []))], none⟩]
def F13o4 : List AOper := [⟨some 12, .m (.load false 1 (.t 5)), none⟩,⟨some 4, .t (.mv (.t 12)), none⟩]
def F13c : ACode :=
(.seq (.ops F13o0 [2, 3])
((.seq (.ops F13o1 [2, 3, 5])
((.seq (.ops F13o2 [2, 3, 5, 6])
((.seq (.ops F13o3 [5])
((.seq (.ops F13o4 [4])
(.ret))))))))))
def F13 : AFn := ⟨13, [.tmp 4], F13c⟩
theorem F13_ok : cFn Tryz.prog [] 13 = some F13 := by kernel_rfl
def F14o0 : List AOper := [⟨some 2, .m (.box 27 (.t 0)), none⟩,⟨some 4, .m (.alloc 27 [(.int .i64 0), (.int .i64 0), (.int .i64 0), (.str []), .nils, .nils]), none⟩,⟨some 5, .t (.mv (.c (.bool false))), none⟩]
def F14o1 : List AOper := [⟨some 7, .m (.load true 6 (.t 2)), none⟩,⟨some 8, .t (.mv (.t 1)), none⟩,⟨some 9, .call (.c (.clo 27 [] [])) [(.t 7), (.t 8)], none⟩,⟨some 6, .t (.mv (.t 9)), none⟩]
def F14o2 : List AOper := [⟨some 10, .t (.faddr 0 (.t 2)), none⟩,⟨some 11, .m (.load false 1 (.t 10)), none⟩,⟨some 12, .t (.bin .neq (.t 11) (.c (.int .i64 9))), none⟩,⟨some 13, .t (.mv (.t 12)), none⟩,⟨some 14, .t (.mv (.t 6)), (some (13, false))⟩,
  ⟨some 15, .t (.bin .lss (.t 14) (.c (.int .i64 0))), (some (13, false))⟩,
  ⟨some 16, .t (.pick (.t 13) (.c (.bool true)) (.t 15)), none⟩]
def F14o3 : List AOper := [⟨some 17, .t (.build [(.int .i64 0), (.int .i64 0), (.int .i64 0), (.str []), .nils, .nils] []), none⟩,⟨none, .m (.store 6 (.t 4) (.t 17)), none⟩,⟨some 5, .t (.mv (.c (.bool false))), none⟩]
def F14o4 : List AOper := [⟨some 18, .t (.faddr 5 (.t 2)), none⟩,⟨some 19, .m (.load false 1 (.t 18)), none⟩,⟨some 20, .t (.mv (.t 6)), none⟩,⟨some 21, .t (.iaddr 7 (.t 19) (.t 20)), none⟩,⟨some 22, .t (.faddr 1 (.t 21)), none⟩,⟨some 23, .m (.load true 6 (.t 22)), none⟩,⟨some 24, .call (.c (.clo 20 [] [])) [(.t 23)], none⟩,⟨none, .m (.store 6 (.t 4) (.t 24)), none⟩,⟨some 5, .t (.mv (.c (.bool true))), none⟩]
def F14c : ACode :=
(.seq (.ops F14o0 [1, 2, 4])
((.seq (.ops F14o1 [2, 4, 6])
((.seq ((.seq (.ops F14o2 [2, 4, 6, 16])
(.cond (.t 16)
((.seq (.ops F14o3 [4, 5])
(.ret)))
(.skip))))
((.seq (.ops F14o4 [4, 5])
(.ret))))))))
def F14 : AFn := ⟨25, [.cell 4 true 6, .tmp 5], F14c⟩
theorem F14_ok : cFn Tryz.prog [] 14 = some F14 := by kernel_rfl
def F15o0 : List AOper := [⟨some 2, .m (.box 37 (.t 0)), none⟩,⟨some 3, .m (.box 27 (.t 1)), none⟩,⟨some 4, .t (.mv (.c (.str []))), none⟩,⟨some 5, .t (.mv (.c (.int .i64 0))), none⟩]
def F15o1 : List AOper := [⟨some 11, .m (.load true 7 (.t 2)), none⟩,⟨some 12, .call (.c (.clo 28 [] [])) [(.t 11)], none⟩,⟨some 13, .t (.not (.t 12)), none⟩,⟨some 10, .t (.mv (.t 13)), none⟩]
def F15o2 : List AOper := [⟨some 4, .t (.mv (.c (.str []))), none⟩,⟨some 5, .t (.mv (.c (.int .i64 11))), none⟩]
def F15o3 : List AOper := [⟨some 15, .m (.load true 7 (.t 2)), none⟩,⟨some 16, .m (.load true 6 (.t 3)), none⟩,⟨some 17, .call (.c (.clo 13 [] [])) [(.t 15), (.t 16)], none⟩,⟨some 18, .t (.not (.t 17)), none⟩,⟨some 14, .t (.mv (.t 18)), none⟩]
def F15o4 : List AOper := [⟨some 4, .t (.mv (.c (.str []))), none⟩,⟨some 5, .t (.mv (.c (.int .i64 18))), none⟩]
def F15o5 : List AOper := [⟨some 19, .t (.faddr 3 (.t 3)), none⟩,⟨some 20, .m (.load false 1 (.t 19)), none⟩,⟨some 6, .t (.mv (.t 20)), none⟩,⟨some 7, .t (.mv (.c (.int .i64 0))), none⟩]
def F15o6 : List AOper := [⟨some 21, .t (.faddr 0 (.t 2)), none⟩,⟨some 22, .m (.load false 1 (.t 21)), none⟩]
def F15o7 : List AOper := [⟨some 24, .t (.bin .eql (.t 22) (.c (.int .i64 1))), none⟩,⟨some 23, .t (.mv (.t 24)), none⟩]
def F15o8 : List AOper := [⟨some 25, .t (.faddr 1 (.t 3)), none⟩,⟨some 26, .m (.load false 1 (.t 25)), none⟩,⟨some 27, .t (.bin .eql (.t 26) (.c (.int .i64 1))), none⟩,⟨some 28, .call (.c (.clo 29 [] [])) [(.t 27)], none⟩,⟨some 6, .t (.mv (.t 28)), none⟩]
def F15o9 : List AOper := [⟨some 30, .t (.bin .eql (.t 22) (.c (.int .i64 2))), none⟩,⟨some 29, .t (.mv (.t 30)), none⟩]
def F15o10 : List AOper := [⟨some 31, .t (.bin .eql (.t 22) (.c (.int .i64 3))), none⟩,⟨some 29, .t (.mv (.t 31)), none⟩]
def F15o11 : List AOper := [⟨some 33, .t (.faddr 1 (.t 3)), none⟩,⟨some 34, .m (.load false 1 (.t 33)), none⟩,⟨some 35, .t (.faddr 2 (.t 3)), none⟩,⟨some 36, .m (.load false 1 (.t 35)), none⟩,⟨some 37, .t (.build [(.int .i64 0), (.int .i64 0)] [(0, 1, (.t 34)), (1, 1, (.t 36))]), none⟩,⟨some 38, .call (.c (.clo 30 [] [])) [(.t 37)], none⟩,⟨some 32, .t (.mv (.t 38)), none⟩,⟨some 39, .t (.ext (.t 32) 0), none⟩,⟨some 40, .t (.ext (.t 32) 1), none⟩,⟨some 6, .t (.mv (.t 39)), none⟩,⟨some 7, .t (.mv (.t 40)), none⟩]
def F15o12 : List AOper := [⟨some 42, .t (.bin .eql (.t 22) (.c (.int .i64 5))), none⟩,⟨some 41, .t (.mv (.t 42)), none⟩]
def F15o13 : List AOper := [⟨some 8, .m (.alloc 78 [.nilp, .nils]), none⟩]
def F15o14 : List AOper := [⟨some 43, .t (.faddr 3 (.t 3)), none⟩,⟨some 44, .m (.load false 1 (.t 43)), none⟩,⟨some 45, .t (.len true (.t 44)), none⟩,⟨some 46, .t (.mv (.c (.int .i64 0))), none⟩]
def F15o15 : List AOper := [⟨some 47, .t (.bin .lss (.t 46) (.t 45)), none⟩]
def F15o16 : List AOper := [⟨some 48, .t (.mv (.t 46)), none⟩,⟨some 9, .t (.mv (.t 48)), none⟩]
def F15o17 : List AOper := [⟨some 49, .t (.faddr 3 (.t 3)), none⟩,⟨some 50, .m (.load false 1 (.t 49)), none⟩,⟨some 51, .t (.mv (.t 9)), none⟩,⟨some 52, .t (.index (.t 50) (.t 51)), none⟩,⟨some 53, .t (.bin .shr (.t 52) (.c (.int .u64 4))), none⟩,⟨some 54, .t (.index (.c (.str [48, 49, 50, 51, 52, 53, 54, 55, 56, 57, 97, 98, 99, 100, 101, 102])) (.t 53)), none⟩,⟨some 55, .call (.c (.clo 31 [] [])) [(.t 8), (.t 54)], none⟩]
def F15o18 : List AOper := [⟨some 56, .t (.faddr 3 (.t 3)), none⟩,⟨some 57, .m (.load false 1 (.t 56)), none⟩,⟨some 58, .t (.mv (.t 9)), none⟩,⟨some 59, .t (.index (.t 57) (.t 58)), none⟩,⟨some 60, .t (.bin .and (.t 59) (.c (.int .u8 15))), none⟩,⟨some 61, .t (.index (.c (.str [48, 49, 50, 51, 52, 53, 54, 55, 56, 57, 97, 98, 99, 100, 101, 102])) (.t 60)), none⟩,⟨some 62, .call (.c (.clo 31 [] [])) [(.t 8), (.t 61)], none⟩]
def F15o19 : List AOper := [⟨some 63, .t (.bin .add (.t 46) (.c (.int .i64 1))), none⟩,⟨some 46, .t (.mv (.t 63)), none⟩]
def F15b20 : ACode :=
(.seq (.ops F15o15 [3, 7, 8, 45, 46, 47])
((.seq (.cond (.t 47)
(.skip)
(.exit 2))
((.seq (.block 3 ((.seq (.ops F15o16 [3, 7, 8, 9, 45, 46])
((.seq (.ops F15o17 [3, 7, 8, 9, 45, 46])
(.ops F15o18 [3, 7, 8, 45, 46]))))))
(.ops F15o19 [3, 7, 8, 45, 46]))))))
def F15o21 : List AOper := [⟨some 64, .call (.c (.clo 32 [] [])) [(.t 8)], none⟩,⟨some 6, .t (.mv (.t 64)), none⟩]
def F15o22 : List AOper := [⟨some 66, .t (.bin .eql (.t 22) (.c (.int .i64 6))), none⟩,⟨some 65, .t (.mv (.t 66)), none⟩]
def F15o23 : List AOper := [⟨some 68, .t (.faddr 1 (.t 3)), none⟩,⟨some 69, .m (.load false 1 (.t 68)), none⟩,⟨some 70, .call (.c (.clo 33 [] [])) [(.t 69)], none⟩,⟨some 67, .t (.mv (.t 70)), none⟩,⟨some 71, .t (.ext (.t 67) 0), none⟩,⟨some 72, .t (.ext (.t 67) 1), none⟩,⟨some 6, .t (.mv (.t 71)), none⟩,⟨some 7, .t (.mv (.t 72)), none⟩]
def F15o24 : List AOper := [⟨some 74, .t (.bin .eql (.t 22) (.c (.int .i64 7))), none⟩,⟨some 73, .t (.mv (.t 74)), none⟩]
def F15o25 : List AOper := [⟨some 76, .t (.faddr 1 (.t 3)), none⟩,⟨some 77, .m (.load false 1 (.t 76)), none⟩,⟨some 78, .call (.c (.clo 34 [] [])) [(.t 77)], none⟩,⟨some 75, .t (.mv (.t 78)), none⟩,⟨some 79, .t (.ext (.t 75) 0), none⟩,⟨some 80, .t (.ext (.t 75) 1), none⟩,⟨some 6, .t (.mv (.t 79)), none⟩,⟨some 7, .t (.mv (.t 80)), none⟩]
def F15o26 : List AOper := [⟨some 81, .t (.mv (.t 7)), none⟩,⟨some 82, .t (.bin .neq (.t 81) (.c (.int .i64 0))), none⟩]
def F15o27 : List AOper := [⟨some 4, .t (.mv (.c (.str []))), none⟩,⟨some 5, .t (.mv (.c (.int .i64 18))), none⟩]
def F15o28 : List AOper := [⟨some 83, .t (.mv (.t 6)), none⟩,⟨some 4, .t (.mv (.t 83)), none⟩,⟨some 5, .t (.mv (.c (.int .i64 0))), none⟩]
def F15c : ACode :=
(.seq (.ops F15o0 [2, 3])
((.seq (.block 0 ((.seq (.ops F15o1 [2, 3, 10])
(.cond (.t 10)
((.seq (.ops F15o2 [4, 5])
(.ret)))
((.seq (.ops F15o3 [2, 3, 14])
(.cond (.t 14)
((.seq (.ops F15o4 [4, 5])
(.ret)))
(.skip))))))))
((.seq (.ops F15o5 [2, 3, 6, 7])
((.seq ((.seq (.ops F15o6 [3, 6, 7, 22])
(.block 1 ((.seq (.ops F15o7 [3, 6, 7, 22, 23])
(.cond (.t 23)
(.ops F15o8 [6, 7])
((.seq ((.seq (.ops F15o9 [3, 6, 7, 22, 29])
(.cond (.t 29)
(.skip)
(.ops F15o10 [3, 6, 7, 22, 29]))))
(.cond (.t 29)
(.ops F15o11 [6, 7])
((.seq (.ops F15o12 [3, 6, 7, 22, 41])
(.cond (.t 41)
((.seq (.ops F15o13 [3, 7, 8])
((.seq ((.seq (.ops F15o14 [3, 7, 8, 45, 46])
(.block 2 (.loop [3, 7, 8, 45, 46] F15b20))))
(.ops F15o21 [6, 7])))))
((.seq (.ops F15o22 [3, 6, 7, 22, 65])
(.cond (.t 65)
(.ops F15o23 [6, 7])
((.seq (.ops F15o24 [3, 6, 7, 73])
(.cond (.t 73)
(.ops F15o25 [6, 7])
(.skip)))))))))))))))))))
((.seq ((.seq (.ops F15o26 [6, 82])
(.cond (.t 82)
((.seq (.ops F15o27 [4, 5])
(.ret)))
(.skip))))
((.seq (.ops F15o28 [4, 5])
(.ret))))))))))))
def F15 : AFn := ⟨84, [.tmp 4, .tmp 5], F15c⟩
theorem F15_ok : cFn Tryz.prog [] 15 = some F15 := by kernel_rfl
def F16o0 : List AOper := [⟨some 4, .t (.mv (.c (.bool false))), none⟩]
def F16o1 : List AOper := [⟨some 5, .t (.mv (.t 0)), none⟩,⟨some 6, .t (.mv (.t 1)), none⟩,⟨some 7, .t (.conv .i32 (.t 6)), none⟩,⟨some 8, .t (.convIS (.t 7)), none⟩,⟨some 9, .t (.bin .add (.c (.str [34, 13, 10])) (.t 8)), none⟩,⟨some 10, .call (.c (.clo 35 [] [])) [(.t 5), (.t 9)], none⟩,⟨some 4, .t (.mv (.t 10)), none⟩]
def F16c : ACode :=
(.seq (.ops F16o0 [0, 1])
((.seq (.ops F16o1 [4])
(.ret))))
def F16 : AFn := ⟨11, [.tmp 4], F16c⟩
theorem F16_ok : cFn Tryz.prog [] 16 = some F16 := by kernel_rfl
def F17o0 : List AOper := [⟨some 4, .t (.mv (.c (.str []))), none⟩,⟨some 5, .t (.mv (.c (.int .i64 0))), none⟩]
def F17o1 : List AOper := [⟨some 10, .t (.mv (.t 1)), none⟩,⟨some 11, .call (.c (.clo 5 [] [])) [(.t 10)], none⟩,⟨some 12, .t (.not (.t 11)), none⟩,⟨some 9, .t (.mv (.t 12)), none⟩]
def F17o2 : List AOper := [⟨some 4, .t (.mv (.c (.str []))), none⟩,⟨some 5, .t (.mv (.c (.int .i64 2))), none⟩]
def F17o3 : List AOper := [⟨some 14, .t (.mv (.t 0)), none⟩,⟨some 15, .t (.len false (.t 14)), none⟩,⟨some 16, .t (.bin .eql (.t 15) (.c (.int .i64 0))), none⟩,⟨some 13, .t (.mv (.t 16)), none⟩]
def F17o4 : List AOper := [⟨some 4, .t (.mv (.c (.str []))), none⟩,⟨some 5, .t (.mv (.c (.int .i64 4))), none⟩]
def F17o5 : List AOper := [⟨some 18, .t (.mv (.t 0)), none⟩,⟨some 19, .t (.len false (.t 18)), none⟩,⟨some 20, .t (.bin .gtr (.t 19) (.c (.int .i64 64))), none⟩,⟨some 17, .t (.mv (.t 20)), none⟩]
def F17o6 : List AOper := [⟨some 4, .t (.mv (.c (.str []))), none⟩,⟨some 5, .t (.mv (.c (.int .i64 9))), none⟩]
def F17o7 : List AOper := [⟨some 6, .m (.alloc 78 [.nilp, .nils]), none⟩]
def F17o8 : List AOper := [⟨some 21, .t (.mv (.t 0)), none⟩,⟨some 22, .t (.len false (.t 21)), none⟩,⟨some 23, .t (.mv (.c (.int .i64 0))), none⟩]
def F17o9 : List AOper := [⟨some 24, .t (.bin .lss (.t 23) (.t 22)), none⟩]
def F17o10 : List AOper := [⟨some 25, .t (.mv (.t 23)), none⟩,⟨some 26, .t (.iaddr 2 (.t 21) (.t 23)), none⟩,⟨some 27, .m (.load true 2 (.t 26)), none⟩,⟨some 8, .m (.alloc 49 [(.str []), (.bool false)]), none⟩,⟨some 7, .t (.mv (.t 25)), none⟩,⟨none, .m (.store 2 (.t 8) (.t 27)), none⟩]
def F17o11 : List AOper := [⟨some 28, .t (.mv (.t 7)), none⟩,⟨some 29, .t (.bin .gtr (.t 28) (.c (.int .i64 0))), none⟩]
def F17o12 : List AOper := [⟨some 30, .t (.mv (.t 1)), none⟩,⟨some 31, .t (.conv .u8 (.t 30)), none⟩,⟨some 32, .call (.c (.clo 31 [] [])) [(.t 6), (.t 31)], none⟩]
def F17o13 : List AOper := [⟨some 37, .t (.faddr 1 (.t 8)), none⟩,⟨some 38, .m (.load false 1 (.t 37)), none⟩,⟨some 36, .t (.mv (.t 38)), none⟩]
def F17o14 : List AOper := [⟨some 39, .call (.c (.clo 31 [] [])) [(.t 6), (.c (.int .u8 34))], none⟩]
def F17o15 : List AOper := [⟨some 40, .t (.faddr 0 (.t 8)), none⟩,⟨some 41, .m (.load false 1 (.t 40)), none⟩,⟨some 42, .call (.c (.clo 37 [] [])) [(.t 41), (.c (.str [34])), (.c (.str [34, 34]))], none⟩,⟨some 43, .call (.c (.clo 36 [] [])) [(.t 6), (.t 42)], none⟩]
def F17o16 : List AOper := [⟨some 44, .call (.c (.clo 31 [] [])) [(.t 6), (.c (.int .u8 34))], none⟩]
def F17o17 : List AOper := [⟨some 46, .t (.faddr 0 (.t 8)), none⟩,⟨some 47, .m (.load false 1 (.t 46)), none⟩,⟨some 48, .t (.mv (.t 1)), none⟩,⟨some 49, .call (.c (.clo 16 [] [])) [(.t 47), (.t 48)], none⟩,⟨some 45, .t (.mv (.t 49)), none⟩]
def F17o18 : List AOper := [⟨some 4, .t (.mv (.c (.str []))), none⟩,⟨some 5, .t (.mv (.c (.int .i64 6))), none⟩]
def F17o19 : List AOper := [⟨some 33, .t (.faddr 0 (.t 8)), none⟩,⟨some 34, .m (.load false 1 (.t 33)), none⟩,⟨some 35, .call (.c (.clo 36 [] [])) [(.t 6), (.t 34)], none⟩]
def F17o20 : List AOper := [⟨some 50, .t (.bin .add (.t 23) (.c (.int .i64 1))), none⟩,⟨some 23, .t (.mv (.t 50)), none⟩]
def F17b21 : ACode :=
(.seq (.ops F17o9 [1, 6, 21, 22, 23, 24])
((.seq (.cond (.t 24)
(.skip)
(.exit 1))
((.seq (.block 2 ((.seq (.ops F17o10 [1, 6, 7, 8, 21, 22, 23])
((.seq ((.seq (.ops F17o11 [1, 6, 8, 21, 22, 23, 29])
(.cond (.t 29)
(.ops F17o12 [1, 6, 8, 21, 22, 23])
(.skip))))
(.block 3 ((.seq (.ops F17o13 [1, 6, 8, 21, 22, 23, 36])
(.cond (.t 36)
((.seq (.ops F17o14 [1, 6, 8, 21, 22, 23])
((.seq (.ops F17o15 [1, 6, 21, 22, 23])
(.ops F17o16 [1, 6, 21, 22, 23])))))
((.seq (.ops F17o17 [1, 6, 8, 21, 22, 23, 45])
(.cond (.t 45)
((.seq (.ops F17o18 [4, 5])
(.ret)))
(.ops F17o19 [1, 6, 21, 22, 23])))))))))))))
(.ops F17o20 [1, 6, 21, 22, 23]))))))
def F17o22 : List AOper := [⟨some 51, .call (.c (.clo 38 [] [])) [(.t 6)], none⟩,⟨some 52, .t (.bin .gtr (.t 51) (.c (.int .i64 65536))), none⟩]
def F17o23 : List AOper := [⟨some 4, .t (.mv (.c (.str []))), none⟩,⟨some 5, .t (.mv (.c (.int .i64 5))), none⟩]
def F17o24 : List AOper := [⟨some 53, .call (.c (.clo 32 [] [])) [(.t 6)], none⟩,⟨some 4, .t (.mv (.t 53)), none⟩,⟨some 5, .t (.mv (.c (.int .i64 0))), none⟩]
def F17c : ACode :=
(.seq (.ops F17o0 [0, 1])
((.seq (.block 0 ((.seq (.ops F17o1 [0, 1, 9])
(.cond (.t 9)
((.seq (.ops F17o2 [4, 5])
(.ret)))
((.seq (.ops F17o3 [0, 1, 13])
(.cond (.t 13)
((.seq (.ops F17o4 [4, 5])
(.ret)))
((.seq (.ops F17o5 [0, 1, 17])
(.cond (.t 17)
((.seq (.ops F17o6 [4, 5])
(.ret)))
(.skip)))))))))))
((.seq (.ops F17o7 [0, 1, 6])
((.seq ((.seq (.ops F17o8 [1, 6, 21, 22, 23])
(.block 1 (.loop [1, 6, 21, 22, 23] F17b21))))
((.seq ((.seq (.ops F17o22 [6, 52])
(.cond (.t 52)
((.seq (.ops F17o23 [4, 5])
(.ret)))
(.skip))))
((.seq (.ops F17o24 [4, 5])
(.ret))))))))))))
def F17 : AFn := ⟨54, [.tmp 4, .tmp 5], F17c⟩
theorem F17_ok : cFn Tryz.prog [] 17 = some F17 := by kernel_rfl
def F18o0 : List AOper := [⟨some 4, .t (.mv (.c .nils)), none⟩,⟨some 5, .t (.mv (.c .nils)), none⟩,⟨some 6, .t (.mv (.c (.int .i64 0))), none⟩,⟨some 7, .t (.mv (.c (.int .i64 0))), none⟩]
def F18o1 : List AOper := [⟨some 11, .t (.mv (.t 1)), none⟩,⟨some 12, .call (.c (.clo 5 [] [])) [(.t 11)], none⟩,⟨some 13, .t (.not (.t 12)), none⟩,⟨some 10, .t (.mv (.t 13)), none⟩]
def F18o2 : List AOper := [⟨some 4, .t (.mv (.c .nils)), none⟩,⟨some 5, .t (.mv (.c .nils)), none⟩,⟨some 6, .t (.mv (.c (.int .i64 0))), none⟩,⟨some 7, .t (.mv (.c (.int .i64 2))), none⟩]
def F18o3 : List AOper := [⟨some 15, .t (.mv (.t 0)), none⟩,⟨some 16, .t (.len true (.t 15)), none⟩,⟨some 17, .t (.bin .gtr (.t 16) (.c (.int .i64 65536))), none⟩,⟨some 14, .t (.mv (.t 17)), none⟩]
def F18o4 : List AOper := [⟨some 4, .t (.mv (.c .nils)), none⟩,⟨some 5, .t (.mv (.c .nils)), none⟩,⟨some 6, .t (.mv (.c (.int .i64 0))), none⟩,⟨some 7, .t (.mv (.c (.int .i64 5))), none⟩]
def F18o5 : List AOper := [⟨some 18, .t (.mv (.t 0)), none⟩,⟨some 19, .t (.mv (.t 1)), none⟩,⟨some 20, .t (.conv .u8 (.t 19)), none⟩,⟨some 21, .t (.build [(.str []), (.int .u8 0), (.int .i64 0), .nils, .nils, (.int .i64 0), (.int .i64 0)] [(0, 1, (.t 18)), (1, 1, (.t 20))]), none⟩,⟨some 22, .m (.box 92 (.t 21)), none⟩,⟨some 8, .t (.mv (.t 22)), none⟩]
def F18o6 : List AOper := [⟨some 9, .t (.mv (.c (.clo 39 [] []))), none⟩]
def F18o7 : List AOper := [⟨some 23, .t (.mv (.t 9)), none⟩,⟨some 24, .m (.xop (.fnil true (.t 23) (.c .nilf))), none⟩]
def F18o8 : List AOper := [⟨some 25, .t (.mv (.t 9)), none⟩,⟨some 26, .t (.mv (.t 8)), none⟩,⟨some 27, .call (.t 25) [(.t 26)], none⟩,⟨some 9, .t (.mv (.t 27)), none⟩]
def F18b9 : ACode :=
(.seq ((.seq (.ops F18o7 [8, 9, 24])
(.cond (.t 24)
(.skip)
(.exit 1))))
(.block 2 (.ops F18o8 [8, 9])))
def F18o10 : List AOper := [⟨some 28, .t (.mv (.t 8)), none⟩,⟨some 29, .t (.nilck (.t 28)), none⟩,⟨some 30, .t (.faddr 6 (.t 29)), none⟩,⟨some 31, .m (.load false 1 (.t 30)), none⟩,⟨some 32, .t (.bin .neq (.t 31) (.c (.int .i64 0))), none⟩]
def F18o11 : List AOper := [⟨some 33, .t (.mv (.t 8)), none⟩,⟨some 34, .t (.nilck (.t 33)), none⟩,⟨some 35, .t (.faddr 5 (.t 34)), none⟩,⟨some 36, .m (.load false 1 (.t 35)), none⟩,⟨some 37, .t (.mv (.t 8)), none⟩,⟨some 38, .t (.nilck (.t 37)), none⟩,⟨some 39, .t (.faddr 6 (.t 38)), none⟩,⟨some 40, .m (.load false 1 (.t 39)), none⟩,⟨some 4, .t (.mv (.c .nils)), none⟩,⟨some 5, .t (.mv (.c .nils)), none⟩,⟨some 6, .t (.mv (.t 36)), none⟩]
def F18p11 : List AOper := [⟨some 7, .t (.mv (.t 40)), none⟩]
def F18A11 : List (List Nat) := [[], [0], [1, 0], [2, 1, 0], [], [4], [5, 4], [6, 5, 4], [], [8], [3, 9, 2, 1, 0, 8], [7, 10, 6, 5, 4, 3, 9, 2, 1, 0, 8]]
def F18o12 : List AOper := [⟨some 41, .t (.mv (.t 8)), none⟩,⟨some 42, .t (.nilck (.t 41)), none⟩,⟨some 43, .t (.faddr 3 (.t 42)), none⟩,⟨some 44, .m (.load false 1 (.t 43)), none⟩,⟨some 45, .t (.mv (.t 8)), none⟩,⟨some 46, .t (.nilck (.t 45)), none⟩,⟨some 47, .t (.faddr 4 (.t 46)), none⟩,⟨some 48, .m (.load false 1 (.t 47)), none⟩,⟨some 4, .t (.mv (.t 44)), none⟩]
def F18p12 : List AOper := [⟨some 5, .t (.mv (.t 48)), none⟩,⟨some 6, .t (.mv (.c (.int .i64 0))), none⟩,⟨some 7, .t (.mv (.c (.int .i64 0))), none⟩]
def F18A12 : List (List Nat) := [[], [0], [1, 0], [2, 1, 0], [], [4], [5, 4], [6, 5, 4], [3, 2, 1, 0], [7, 8, 6, 5, 4, 3, 2, 1, 0], [9, 7, 8, 6, 5, 4, 3, 2, 1, 0], [10, 9, 7, 8, 6, 5, 4, 3, 2, 1, 0]]
def F18c : ACode :=
(.seq (.ops F18o0 [0, 1])
((.seq (.block 0 ((.seq (.ops F18o1 [0, 1, 10])
(.cond (.t 10)
((.seq (.ops F18o2 [4, 5, 6, 7])
(.ret)))
((.seq (.ops F18o3 [0, 1, 14])
(.cond (.t 14)
((.seq (.ops F18o4 [4, 5, 6, 7])
(.ret)))
(.skip))))))))
((.seq (.ops F18o5 [8])
((.seq ((.seq (.ops F18o6 [8, 9])
(.block 1 (.loop [8, 9] F18b9))))
((.seq ((.seq (.ops F18o10 [8, 32])
(.cond (.t 32)
((.seq (.draw F18A11 F18o11 F18p11 [4, 5, 6, 7])
(.ret)))
(.skip))))
((.seq (.draw F18A12 F18o12 F18p12 [4, 5, 6, 7])
(.ret))))))))))))
def F18 : AFn := ⟨49, [.tmp 4, .tmp 5, .tmp 6, .tmp 7], F18c⟩
theorem F18_ok : cFn Tryz.prog [24] 18 = some F18 := by kernel_rfl
def F19o0 : List AOper := [⟨some 2, .m (.box 37 (.t 0)), none⟩,⟨some 4, .m (.alloc 27 [(.int .i64 0), (.int .i64 0), (.int .i64 0), (.str []), .nils, .nils]), none⟩,⟨some 5, .t (.mv (.c (.int .i64 0))), none⟩]
def F19o1 : List AOper := [⟨some 10, .m (.load true 7 (.t 2)), none⟩,⟨some 11, .call (.c (.clo 28 [] [])) [(.t 10)], none⟩,⟨some 12, .t (.not (.t 11)), none⟩]
def F19o2 : List AOper := [⟨some 13, .t (.build [(.int .i64 0), (.int .i64 0), (.int .i64 0), (.str []), .nils, .nils] []), none⟩,⟨none, .m (.store 6 (.t 4) (.t 13)), none⟩,⟨some 5, .t (.mv (.c (.int .i64 11))), none⟩]
def F19o3 : List AOper := [⟨some 14, .t (.faddr 0 (.t 2)), none⟩,⟨some 15, .m (.load false 1 (.t 14)), none⟩,⟨some 16, .t (.build [(.int .i64 0), (.int .i64 0), (.int .i64 0), (.str []), .nils, .nils] [(0, 1, (.t 15))]), none⟩,⟨some 6, .m (.alloc 27 [(.int .i64 0), (.int .i64 0), (.int .i64 0), (.str []), .nils, .nils]), none⟩,⟨none, .m (.store 6 (.t 6) (.t 16)), none⟩,⟨some 7, .t (.mv (.c (.bool true))), none⟩]
def F19o4 : List AOper := [⟨some 8, .t (.mv (.c (.int .i64 0))), none⟩]
def F19o5 : List AOper := [⟨some 17, .t (.faddr 0 (.t 2)), none⟩,⟨some 18, .m (.load false 1 (.t 17)), none⟩]
def F19o6 : List AOper := [⟨some 20, .t (.bin .eql (.t 18) (.c (.int .i64 1))), none⟩,⟨some 19, .t (.mv (.t 20)), none⟩]
def F19o7 : List AOper := [⟨some 21, .t (.mv (.t 1)), none⟩,⟨some 22, .t (.bin .eql (.t 21) (.c (.str [116, 114, 117, 101]))), none⟩]
def F19o8 : List AOper := [⟨some 23, .t (.faddr 1 (.t 6)), none⟩,⟨none, .m (.store 1 (.t 23) (.c (.int .i64 1))), none⟩]
def F19o9 : List AOper := [⟨some 24, .t (.mv (.t 1)), none⟩,⟨some 25, .t (.bin .eql (.t 24) (.c (.str [116, 114, 117, 101]))), none⟩,⟨some 26, .t (.mv (.t 25)), none⟩,⟨some 27, .t (.mv (.t 1)), (some (26, false))⟩,
  ⟨some 28, .t (.bin .eql (.t 27) (.c (.str [102, 97, 108, 115, 101]))), (some (26, false))⟩,
  ⟨some 29, .t (.pick (.t 26) (.c (.bool true)) (.t 28)), none⟩,⟨some 7, .t (.mv (.t 29)), none⟩]
def F19o10 : List AOper := [⟨some 31, .t (.bin .eql (.t 18) (.c (.int .i64 2))), none⟩,⟨some 30, .t (.mv (.t 31)), none⟩]
def F19o11 : List AOper := [⟨some 32, .t (.bin .eql (.t 18) (.c (.int .i64 3))), none⟩,⟨some 30, .t (.mv (.t 32)), none⟩]
def F19o12 : List AOper := [⟨some 9, .m (.alloc 74 [(.int .i64 0), (.int .i64 0)]), none⟩]
def F19o13 : List AOper := [⟨some 34, .t (.mv (.t 1)), none⟩,⟨some 35, .call (.c (.clo 40 [] [])) [(.t 34)], none⟩,⟨some 33, .t (.mv (.t 35)), none⟩,⟨some 36, .t (.ext (.t 33) 0), none⟩,⟨some 37, .t (.ext (.t 33) 1), none⟩,⟨none, .m (.store 2 (.t 9) (.t 36)), none⟩,⟨some 8, .t (.mv (.t 37)), none⟩]
def F19o14 : List AOper := [⟨some 38, .t (.faddr 0 (.t 9)), none⟩,⟨some 39, .m (.load false 1 (.t 38)), none⟩,⟨some 40, .t (.faddr 1 (.t 9)), none⟩,⟨some 41, .m (.load false 1 (.t 40)), none⟩,⟨some 42, .t (.faddr 1 (.t 6)), none⟩,⟨none, .m (.store 1 (.t 42) (.t 39)), none⟩]
def F19p14 : List AOper := [⟨some 43, .t (.faddr 2 (.t 6)), none⟩,⟨none, .m (.store 1 (.t 43) (.t 41)), none⟩]
def F19A14 : List (List Nat) := [[], [0], [], [2], [1, 0], [4, 1, 0], [3, 5, 2, 4, 1, 0], [6, 3, 5, 2, 4, 1, 0]]
def F19o15 : List AOper := [⟨some 44, .t (.faddr 0 (.t 2)), none⟩,⟨some 45, .m (.load false 1 (.t 44)), none⟩,⟨some 46, .t (.bin .eql (.t 45) (.c (.int .i64 3))), none⟩,⟨some 47, .t (.mv (.t 46)), none⟩,⟨some 48, .t (.faddr 1 (.t 9)), (some (47, false))⟩,
  ⟨some 49, .m (.load false 1 (.t 48)), (some (47, false))⟩,
  ⟨some 50, .t (.bin .eql (.t 49) (.c (.int .i64 0))), (some (47, false))⟩,
  ⟨some 51, .t (.pick (.t 47) (.c (.bool true)) (.t 50)), none⟩,⟨some 7, .t (.mv (.t 51)), none⟩]
def F19o16 : List AOper := [⟨some 53, .t (.bin .eql (.t 18) (.c (.int .i64 4))), none⟩,⟨some 52, .t (.mv (.t 53)), none⟩]
def F19o17 : List AOper := [⟨some 54, .t (.mv (.t 1)), none⟩,⟨some 55, .t (.faddr 3 (.t 6)), none⟩,⟨none, .m (.store 1 (.t 55) (.t 54)), none⟩]
def F19o18 : List AOper := [⟨some 57, .t (.bin .eql (.t 18) (.c (.int .i64 5))), none⟩,⟨some 56, .t (.mv (.t 57)), none⟩]
def F19o19 : List AOper := [⟨some 59, .t (.mv (.t 1)), none⟩,⟨some 60, .call (.c (.clo 41 [] [])) [(.t 59)], none⟩,⟨some 58, .t (.mv (.t 60)), none⟩,⟨some 61, .t (.ext (.t 58) 0), none⟩,⟨some 62, .t (.ext (.t 58) 1), none⟩,⟨some 63, .t (.faddr 3 (.t 6)), none⟩,⟨none, .m (.store 1 (.t 63) (.t 61)), none⟩,⟨some 7, .t (.mv (.t 62)), none⟩]
def F19o20 : List AOper := [⟨some 65, .t (.bin .eql (.t 18) (.c (.int .i64 6))), none⟩,⟨some 64, .t (.mv (.t 65)), none⟩]
def F19o21 : List AOper := [⟨some 67, .t (.mv (.t 1)), none⟩,⟨some 68, .call (.c (.clo 42 [] [])) [(.t 67)], none⟩,⟨some 66, .t (.mv (.t 68)), none⟩,⟨some 69, .t (.ext (.t 66) 0), none⟩,⟨some 70, .t (.ext (.t 66) 1), none⟩,⟨some 71, .t (.faddr 1 (.t 6)), none⟩,⟨none, .m (.store 1 (.t 71) (.t 69)), none⟩,⟨some 8, .t (.mv (.t 70)), none⟩]
def F19o22 : List AOper := [⟨some 73, .t (.bin .eql (.t 18) (.c (.int .i64 7))), none⟩,⟨some 72, .t (.mv (.t 73)), none⟩]
def F19o23 : List AOper := [⟨some 75, .t (.mv (.t 1)), none⟩,⟨some 76, .call (.c (.clo 43 [] [])) [(.t 75)], none⟩,⟨some 74, .t (.mv (.t 76)), none⟩,⟨some 77, .t (.ext (.t 74) 0), none⟩,⟨some 78, .t (.ext (.t 74) 1), none⟩,⟨some 79, .t (.faddr 1 (.t 6)), none⟩,⟨none, .m (.store 1 (.t 79) (.t 77)), none⟩,⟨some 8, .t (.mv (.t 78)), none⟩]
def F19o24 : List AOper := [⟨some 80, .t (.mv (.t 7)), none⟩,⟨some 81, .t (.not (.t 80)), none⟩,⟨some 82, .t (.mv (.t 81)), none⟩,⟨some 83, .t (.mv (.t 8)), (some (82, false))⟩,
  ⟨some 84, .t (.bin .neq (.t 83) (.c (.int .i64 0))), (some (82, false))⟩,
  ⟨some 85, .t (.pick (.t 82) (.c (.bool true)) (.t 84)), none⟩]
def F19o25 : List AOper := [⟨some 86, .t (.build [(.int .i64 0), (.int .i64 0), (.int .i64 0), (.str []), .nils, .nils] []), none⟩,⟨none, .m (.store 6 (.t 4) (.t 86)), none⟩,⟨some 5, .t (.mv (.c (.int .i64 13))), none⟩]
def F19o26 : List AOper := [⟨some 87, .m (.load true 7 (.t 2)), none⟩,⟨some 88, .m (.load true 6 (.t 6)), none⟩,⟨some 89, .call (.c (.clo 13 [] [])) [(.t 87), (.t 88)], none⟩,⟨some 90, .t (.not (.t 89)), none⟩]
def F19o27 : List AOper := [⟨some 91, .t (.build [(.int .i64 0), (.int .i64 0), (.int .i64 0), (.str []), .nils, .nils] []), none⟩,⟨none, .m (.store 6 (.t 4) (.t 91)), none⟩,⟨some 5, .t (.mv (.c (.int .i64 18))), none⟩]
def F19o28 : List AOper := [⟨some 92, .m (.load true 6 (.t 6)), none⟩,⟨none, .m (.store 6 (.t 4) (.t 92)), none⟩,⟨some 5, .t (.mv (.c (.int .i64 0))), none⟩]
def F19c : ACode :=
(.seq (.ops F19o0 [1, 2, 4])
((.seq ((.seq (.ops F19o1 [1, 2, 4, 12])
(.cond (.t 12)
((.seq (.ops F19o2 [4, 5])
(.ret)))
(.skip))))
((.seq (.ops F19o3 [1, 2, 4, 6, 7])
((.seq (.ops F19o4 [1, 2, 4, 6, 7, 8])
((.seq ((.seq (.ops F19o5 [1, 2, 4, 6, 7, 8, 18])
(.block 0 ((.seq (.ops F19o6 [1, 2, 4, 6, 7, 8, 18, 19])
(.cond (.t 19)
((.seq ((.seq (.ops F19o7 [1, 2, 4, 6, 8, 22])
(.cond (.t 22)
(.ops F19o8 [1, 2, 4, 6, 8])
(.skip))))
(.ops F19o9 [2, 4, 6, 7, 8])))
((.seq ((.seq (.ops F19o10 [1, 2, 4, 6, 7, 8, 18, 30])
(.cond (.t 30)
(.skip)
(.ops F19o11 [1, 2, 4, 6, 7, 8, 18, 30]))))
(.cond (.t 30)
((.seq (.ops F19o12 [1, 2, 4, 6, 9])
((.seq (.ops F19o13 [2, 4, 6, 8, 9])
((.seq (.draw F19A14 F19o14 F19p14 [2, 4, 6, 8, 9])
(.ops F19o15 [2, 4, 6, 7, 8])))))))
((.seq (.ops F19o16 [1, 2, 4, 6, 7, 8, 18, 52])
(.cond (.t 52)
(.ops F19o17 [2, 4, 6, 7, 8])
((.seq (.ops F19o18 [1, 2, 4, 6, 7, 8, 18, 56])
(.cond (.t 56)
(.ops F19o19 [2, 4, 6, 7, 8])
((.seq (.ops F19o20 [1, 2, 4, 6, 7, 8, 18, 64])
(.cond (.t 64)
(.ops F19o21 [2, 4, 6, 7, 8])
((.seq (.ops F19o22 [1, 2, 4, 6, 7, 8, 72])
(.cond (.t 72)
(.ops F19o23 [2, 4, 6, 7, 8])
(.skip))))))))))))))))))))))
((.seq ((.seq (.ops F19o24 [2, 4, 6, 85])
(.cond (.t 85)
((.seq (.ops F19o25 [4, 5])
(.ret)))
(.skip))))
((.seq ((.seq (.ops F19o26 [4, 6, 90])
(.cond (.t 90)
((.seq (.ops F19o27 [4, 5])
(.ret)))
(.skip))))
((.seq (.ops F19o28 [4, 5])
(.ret))))))))))))))))
def F19 : AFn := ⟨93, [.cell 4 true 6, .tmp 5], F19c⟩
theorem F19_ok : cFn Tryz.prog [] 19 = some F19 := by kernel_rfl
def F20o0 : List AOper := [⟨some 1, .m (.box 27 (.t 0)), none⟩,⟨some 2, .m (.alloc 27 [(.int .i64 0), (.int .i64 0), (.int .i64 0), (.str []), .nils, .nils]), none⟩]
def F20o1 : List AOper := [⟨some 8, .m (.load true 6 (.t 1)), none⟩,⟨some 3, .m (.alloc 27 [(.int .i64 0), (.int .i64 0), (.int .i64 0), (.str []), .nils, .nils]), none⟩,⟨none, .m (.store 6 (.t 3) (.t 8)), none⟩]
def F20o2 : List AOper := [⟨some 9, .t (.faddr 4 (.t 3)), none⟩,⟨none, .m (.store 1 (.t 9) (.c .nils)), none⟩,⟨some 10, .t (.faddr 5 (.t 3)), none⟩,⟨none, .m (.store 1 (.t 10) (.c .nils)), none⟩]
def F20o3 : List AOper := [⟨some 11, .t (.faddr 4 (.t 1)), none⟩,⟨some 12, .m (.load false 1 (.t 11)), none⟩,⟨some 13, .t (.len false (.t 12)), none⟩,⟨some 14, .t (.mv (.c (.int .i64 0))), none⟩]
def F20o4 : List AOper := [⟨some 15, .t (.bin .lss (.t 14) (.t 13)), none⟩]
def F20o5 : List AOper := [⟨some 16, .t (.iaddr 6 (.t 12) (.t 14)), none⟩,⟨some 17, .m (.load true 6 (.t 16)), none⟩,⟨some 5, .m (.alloc 27 [(.int .i64 0), (.int .i64 0), (.int .i64 0), (.str []), .nils, .nils]), none⟩,⟨none, .m (.store 6 (.t 5) (.t 17)), none⟩]
def F20o6 : List AOper := [⟨some 18, .t (.faddr 4 (.t 3)), none⟩,⟨some 19, .m (.load false 1 (.t 18)), none⟩,⟨some 20, .m (.load true 6 (.t 5)), none⟩,⟨some 21, .call (.c (.clo 20 [] [])) [(.t 20)], none⟩,⟨some 22, .m (.bslice false 27 6 1 [(.t 21)]), none⟩]
def F20p6 : List AOper := [⟨some 23, .m (.append false 27 6 88 (.t 19) (.t 22)), none⟩,⟨some 24, .t (.faddr 4 (.t 3)), none⟩,⟨none, .m (.store 1 (.t 24) (.t 23)), none⟩]
def F20A6 : List (List Nat) := [[], [0], [], [2], [3, 2], [1, 4, 0, 3, 2], [5, 1, 4, 0, 3, 2], [6, 5, 1, 4, 0, 3, 2]]
def F20o7 : List AOper := [⟨some 25, .t (.bin .add (.t 14) (.c (.int .i64 1))), none⟩,⟨some 14, .t (.mv (.t 25)), none⟩]
def F20b8 : ACode :=
(.seq (.ops F20o4 [1, 2, 3, 12, 13, 14, 15])
((.seq (.cond (.t 15)
(.skip)
(.exit 0))
((.seq (.block 1 ((.seq (.ops F20o5 [1, 2, 3, 5, 12, 13, 14])
(.draw F20A6 F20o6 F20p6 [1, 2, 3, 12, 13, 14]))))
(.ops F20o7 [1, 2, 3, 12, 13, 14]))))))
def F20o9 : List AOper := [⟨some 26, .t (.faddr 5 (.t 1)), none⟩,⟨some 27, .m (.load false 1 (.t 26)), none⟩,⟨some 28, .t (.len false (.t 27)), none⟩,⟨some 29, .t (.mv (.c (.int .i64 0))), none⟩]
def F20o10 : List AOper := [⟨some 30, .t (.bin .lss (.t 29) (.t 28)), none⟩]
def F20o11 : List AOper := [⟨some 31, .t (.iaddr 7 (.t 27) (.t 29)), none⟩,⟨some 32, .m (.load true 7 (.t 31)), none⟩,⟨some 7, .m (.alloc 29 [(.str []), (.int .i64 0), (.int .i64 0), (.int .i64 0), (.str []), .nils, .nils]), none⟩,⟨none, .m (.store 7 (.t 7) (.t 32)), none⟩]
def F20o12 : List AOper := [⟨some 33, .t (.faddr 5 (.t 3)), none⟩,⟨some 34, .m (.load false 1 (.t 33)), none⟩,⟨some 35, .t (.faddr 0 (.t 7)), none⟩,⟨some 36, .m (.load false 1 (.t 35)), none⟩,⟨some 37, .t (.faddr 1 (.t 7)), none⟩,⟨some 38, .m (.load true 6 (.t 37)), none⟩,⟨some 39, .call (.c (.clo 20 [] [])) [(.t 38)], none⟩,⟨some 40, .t (.build [(.str []), (.int .i64 0), (.int .i64 0), (.int .i64 0), (.str []), .nils, .nils] [(0, 1, (.t 36)), (1, 6, (.t 39))]), none⟩,⟨some 41, .m (.bslice false 29 7 1 [(.t 40)]), none⟩]
def F20p12 : List AOper := [⟨some 42, .m (.append false 29 7 104 (.t 34) (.t 41)), none⟩,⟨some 43, .t (.faddr 5 (.t 3)), none⟩,⟨none, .m (.store 1 (.t 43) (.t 42)), none⟩]
def F20A12 : List (List Nat) := [[], [0], [], [2], [], [4], [5, 4], [3, 6, 2, 5, 4], [7, 3, 6, 2, 5, 4], [1, 8, 0, 7, 3, 6, 2, 5, 4], [9, 1, 8, 0, 7, 3, 6, 2, 5, 4], [10, 9, 1, 8, 0, 7, 3, 6, 2, 5, 4]]
def F20o13 : List AOper := [⟨some 44, .t (.bin .add (.t 29) (.c (.int .i64 1))), none⟩,⟨some 29, .t (.mv (.t 44)), none⟩]
def F20b14 : ACode :=
(.seq (.ops F20o10 [2, 3, 27, 28, 29, 30])
((.seq (.cond (.t 30)
(.skip)
(.exit 2))
((.seq (.block 3 ((.seq (.ops F20o11 [2, 3, 7, 27, 28, 29])
(.draw F20A12 F20o12 F20p12 [2, 3, 27, 28, 29]))))
(.ops F20o13 [2, 3, 27, 28, 29]))))))
def F20o15 : List AOper := [⟨some 45, .m (.load true 6 (.t 3)), none⟩,⟨none, .m (.store 6 (.t 2) (.t 45)), none⟩]
def F20c : ACode :=
(.seq (.ops F20o0 [1, 2])
((.seq (.ops F20o1 [1, 2, 3])
((.seq (.ops F20o2 [1, 2, 3])
((.seq ((.seq (.ops F20o3 [1, 2, 3, 12, 13, 14])
(.block 0 (.loop [1, 2, 3, 12, 13, 14] F20b8))))
((.seq ((.seq (.ops F20o9 [2, 3, 27, 28, 29])
(.block 2 (.loop [2, 3, 27, 28, 29] F20b14))))
((.seq (.ops F20o15 [2])
(.ret))))))))))))
def F20 : AFn := ⟨46, [.cell 2 true 6], F20c⟩
theorem F20_ok : cFn Tryz.prog [] 20 = some F20 := by kernel_rfl
def F21o0 : List AOper := [⟨some 2, .m (.alloc 27 [(.int .i64 0), (.int .i64 0), (.int .i64 0), (.str []), .nils, .nils]), none⟩]
def F21o1 : List AOper := [⟨some 7, .t (.build [(.int .i64 0), (.int .i64 0), (.int .i64 0), (.str []), .nils, .nils] [(0, 1, (.c (.int .i64 9)))]), none⟩,⟨some 3, .m (.alloc 27 [(.int .i64 0), (.int .i64 0), (.int .i64 0), (.str []), .nils, .nils]), none⟩,⟨none, .m (.store 6 (.t 3) (.t 7)), none⟩]
def F21o2 : List AOper := [⟨some 8, .t (.mv (.t 0)), none⟩,⟨some 9, .t (.len false (.t 8)), none⟩,⟨some 10, .t (.mv (.c (.int .i64 0))), none⟩]
def F21o3 : List AOper := [⟨some 11, .t (.bin .lss (.t 10) (.t 9)), none⟩]
def F21o4 : List AOper := [⟨some 12, .t (.mv (.t 10)), none⟩,⟨some 13, .t (.iaddr 7 (.t 8) (.t 10)), none⟩,⟨some 14, .m (.load true 7 (.t 13)), none⟩,⟨some 5, .m (.alloc 29 [(.str []), (.int .i64 0), (.int .i64 0), (.int .i64 0), (.str []), .nils, .nils]), none⟩,⟨some 4, .t (.mv (.t 12)), none⟩,⟨none, .m (.store 7 (.t 5) (.t 14)), none⟩]
def F21o5 : List AOper := [⟨some 15, .t (.mv (.t 0)), none⟩,⟨some 16, .t (.mv (.t 4)), none⟩,⟨some 17, .t (.bin .add (.t 16) (.c (.int .i64 1))), none⟩,⟨some 18, .t (.sliceL 7 (.t 15) (some (.t 17)) none), none⟩,⟨some 19, .t (.clo 45 [] [(.t 5)]), none⟩,⟨some 20, .call (.c (.clo 44 [] [])) [(.t 18), (.t 19)], none⟩,⟨some 6, .t (.mv (.t 20)), none⟩]
def F21o6 : List AOper := [⟨some 21, .t (.faddr 1 (.t 5)), none⟩,⟨some 22, .m (.load true 6 (.t 21)), none⟩,⟨some 23, .call (.c (.clo 46 [] [])) [(.t 22)], none⟩,⟨some 24, .t (.not (.t 23)), none⟩,⟨some 25, .t (.mv (.t 24)), none⟩,⟨some 26, .t (.mv (.t 6)), (some (25, true))⟩,
  ⟨some 27, .t (.not (.t 26)), (some (25, true))⟩,
  ⟨some 28, .t (.pick (.t 25) (.t 27) (.c (.bool false))), none⟩]
def F21o7 : List AOper := [⟨some 29, .t (.faddr 5 (.t 3)), none⟩,⟨some 30, .m (.load false 1 (.t 29)), none⟩,⟨some 31, .m (.load true 7 (.t 5)), none⟩,⟨some 32, .m (.bslice false 29 7 1 [(.t 31)]), none⟩,⟨some 33, .m (.append true 29 7 104 (.t 30) (.t 32)), none⟩,⟨some 34, .t (.faddr 5 (.t 3)), none⟩,⟨none, .m (.store 1 (.t 34) (.t 33)), none⟩]
def F21o8 : List AOper := [⟨some 35, .t (.bin .add (.t 10) (.c (.int .i64 1))), none⟩,⟨some 10, .t (.mv (.t 35)), none⟩]
def F21b9 : ACode :=
(.seq (.ops F21o3 [0, 2, 3, 8, 9, 10, 11])
((.seq (.cond (.t 11)
(.skip)
(.exit 0))
((.seq (.block 1 ((.seq (.ops F21o4 [0, 2, 3, 4, 5, 8, 9, 10])
((.seq (.ops F21o5 [0, 2, 3, 5, 6, 8, 9, 10])
((.seq (.ops F21o6 [0, 2, 3, 5, 8, 9, 10, 28])
(.cond (.t 28)
(.ops F21o7 [0, 2, 3, 8, 9, 10])
(.skip)))))))))
(.ops F21o8 [0, 2, 3, 8, 9, 10]))))))
def F21o10 : List AOper := [⟨some 36, .t (.faddr 5 (.t 3)), none⟩,⟨some 37, .m (.load false 1 (.t 36)), none⟩,⟨some 38, .call (.c (.clo 47 [] [])) [(.t 37), (.c (.clo 48 [] []))], none⟩]
def F21o11 : List AOper := [⟨some 39, .m (.load true 6 (.t 3)), none⟩,⟨some 40, .call (.c (.clo 20 [] [])) [(.t 39)], none⟩,⟨none, .m (.store 6 (.t 2) (.t 40)), none⟩]
def F21c : ACode :=
(.seq (.ops F21o0 [0, 2])
((.seq (.ops F21o1 [0, 2, 3])
((.seq ((.seq (.ops F21o2 [0, 2, 3, 8, 9, 10])
(.block 0 (.loop [0, 2, 3, 8, 9, 10] F21b9))))
((.seq (.ops F21o10 [2, 3])
((.seq (.ops F21o11 [2])
(.ret))))))))))
def F21 : AFn := ⟨41, [.cell 2 true 6], F21c⟩
theorem F21_ok : cFn Tryz.prog [33] 21 = some F21 := by kernel_rfl
def F22o0 : List AOper := [⟨some 4, .t (.mv (.c (.int .i64 0))), none⟩]
def F22o1 : List AOper := [⟨some 5, .t (.mv (.t 0)), none⟩,⟨some 6, .t (.mv (.t 1)), none⟩,⟨some 7, .m (.xop (.idxb (.t 5) (.t 6))), none⟩,⟨some 4, .t (.mv (.t 7)), none⟩]
def F22c : ACode :=
(.seq (.ops F22o0 [0, 1])
((.seq (.ops F22o1 [4])
(.ret))))
def F22 : AFn := ⟨8, [.tmp 4], F22c⟩
theorem F22_ok : cFn Tryz.prog [] 22 = some F22 := by kernel_rfl
def F23o0 : List AOper := [⟨some 1, .m (.box 37 (.t 0)), none⟩,⟨some 2, .t (.mv (.c (.int .i64 0))), none⟩]
def F23o1 : List AOper := [⟨some 3, .m (.alloc 3 [(.int .i64 0)]), none⟩,⟨none, .m (.store 1 (.t 3) (.c (.int .i64 4096))), none⟩]
def F23o2 : List AOper := [⟨some 5, .m (.load true 7 (.t 1)), none⟩,⟨some 6, .call (.c (.clo 51 [] [])) [(.t 5), (.c (.int .i64 1)), (.t 3)], none⟩,⟨some 4, .t (.mv (.t 6)), none⟩]
def F23o3 : List AOper := [⟨some 7, .t (.mv (.t 4)), none⟩,⟨some 8, .t (.bin .neq (.t 7) (.c (.int .i64 0))), none⟩]
def F23o4 : List AOper := [⟨some 9, .t (.mv (.t 4)), none⟩,⟨some 2, .t (.mv (.t 9)), none⟩]
def F23o5 : List AOper := [⟨some 10, .m (.load true 7 (.t 1)), none⟩,⟨some 11, .call (.c (.clo 52 [] [])) [(.t 10)], none⟩,⟨some 12, .t (.bin .gtr (.t 11) (.c (.int .i64 4096))), none⟩]
def F23o6 : List AOper := [⟨some 2, .t (.mv (.c (.int .i64 9))), none⟩]
def F23o7 : List AOper := [⟨some 2, .t (.mv (.c (.int .i64 0))), none⟩]
def F23c : ACode :=
(.seq (.ops F23o0 [1])
((.seq (.ops F23o1 [1, 3])
((.seq ((.seq (.ops F23o2 [1, 4])
((.seq (.ops F23o3 [1, 4, 8])
(.cond (.t 8)
((.seq (.ops F23o4 [2])
(.ret)))
(.skip))))))
((.seq ((.seq (.ops F23o5 [12])
(.cond (.t 12)
((.seq (.ops F23o6 [2])
(.ret)))
(.skip))))
((.seq (.ops F23o7 [2])
(.ret))))))))))
def F23 : AFn := ⟨13, [.tmp 2], F23c⟩
theorem F23_ok : cFn Tryz.prog [] 23 = some F23 := by kernel_rfl
def F24o0 : List AOper := [⟨some 1, .m (.box 37 (.t 0)), none⟩,⟨some 2, .t (.mv (.c (.bool false))), none⟩]
def F24o1 : List AOper := [⟨some 3, .t (.faddr 0 (.t 1)), none⟩,⟨some 4, .m (.load false 1 (.t 3)), none⟩,⟨some 5, .t (.bin .eql (.t 4) (.c (.int .i64 9))), none⟩,⟨some 6, .t (.mv (.t 5)), none⟩,⟨some 7, .t (.faddr 6 (.t 1)), (some (6, true))⟩,
  ⟨some 8, .m (.load false 1 (.t 7)), (some (6, true))⟩,
  ⟨some 9, .t (.len false (.t 8)), (some (6, true))⟩,
  ⟨some 10, .t (.bin .gtr (.t 9) (.c (.int .i64 0))), (some (6, true))⟩,
  ⟨some 11, .t (.pick (.t 6) (.t 10) (.c (.bool false))), none⟩,⟨some 12, .t (.mv (.t 11)), none⟩,⟨some 13, .t (.faddr 6 (.t 1)), (some (12, true))⟩,
  ⟨some 14, .m (.load false 1 (.t 13)), (some (12, true))⟩,
  ⟨some 15, .call (.c (.clo 53 [] [])) [(.t 14), (.c (.clo 54 [] []))], (some (12, true))⟩,
  ⟨some 16, .t (.not (.t 15)), (some (12, true))⟩,
  ⟨some 17, .t (.pick (.t 12) (.t 16) (.c (.bool false))), none⟩,⟨some 2, .t (.mv (.t 17)), none⟩]
def F24c : ACode :=
(.seq (.ops F24o0 [1])
((.seq (.ops F24o1 [2])
(.ret))))
def F24 : AFn := ⟨18, [.tmp 2], F24c⟩
theorem F24_ok : cFn Tryz.prog [] 24 = some F24 := by kernel_rfl
def F26o0 : List AOper := [⟨some 5, .m (.box 37 (.t 1)), none⟩,⟨some 6, .m (.box 27 (.t 2)), none⟩]
def F26o1 : List AOper := [⟨some 14, .t (.mv (.t 0)), none⟩,⟨some 15, .t (.nilck (.t 14)), none⟩,⟨some 16, .t (.faddr 1 (.t 15)), none⟩,⟨some 17, .m (.load false 1 (.t 16)), none⟩,⟨some 13, .t (.mv (.t 17)), none⟩]
def F26o2 : List AOper := [⟨some 19, .t (.faddr 0 (.t 5)), none⟩,⟨some 20, .m (.load false 1 (.t 19)), none⟩,⟨some 21, .t (.bin .lss (.t 20) (.c (.int .i64 1))), none⟩,⟨some 22, .t (.mv (.t 21)), none⟩,⟨some 23, .t (.faddr 0 (.t 5)), (some (22, false))⟩,
  ⟨some 24, .m (.load false 1 (.t 23)), (some (22, false))⟩,
  ⟨some 25, .t (.bin .gtr (.t 24) (.c (.int .i64 10))), (some (22, false))⟩,
  ⟨some 26, .t (.pick (.t 22) (.c (.bool true)) (.t 25)), none⟩,⟨some 27, .t (.mv (.t 26)), none⟩,⟨some 28, .t (.faddr 0 (.t 6)), (some (27, false))⟩,
  ⟨some 29, .m (.load false 1 (.t 28)), (some (27, false))⟩,
  ⟨some 30, .t (.faddr 0 (.t 5)), (some (27, false))⟩,
  ⟨some 31, .m (.load false 1 (.t 30)), (some (27, false))⟩,
  ⟨some 32, .t (.bin .neq (.t 29) (.t 31)), (some (27, false))⟩,
  ⟨some 33, .t (.pick (.t 27) (.c (.bool true)) (.t 32)), none⟩,⟨some 18, .t (.mv (.t 33)), none⟩]
def F26o3 : List AOper := [⟨some 34, .t (.mv (.t 0)), none⟩,⟨some 35, .t (.mv (.t 3)), none⟩,⟨some 36, .call (.c (.clo 55 [] [])) [(.t 34), (.t 35), (.c (.int .i64 1))], none⟩]
def F26o4 : List AOper := [⟨some 38, .m (.load true 6 (.t 6)), none⟩,⟨some 39, .call (.c (.clo 56 [] [])) [(.t 38)], none⟩,⟨some 40, .t (.not (.t 39)), none⟩,⟨some 37, .t (.mv (.t 40)), none⟩]
def F26o5 : List AOper := [⟨some 41, .t (.mv (.t 0)), none⟩,⟨some 42, .t (.mv (.t 3)), none⟩,⟨some 43, .call (.c (.clo 55 [] [])) [(.t 41), (.t 42), (.c (.int .i64 8))], none⟩]
def F26o6 : List AOper := [⟨some 44, .t (.faddr 0 (.t 5)), none⟩,⟨some 45, .m (.load false 1 (.t 44)), none⟩]
def F26o7 : List AOper := [⟨some 47, .t (.bin .eql (.t 45) (.c (.int .i64 2))), none⟩,⟨some 46, .t (.mv (.t 47)), none⟩]
def F26o8 : List AOper := [⟨some 48, .t (.bin .eql (.t 45) (.c (.int .i64 6))), none⟩,⟨some 46, .t (.mv (.t 48)), none⟩]
def F26o9 : List AOper := [⟨some 49, .t (.bin .eql (.t 45) (.c (.int .i64 7))), none⟩,⟨some 46, .t (.mv (.t 49)), none⟩]
def F26o10 : List AOper := [⟨some 50, .t (.mv (.t 0)), none⟩,⟨some 51, .m (.load true 7 (.t 5)), none⟩,⟨some 52, .t (.mv (.t 3)), none⟩,⟨some 53, .t (.faddr 1 (.t 6)), none⟩,⟨some 54, .m (.load false 1 (.t 53)), none⟩,⟨some 55, .call (.c (.clo 57 [] [])) [(.t 50), (.t 51), (.t 52), (.t 54)], none⟩]
def F26o11 : List AOper := [⟨some 57, .t (.bin .eql (.t 45) (.c (.int .i64 3))), none⟩,⟨some 56, .t (.mv (.t 57)), none⟩]
def F26o12 : List AOper := [⟨some 58, .t (.faddr 2 (.t 6)), none⟩,⟨some 59, .m (.load false 1 (.t 58)), none⟩,⟨some 60, .t (.faddr 3 (.t 5)), none⟩,⟨some 61, .m (.load false 1 (.t 60)), none⟩,⟨some 62, .t (.bin .neq (.t 59) (.t 61)), none⟩]
def F26o13 : List AOper := [⟨some 63, .t (.mv (.t 0)), none⟩,⟨some 64, .t (.mv (.t 3)), none⟩,⟨some 65, .call (.c (.clo 55 [] [])) [(.t 63), (.t 64), (.c (.int .i64 3))], none⟩]
def F26o14 : List AOper := [⟨some 66, .t (.mv (.t 0)), none⟩,⟨some 67, .m (.load true 7 (.t 5)), none⟩,⟨some 68, .t (.mv (.t 3)), none⟩,⟨some 69, .t (.faddr 1 (.t 6)), none⟩,⟨some 70, .m (.load false 1 (.t 69)), none⟩,⟨some 71, .call (.c (.clo 57 [] [])) [(.t 66), (.t 67), (.t 68), (.t 70)], none⟩]
def F26o15 : List AOper := [⟨some 73, .t (.bin .eql (.t 45) (.c (.int .i64 4))), none⟩,⟨some 72, .t (.mv (.t 73)), none⟩]
def F26o16 : List AOper := [⟨some 74, .t (.bin .eql (.t 45) (.c (.int .i64 5))), none⟩,⟨some 72, .t (.mv (.t 74)), none⟩]
def F26o17 : List AOper := [⟨some 75, .t (.faddr 0 (.t 5)), none⟩,⟨some 76, .m (.load false 1 (.t 75)), none⟩,⟨some 77, .t (.bin .eql (.t 76) (.c (.int .i64 4))), none⟩,⟨some 78, .t (.mv (.t 77)), none⟩,⟨some 79, .t (.faddr 4 (.t 5)), (some (78, true))⟩,
  ⟨some 80, .m (.load false 1 (.t 79)), (some (78, true))⟩,
  ⟨some 81, .t (.len false (.t 80)), (some (78, true))⟩,
  ⟨some 82, .t (.bin .gtr (.t 81) (.c (.int .i64 0))), (some (78, true))⟩,
  ⟨some 83, .t (.pick (.t 78) (.t 82) (.c (.bool false))), none⟩]
def F26o18 : List AOper := [⟨some 84, .t (.faddr 4 (.t 5)), none⟩,⟨some 85, .m (.load false 1 (.t 84)), none⟩,⟨some 86, .t (.faddr 3 (.t 6)), none⟩,⟨some 87, .m (.load false 1 (.t 86)), none⟩,⟨some 88, .call (.c (.clo 58 [] [])) [(.t 85), (.t 87)], none⟩,⟨some 89, .t (.not (.t 88)), none⟩]
def F26o19 : List AOper := [⟨some 90, .t (.mv (.t 0)), none⟩,⟨some 91, .t (.mv (.t 3)), none⟩,⟨some 92, .call (.c (.clo 55 [] [])) [(.t 90), (.t 91), (.c (.int .i64 4))], none⟩]
def F26o20 : List AOper := [⟨some 93, .t (.mv (.t 0)), none⟩,⟨some 94, .m (.load true 7 (.t 5)), none⟩,⟨some 95, .t (.mv (.t 3)), none⟩,⟨some 96, .t (.faddr 3 (.t 6)), none⟩,⟨some 97, .m (.load false 1 (.t 96)), none⟩,⟨some 98, .t (.len true (.t 97)), none⟩,⟨some 99, .call (.c (.clo 57 [] [])) [(.t 93), (.t 94), (.t 95), (.t 98)], none⟩]
def F26o21 : List AOper := [⟨some 101, .t (.bin .eql (.t 45) (.c (.int .i64 8))), none⟩,⟨some 100, .t (.mv (.t 101)), none⟩]
def F26o22 : List AOper := [⟨some 102, .t (.mv (.t 0)), none⟩,⟨some 103, .m (.load true 7 (.t 5)), none⟩,⟨some 104, .t (.mv (.t 3)), none⟩,⟨some 105, .t (.faddr 4 (.t 6)), none⟩,⟨some 106, .m (.load false 1 (.t 105)), none⟩,⟨some 107, .t (.len false (.t 106)), none⟩,⟨some 108, .call (.c (.clo 57 [] [])) [(.t 102), (.t 103), (.t 104), (.t 107)], none⟩]
def F26o23 : List AOper := [⟨some 109, .t (.faddr 4 (.t 6)), none⟩,⟨some 110, .m (.load false 1 (.t 109)), none⟩,⟨some 111, .t (.len false (.t 110)), none⟩,⟨some 112, .t (.mv (.c (.int .i64 0))), none⟩]
def F26o24 : List AOper := [⟨some 113, .t (.bin .lss (.t 112) (.t 111)), none⟩]
def F26o25 : List AOper := [⟨some 114, .t (.mv (.t 112)), none⟩,⟨some 115, .t (.iaddr 6 (.t 110) (.t 112)), none⟩,⟨some 116, .m (.load true 6 (.t 115)), none⟩,⟨some 9, .m (.alloc 27 [(.int .i64 0), (.int .i64 0), (.int .i64 0), (.str []), .nils, .nils]), none⟩,⟨some 8, .t (.mv (.t 114)), none⟩,⟨none, .m (.store 6 (.t 9) (.t 116)), none⟩]
def F26o26 : List AOper := [⟨some 117, .t (.mv (.t 3)), none⟩,⟨some 118, .t (.bin .add (.t 117) (.c (.str [91]))), none⟩,⟨some 119, .t (.mv (.t 8)), none⟩,⟨some 120, .call (.c (.clo 59 [] [])) [(.t 119)], none⟩,⟨some 121, .t (.bin .add (.t 118) (.t 120)), none⟩,⟨some 122, .t (.bin .add (.t 121) (.c (.str [93]))), none⟩,⟨some 10, .t (.mv (.t 122)), none⟩]
def F26o27 : List AOper := [⟨some 123, .t (.faddr 5 (.t 5)), none⟩,⟨some 124, .m (.load false 1 (.t 123)), none⟩,⟨some 125, .t (.len false (.t 124)), none⟩,⟨some 126, .t (.bin .eql (.t 125) (.c (.int .i64 1))), none⟩]
def F26o28 : List AOper := [⟨some 127, .t (.mv (.t 0)), none⟩,⟨some 128, .t (.faddr 5 (.t 5)), none⟩,⟨some 129, .m (.load false 1 (.t 128)), none⟩,⟨some 130, .t (.iaddr 7 (.t 129) (.c (.int .i64 0))), none⟩,⟨some 131, .m (.load true 7 (.t 130)), none⟩,⟨some 132, .m (.load true 6 (.t 9)), none⟩,⟨some 133, .t (.mv (.t 10)), none⟩]
def F26p28 : List AOper := [⟨some 134, .call (.c (.clo 26 [] [])) [(.t 127), (.t 131), (.t 132), (.t 133)], none⟩]
def F26A28 : List (List Nat) := [[], [], [1], [2, 1], [3, 2, 1], [], [], [0, 4, 5, 6, 3, 2, 1]]
def F26o29 : List AOper := [⟨some 135, .t (.mv (.t 0)), none⟩,⟨some 136, .t (.mv (.t 10)), none⟩,⟨some 137, .call (.c (.clo 55 [] [])) [(.t 135), (.t 136), (.c (.int .i64 1))], none⟩]
def F26o30 : List AOper := [⟨some 138, .t (.bin .add (.t 112) (.c (.int .i64 1))), none⟩,⟨some 112, .t (.mv (.t 138)), none⟩]
def F26b31 : ACode :=
(.seq (.ops F26o24 [0, 3, 5, 110, 111, 112, 113])
((.seq (.cond (.t 113)
(.skip)
(.exit 2))
((.seq (.block 3 ((.seq (.ops F26o25 [0, 3, 5, 8, 9, 110, 111, 112])
((.seq (.ops F26o26 [0, 3, 5, 9, 10, 110, 111, 112])
((.seq (.ops F26o27 [0, 3, 5, 9, 10, 110, 111, 112, 126])
(.cond (.t 126)
(.draw F26A28 F26o28 F26p28 [0, 3, 5, 110, 111, 112])
(.ops F26o29 [0, 3, 5, 110, 111, 112])))))))))
(.ops F26o30 [0, 3, 5, 110, 111, 112]))))))
def F26o32 : List AOper := [⟨some 140, .t (.bin .eql (.t 45) (.c (.int .i64 9))), none⟩,⟨some 139, .t (.mv (.t 140)), none⟩]
def F26o33 : List AOper := [⟨some 141, .t (.mv (.t 0)), none⟩,⟨some 142, .m (.load true 7 (.t 5)), none⟩,⟨some 143, .m (.load true 6 (.t 6)), none⟩,⟨some 144, .t (.mv (.t 3)), none⟩,⟨some 145, .call (.c (.clo 60 [] [])) [(.t 141), (.t 142), (.t 143), (.t 144)], none⟩]
def F26o34 : List AOper := [⟨some 147, .t (.bin .eql (.t 45) (.c (.int .i64 10))), none⟩,⟨some 146, .t (.mv (.t 147)), none⟩]
def F26o35 : List AOper := [⟨some 149, .m (.load true 7 (.t 5)), none⟩,⟨some 150, .t (.faddr 3 (.t 6)), none⟩,⟨some 151, .m (.load false 1 (.t 150)), none⟩,⟨some 152, .call (.c (.clo 61 [] [])) [(.t 149), (.t 151)], none⟩,⟨some 148, .t (.mv (.t 152)), none⟩,⟨some 153, .t (.ext (.t 148) 0), none⟩,⟨some 154, .t (.ext (.t 148) 1), none⟩,⟨some 11, .m (.alloc 47 [(.int .i64 0), (.str []), (.int .i64 0), (.int .i64 0), (.int .i64 0), (.int .i64 0), (.int .i64 0), .nils, .nils, .nils, .nils]), none⟩,⟨none, .m (.store 11 (.t 11) (.t 153)), none⟩,⟨some 12, .t (.mv (.t 154)), none⟩]
def F26o36 : List AOper := [⟨some 155, .t (.mv (.t 12)), none⟩]
def F26o37 : List AOper := [⟨some 156, .t (.mv (.t 0)), none⟩,⟨some 157, .t (.faddr 3 (.t 11)), none⟩,⟨some 158, .m (.load true 7 (.t 157)), none⟩,⟨some 159, .t (.faddr 4 (.t 6)), none⟩,⟨some 160, .m (.load false 1 (.t 159)), none⟩,⟨some 161, .t (.iaddr 6 (.t 160) (.c (.int .i64 0))), none⟩,⟨some 162, .m (.load true 6 (.t 161)), none⟩,⟨some 163, .t (.mv (.t 3)), none⟩,⟨some 164, .t (.bin .add (.t 163) (.c (.str [63]))), none⟩,⟨some 165, .t (.faddr 3 (.t 6)), none⟩,⟨some 166, .m (.load false 1 (.t 165)), none⟩,⟨some 167, .t (.bin .add (.t 164) (.t 166)), none⟩]
def F26p37 : List AOper := [⟨some 168, .call (.c (.clo 26 [] [])) [(.t 156), (.t 158), (.t 162), (.t 167)], none⟩]
def F26A37 : List (List Nat) := [[], [], [1], [], [3], [4, 3], [5, 4, 3], [], [7], [], [9], [8, 10, 7, 9], [0, 2, 6, 11, 1, 5, 4, 3, 8, 10, 7, 9]]
def F26o38 : List AOper := [⟨some 169, .t (.mv (.t 0)), none⟩,⟨some 170, .t (.mv (.t 3)), none⟩,⟨some 171, .call (.c (.clo 55 [] [])) [(.t 169), (.t 170), (.c (.int .i64 7))], none⟩]
def F26c : ACode :=
(.seq (.ops F26o0 [0, 3, 5, 6])
((.seq (.block 0 ((.seq (.ops F26o1 [0, 3, 5, 6, 13])
(.cond (.t 13)
(.ret)
((.seq (.ops F26o2 [0, 3, 5, 6, 18])
(.cond (.t 18)
((.seq (.ops F26o3 [])
(.ret)))
((.seq (.ops F26o4 [0, 3, 5, 6, 37])
(.cond (.t 37)
((.seq (.ops F26o5 [])
(.ret)))
(.skip)))))))))))
((.seq (.ops F26o6 [0, 3, 5, 6, 45])
(.block 1 ((.seq ((.seq (.ops F26o7 [0, 3, 5, 6, 45, 46])
(.cond (.t 46)
(.skip)
((.seq (.ops F26o8 [0, 3, 5, 6, 45, 46])
(.cond (.t 46)
(.skip)
(.ops F26o9 [0, 3, 5, 6, 45, 46])))))))
(.cond (.t 46)
(.ops F26o10 [])
((.seq (.ops F26o11 [0, 3, 5, 6, 45, 56])
(.cond (.t 56)
((.seq (.ops F26o12 [0, 3, 5, 6, 62])
(.cond (.t 62)
(.ops F26o13 [])
(.ops F26o14 []))))
((.seq ((.seq (.ops F26o15 [0, 3, 5, 6, 45, 72])
(.cond (.t 72)
(.skip)
(.ops F26o16 [0, 3, 5, 6, 45, 72]))))
(.cond (.t 72)
((.seq (.ops F26o17 [0, 3, 5, 6, 83])
(.cond (.t 83)
((.seq (.ops F26o18 [0, 3, 89])
(.cond (.t 89)
(.ops F26o19 [])
(.skip))))
(.ops F26o20 []))))
((.seq (.ops F26o21 [0, 3, 5, 6, 45, 100])
(.cond (.t 100)
((.seq (.ops F26o22 [0, 3, 5, 6])
((.seq (.ops F26o23 [0, 3, 5, 110, 111, 112])
(.block 2 (.loop [0, 3, 5, 110, 111, 112] F26b31))))))
((.seq (.ops F26o32 [0, 3, 5, 6, 45, 139])
(.cond (.t 139)
(.ops F26o33 [])
((.seq (.ops F26o34 [0, 3, 5, 6, 146])
(.cond (.t 146)
((.seq (.ops F26o35 [0, 3, 6, 11, 12])
((.seq (.ops F26o36 [0, 3, 6, 11, 155])
(.cond (.t 155)
(.draw F26A37 F26o37 F26p37 [])
(.ops F26o38 []))))))
(.skip)))))))))))))))))))))))))
def F26 : AFn := ⟨172, [], F26c⟩
theorem F26_ok : cFn Tryz.prog [] 26 = some F26 := by kernel_rfl
def F27o0 : List AOper := [⟨some 2, .m (.box 27 (.t 0)), none⟩,⟨some 3, .m (.box 9 (.t 1)), none⟩,⟨some 4, .t (.mv (.c (.int .i64 0))), none⟩]
def F27o1 : List AOper := [⟨some 5, .t (.faddr 5 (.t 2)), none⟩,⟨some 6, .m (.load false 1 (.t 5)), none⟩,⟨some 7, .t (.clo 63 [] [(.t 3)]), none⟩,⟨some 8, .call (.c (.clo 62 [] [])) [(.t 6), (.t 7)], none⟩,⟨some 4, .t (.mv (.t 8)), none⟩]
def F27c : ACode :=
(.seq (.ops F27o0 [2, 3])
((.seq (.ops F27o1 [4])
(.ret))))
def F27 : AFn := ⟨9, [.tmp 4], F27c⟩
theorem F27_ok : cFn Tryz.prog [] 27 = some F27 := by kernel_rfl
def F28o0 : List AOper := [⟨some 1, .m (.box 37 (.t 0)), none⟩,⟨some 2, .t (.mv (.c (.bool false))), none⟩]
def F28o1 : List AOper := [⟨some 3, .t (.faddr 0 (.t 1)), none⟩,⟨some 4, .m (.load false 1 (.t 3)), none⟩,⟨some 5, .t (.bin .geq (.t 4) (.c (.int .i64 1))), none⟩,⟨some 6, .t (.mv (.t 5)), none⟩,⟨some 7, .t (.faddr 0 (.t 1)), (some (6, true))⟩,
  ⟨some 8, .m (.load false 1 (.t 7)), (some (6, true))⟩,
  ⟨some 9, .t (.bin .leq (.t 8) (.c (.int .i64 7))), (some (6, true))⟩,
  ⟨some 10, .t (.pick (.t 6) (.t 9) (.c (.bool false))), none⟩,⟨some 2, .t (.mv (.t 10)), none⟩]
def F28c : ACode :=
(.seq (.ops F28o0 [1])
((.seq (.ops F28o1 [2])
(.ret))))
def F28 : AFn := ⟨11, [.tmp 2], F28c⟩
theorem F28_ok : cFn Tryz.prog [] 28 = some F28 := by kernel_rfl
def F30o0 : List AOper := [⟨some 1, .m (.box 74 (.t 0)), none⟩,⟨some 2, .t (.mv (.c (.str []))), none⟩,⟨some 3, .t (.mv (.c (.int .i64 0))), none⟩]
def F30o1 : List AOper := [⟨some 6, .m (.load true 2 (.t 1)), none⟩,⟨some 7, .call (.c (.clo 65 [] [])) [(.t 6)], none⟩,⟨some 4, .t (.mv (.t 7)), none⟩]
def F30o2 : List AOper := [⟨some 8, .t (.mv (.t 4)), none⟩,⟨some 9, .t (.bin .neq (.t 8) (.c (.int .i64 0))), none⟩]
def F30o3 : List AOper := [⟨some 10, .t (.mv (.t 4)), none⟩,⟨some 2, .t (.mv (.c (.str []))), none⟩,⟨some 3, .t (.mv (.t 10)), none⟩]
def F30o4 : List AOper := [⟨some 11, .t (.faddr 0 (.t 1)), none⟩,⟨some 12, .m (.load false 1 (.t 11)), none⟩,⟨some 13, .call (.c (.clo 66 [] [])) [(.t 12)], none⟩,⟨some 14, .call (.c (.clo 59 [] [])) [(.t 13)], none⟩,⟨some 5, .t (.mv (.t 14)), none⟩]
def F30o5 : List AOper := [⟨some 15, .t (.faddr 1 (.t 1)), none⟩,⟨some 16, .m (.load false 1 (.t 15)), none⟩,⟨some 17, .t (.bin .gtr (.t 16) (.c (.int .i64 0))), none⟩]
def F30o6 : List AOper := [⟨some 18, .t (.faddr 1 (.t 1)), none⟩,⟨some 19, .m (.load false 1 (.t 18)), none⟩,⟨some 20, .t (.bin .add (.t 19) (.c (.int .i64 1))), none⟩,⟨some 21, .t (.mv (.t 5)), none⟩,⟨some 22, .t (.len true (.t 21)), none⟩,⟨some 23, .t (.bin .sub (.t 20) (.t 22)), none⟩,⟨some 24, .t (.imax (.c (.int .i64 0)) (.t 23)), none⟩,⟨some 25, .call (.c (.clo 67 [] [])) [(.c (.str [48])), (.t 24)], none⟩,⟨some 26, .t (.mv (.t 5)), none⟩,⟨some 27, .t (.bin .add (.t 25) (.t 26)), none⟩,⟨some 5, .t (.mv (.t 27)), none⟩]
def F30o7 : List AOper := [⟨some 28, .t (.mv (.t 5)), none⟩,⟨some 29, .t (.mv (.t 5)), none⟩,⟨some 30, .t (.len true (.t 29)), none⟩,⟨some 31, .t (.faddr 1 (.t 1)), none⟩,⟨some 32, .m (.load false 1 (.t 31)), none⟩,⟨some 33, .t (.bin .sub (.t 30) (.t 32)), none⟩,⟨some 34, .t (.sliceS (.t 28) none (some (.t 33))), none⟩,⟨some 35, .t (.bin .add (.t 34) (.c (.str [46]))), none⟩,⟨some 36, .t (.mv (.t 5)), none⟩,⟨some 37, .t (.mv (.t 5)), none⟩,⟨some 38, .t (.len true (.t 37)), none⟩,⟨some 39, .t (.faddr 1 (.t 1)), none⟩,⟨some 40, .m (.load false 1 (.t 39)), none⟩,⟨some 41, .t (.bin .sub (.t 38) (.t 40)), none⟩,⟨some 42, .t (.sliceS (.t 36) (some (.t 41)) none), none⟩]
def F30p7 : List AOper := [⟨some 43, .t (.bin .add (.t 35) (.t 42)), none⟩,⟨some 5, .t (.mv (.t 43)), none⟩]
def F30A7 : List (List Nat) := [[], [], [1], [], [3], [2, 4, 1, 3], [0, 5, 2, 4, 1, 3], [6, 0, 5, 2, 4, 1, 3], [], [], [9], [], [11], [10, 12, 9, 11], [8, 13, 10, 12, 9, 11], [7, 14, 6, 0, 5, 2, 4, 1, 3, 8, 13, 10, 12, 9, 11], [15, 7, 14, 6, 0, 5, 2, 4, 1, 3, 8, 13, 10, 12, 9, 11]]
def F30o8 : List AOper := [⟨some 44, .t (.faddr 0 (.t 1)), none⟩,⟨some 45, .m (.load false 1 (.t 44)), none⟩,⟨some 46, .t (.bin .lss (.t 45) (.c (.int .i64 0))), none⟩]
def F30o9 : List AOper := [⟨some 47, .t (.mv (.t 5)), none⟩,⟨some 48, .t (.bin .add (.c (.str [45])) (.t 47)), none⟩,⟨some 5, .t (.mv (.t 48)), none⟩]
def F30o10 : List AOper := [⟨some 49, .t (.mv (.t 5)), none⟩,⟨some 2, .t (.mv (.t 49)), none⟩,⟨some 3, .t (.mv (.c (.int .i64 0))), none⟩]
def F30c : ACode :=
(.seq (.ops F30o0 [1])
((.seq ((.seq (.ops F30o1 [1, 4])
((.seq (.ops F30o2 [1, 4, 9])
(.cond (.t 9)
((.seq (.ops F30o3 [2, 3])
(.ret)))
(.skip))))))
((.seq (.ops F30o4 [1, 5])
((.seq ((.seq (.ops F30o5 [1, 5, 17])
(.cond (.t 17)
((.seq (.ops F30o6 [1, 5])
(.draw F30A7 F30o7 F30p7 [1, 5])))
(.skip))))
((.seq ((.seq (.ops F30o8 [5, 46])
(.cond (.t 46)
(.ops F30o9 [5])
(.skip))))
((.seq (.ops F30o10 [2, 3])
(.ret))))))))))))
def F30 : AFn := ⟨50, [.tmp 2, .tmp 3], F30c⟩
theorem F30_ok : cFn Tryz.prog [] 30 = some F30 := by kernel_rfl
def F31o0 : List AOper := [⟨some 4, .t (.mv (.c .nili)), none⟩]
def F31o1 : List AOper := [⟨some 5, .t (.mv (.t 0)), none⟩,⟨some 6, .call (.c (.clo 68 [] [])) [(.t 5)], none⟩]
def F31o2 : List AOper := [⟨some 7, .t (.mv (.t 0)), none⟩,⟨some 8, .t (.mv (.t 0)), none⟩,⟨some 9, .t (.nilck (.t 8)), none⟩,⟨some 10, .t (.faddr 1 (.t 9)), none⟩,⟨some 11, .m (.load false 1 (.t 10)), none⟩,⟨some 12, .t (.mv (.t 1)), none⟩,⟨some 13, .m (.bslice false 5 1 1 [(.t 12)]), none⟩,⟨some 14, .m (.append true 5 1 1 (.t 11) (.t 13)), none⟩,⟨some 15, .t (.nilck (.t 7)), none⟩,⟨some 16, .t (.faddr 1 (.t 15)), none⟩,⟨none, .m (.store 1 (.t 16) (.t 14)), none⟩]
def F31o3 : List AOper := [⟨some 4, .t (.mv (.c .nili)), none⟩]
def F31c : ACode :=
(.seq (.ops F31o0 [0, 1])
((.seq (.ops F31o1 [0, 1])
((.seq (.ops F31o2 [])
((.seq (.ops F31o3 [4])
(.ret))))))))
def F31 : AFn := ⟨17, [.tmp 4], F31c⟩
theorem F31_ok : cFn Tryz.prog [14] 31 = some F31 := by kernel_rfl
def F32o0 : List AOper := [⟨some 2, .t (.mv (.c (.str []))), none⟩]
def F32o1 : List AOper := [⟨some 3, .t (.mv (.t 0)), none⟩,⟨some 4, .t (.nilck (.t 3)), none⟩,⟨some 5, .t (.faddr 1 (.t 4)), none⟩,⟨some 6, .m (.load false 1 (.t 5)), none⟩,⟨some 7, .m (.xop (.sdata (.t 6))), none⟩,⟨some 8, .t (.mv (.t 0)), none⟩,⟨some 9, .t (.nilck (.t 8)), none⟩,⟨some 10, .t (.faddr 1 (.t 9)), none⟩,⟨some 11, .m (.load false 1 (.t 10)), none⟩,⟨some 12, .t (.len false (.t 11)), none⟩]
def F32p1 : List AOper := [⟨some 13, .m (.xop (.ustr 5 (.t 7) (.t 12))), none⟩,⟨some 2, .t (.mv (.t 13)), none⟩]
def F32A1 : List (List Nat) := [[], [0], [1, 0], [2, 1, 0], [3, 2, 1, 0], [], [5], [6, 5], [7, 6, 5], [8, 7, 6, 5], [4, 9, 3, 2, 1, 0, 8, 7, 6, 5], [10, 4, 9, 3, 2, 1, 0, 8, 7, 6, 5]]
def F32c : ACode :=
(.seq (.ops F32o0 [0])
((.seq (.draw F32A1 F32o1 F32p1 [2])
(.ret))))
def F32 : AFn := ⟨14, [.tmp 2], F32c⟩
theorem F32_ok : cFn Tryz.prog [] 32 = some F32 := by kernel_rfl
def F33o0 : List AOper := [⟨some 2, .t (.mv (.c (.str []))), none⟩,⟨some 3, .t (.mv (.c (.int .i64 0))), none⟩]
def F33o1 : List AOper := [⟨some 9, .t (.mv (.t 0)), none⟩,⟨some 10, .call (.c (.clo 69 [] [])) [(.t 9)], none⟩,⟨some 8, .t (.mv (.t 10)), none⟩,⟨some 11, .t (.ext (.t 8) 0), none⟩,⟨some 12, .t (.ext (.t 8) 1), none⟩,⟨some 13, .t (.ext (.t 8) 2), none⟩,⟨some 14, .t (.ext (.t 8) 3), none⟩,⟨some 4, .t (.mv (.t 11)), none⟩,⟨some 5, .t (.mv (.t 12)), none⟩,⟨some 6, .t (.mv (.t 13)), none⟩,⟨some 7, .t (.mv (.t 14)), none⟩]
def F33o2 : List AOper := [⟨some 15, .t (.mv (.t 7)), none⟩,⟨some 16, .t (.bin .neq (.t 15) (.c (.int .i64 0))), none⟩]
def F33o3 : List AOper := [⟨some 17, .t (.mv (.t 7)), none⟩,⟨some 2, .t (.mv (.c (.str []))), none⟩,⟨some 3, .t (.mv (.t 17)), none⟩]
def F33o4 : List AOper := [⟨some 18, .t (.mv (.t 4)), none⟩,⟨some 19, .call (.c (.clo 70 [] [])) [(.t 18), (.c (.int .i64 4))], none⟩,⟨some 20, .t (.bin .add (.t 19) (.c (.str [45]))), none⟩,⟨some 21, .t (.mv (.t 5)), none⟩,⟨some 22, .call (.c (.clo 70 [] [])) [(.t 21), (.c (.int .i64 2))], none⟩,⟨some 23, .t (.bin .add (.t 20) (.t 22)), none⟩,⟨some 24, .t (.bin .add (.t 23) (.c (.str [45]))), none⟩,⟨some 25, .t (.mv (.t 6)), none⟩,⟨some 26, .call (.c (.clo 70 [] [])) [(.t 25), (.c (.int .i64 2))], none⟩,⟨some 27, .t (.bin .add (.t 24) (.t 26)), none⟩,⟨some 2, .t (.mv (.t 27)), none⟩,⟨some 3, .t (.mv (.c (.int .i64 0))), none⟩]
def F33c : ACode :=
(.seq (.ops F33o0 [0])
((.seq (.ops F33o1 [4, 5, 6, 7])
((.seq ((.seq (.ops F33o2 [4, 5, 6, 7, 16])
(.cond (.t 16)
((.seq (.ops F33o3 [2, 3])
(.ret)))
(.skip))))
((.seq (.ops F33o4 [2, 3])
(.ret))))))))
def F33 : AFn := ⟨28, [.tmp 2, .tmp 3], F33c⟩
theorem F33_ok : cFn Tryz.prog [] 33 = some F33 := by kernel_rfl
def F36o0 : List AOper := [⟨some 4, .t (.mv (.c (.int .i64 0))), none⟩,⟨some 5, .t (.mv (.c .nili)), none⟩]
def F36o1 : List AOper := [⟨some 6, .t (.mv (.t 0)), none⟩,⟨some 7, .call (.c (.clo 68 [] [])) [(.t 6)], none⟩]
def F36o2 : List AOper := [⟨some 8, .t (.mv (.t 0)), none⟩,⟨some 9, .t (.mv (.t 0)), none⟩,⟨some 10, .t (.nilck (.t 9)), none⟩,⟨some 11, .t (.faddr 1 (.t 10)), none⟩,⟨some 12, .m (.load false 1 (.t 11)), none⟩,⟨some 13, .t (.mv (.t 1)), none⟩,⟨some 14, .m (.xop (.apps 5 1 (.t 12) (.t 13))), none⟩,⟨some 15, .t (.nilck (.t 8)), none⟩,⟨some 16, .t (.faddr 1 (.t 15)), none⟩,⟨none, .m (.store 1 (.t 16) (.t 14)), none⟩]
def F36o3 : List AOper := [⟨some 17, .t (.mv (.t 1)), none⟩,⟨some 18, .t (.len true (.t 17)), none⟩,⟨some 4, .t (.mv (.t 18)), none⟩,⟨some 5, .t (.mv (.c .nili)), none⟩]
def F36c : ACode :=
(.seq (.ops F36o0 [0, 1])
((.seq (.ops F36o1 [0, 1])
((.seq (.ops F36o2 [1])
((.seq (.ops F36o3 [4, 5])
(.ret))))))))
def F36 : AFn := ⟨19, [.tmp 4, .tmp 5], F36c⟩
theorem F36_ok : cFn Tryz.prog [14] 36 = some F36 := by kernel_rfl
def F38o0 : List AOper := [⟨some 2, .t (.mv (.c (.int .i64 0))), none⟩]
def F38o1 : List AOper := [⟨some 3, .t (.mv (.t 0)), none⟩,⟨some 4, .t (.nilck (.t 3)), none⟩,⟨some 5, .t (.faddr 1 (.t 4)), none⟩,⟨some 6, .m (.load false 1 (.t 5)), none⟩,⟨some 7, .t (.len false (.t 6)), none⟩,⟨some 2, .t (.mv (.t 7)), none⟩]
def F38c : ACode :=
(.seq (.ops F38o0 [0])
((.seq (.ops F38o1 [2])
(.ret))))
def F38 : AFn := ⟨8, [.tmp 2], F38c⟩
theorem F38_ok : cFn Tryz.prog [] 38 = some F38 := by kernel_rfl
def F39o0 : List AOper := [⟨some 2, .t (.mv (.c .nilf)), none⟩]
def F39o1 : List AOper := [⟨some 3, .t (.mv (.t 0)), none⟩,⟨some 4, .t (.nilck (.t 3)), none⟩,⟨some 5, .t (.faddr 3 (.t 4)), none⟩,⟨some 6, .m (.load false 1 (.t 5)), none⟩,⟨some 7, .t (.len false (.t 6)), none⟩,⟨some 8, .t (.bin .eql (.t 7) (.c (.int .i64 64))), none⟩]
def F39o2 : List AOper := [⟨some 9, .t (.mv (.t 0)), none⟩,⟨some 10, .t (.mv (.t 0)), none⟩,⟨some 11, .t (.nilck (.t 10)), none⟩,⟨some 12, .t (.faddr 2 (.t 11)), none⟩,⟨some 13, .m (.load false 1 (.t 12)), none⟩,⟨some 14, .call (.c (.clo 74 [] [])) [(.t 9), (.t 13), (.c (.int .i64 9))], none⟩,⟨some 2, .t (.mv (.t 14)), none⟩]
def F39o3 : List AOper := [⟨some 15, .t (.mv (.t 0)), none⟩,⟨some 16, .t (.mv (.t 0)), none⟩,⟨some 17, .t (.nilck (.t 16)), none⟩,⟨some 18, .t (.faddr 4 (.t 17)), none⟩,⟨some 19, .m (.load false 1 (.t 18)), none⟩,⟨some 20, .t (.mv (.t 0)), none⟩,⟨some 21, .t (.nilck (.t 20)), none⟩,⟨some 22, .t (.faddr 2 (.t 21)), none⟩,⟨some 23, .m (.load false 1 (.t 22)), none⟩,⟨some 24, .m (.bslice false 3 1 1 [(.t 23)]), none⟩,⟨some 25, .m (.append false 3 1 8 (.t 19) (.t 24)), none⟩]
def F39p3 : List AOper := [⟨some 26, .t (.nilck (.t 15)), none⟩,⟨some 27, .t (.faddr 4 (.t 26)), none⟩,⟨none, .m (.store 1 (.t 27) (.t 25)), none⟩]
def F39A3 : List (List Nat) := [[], [], [1], [2, 1], [3, 2, 1], [], [5], [6, 5], [7, 6, 5], [8, 7, 6, 5], [4, 9, 3, 2, 1, 8, 7, 6, 5], [0, 10, 4, 9, 3, 2, 1, 8, 7, 6, 5], [11, 0, 10, 4, 9, 3, 2, 1, 8, 7, 6, 5], [12, 11, 0, 10, 4, 9, 3, 2, 1, 8, 7, 6, 5]]
def F39o4 : List AOper := [⟨some 28, .t (.mv (.t 0)), none⟩,⟨some 29, .t (.nilck (.t 28)), none⟩,⟨some 30, .t (.faddr 2 (.t 29)), none⟩,⟨some 31, .m (.load false 1 (.t 30)), none⟩,⟨some 32, .t (.mv (.t 0)), none⟩,⟨some 33, .t (.nilck (.t 32)), none⟩,⟨some 34, .t (.faddr 0 (.t 33)), none⟩,⟨some 35, .m (.load false 1 (.t 34)), none⟩,⟨some 36, .t (.len true (.t 35)), none⟩,⟨some 37, .t (.bin .lss (.t 31) (.t 36)), none⟩,⟨some 38, .t (.mv (.t 37)), none⟩,⟨some 39, .t (.mv (.t 0)), (some (38, true))⟩,
  ⟨some 40, .t (.nilck (.t 39)), (some (38, true))⟩,
  ⟨some 41, .t (.faddr 0 (.t 40)), (some (38, true))⟩,
  ⟨some 42, .m (.load false 1 (.t 41)), (some (38, true))⟩,
  ⟨some 43, .t (.mv (.t 0)), (some (38, true))⟩,
  ⟨some 44, .t (.nilck (.t 43)), (some (38, true))⟩,
  ⟨some 45, .t (.faddr 2 (.t 44)), (some (38, true))⟩,
  ⟨some 46, .m (.load false 1 (.t 45)), (some (38, true))⟩]
def F39p4 : List AOper := [⟨some 47, .t (.index (.t 42) (.t 46)), (some (38, true))⟩,
  ⟨some 48, .t (.bin .eql (.t 47) (.c (.int .u8 34))), (some (38, true))⟩,
  ⟨some 49, .t (.pick (.t 38) (.t 48) (.c (.bool false))), none⟩]
def F39A4 : List (List Nat) := [[], [0], [1, 0], [2, 1, 0], [], [4], [5, 4], [6, 5, 4], [7, 6, 5, 4], [3, 8, 2, 1, 0, 7, 6, 5, 4], [9, 3, 8, 2, 1, 0, 7, 6, 5, 4], [10, 9, 3, 8, 2, 1, 0, 7, 6, 5, 4], [11, 10, 9, 3, 8, 2, 1, 0, 7, 6, 5, 4], [12, 11, 10, 9, 3, 8, 2, 1, 0, 7, 6, 5, 4], [13, 12, 11, 10, 9, 3, 8, 2, 1, 0, 7, 6, 5, 4], [10, 9, 3, 8, 2, 1, 0, 7, 6, 5, 4], [15, 10, 9, 3, 8, 2, 1, 0, 7, 6, 5, 4], [16, 15, 10, 9, 3, 8, 2, 1, 0, 7, 6, 5, 4], [17, 16, 15, 10, 9, 3, 8, 2, 1, 0, 7, 6, 5, 4], [14, 18, 13, 12, 11, 17, 16, 15, 10, 9, 3, 8, 2, 1, 0, 7, 6, 5, 4], [19, 14, 18, 13, 12, 11, 17, 16, 15, 10, 9, 3, 8, 2, 1, 0, 7, 6, 5, 4], [20, 19, 14, 18, 13, 12, 11, 17, 16, 15, 10, 9, 3, 8, 2, 1, 0, 7, 6, 5, 4]]
def F39o5 : List AOper := [⟨some 50, .t (.mv (.t 0)), none⟩,⟨some 51, .t (.nilck (.t 50)), none⟩,⟨some 52, .t (.faddr 2 (.t 51)), none⟩,⟨some 53, .m (.load false 1 (.t 52)), none⟩,⟨some 54, .t (.bin .add (.t 53) (.c (.int .i64 1))), none⟩,⟨some 55, .t (.nilck (.t 50)), none⟩,⟨some 56, .t (.faddr 2 (.t 55)), none⟩,⟨none, .m (.store 1 (.t 56) (.t 54)), none⟩]
def F39o6 : List AOper := [⟨some 2, .t (.mv (.c (.clo 75 [] []))), none⟩]
def F39o7 : List AOper := [⟨some 2, .t (.mv (.c (.clo 76 [] []))), none⟩]
def F39c : ACode :=
(.seq (.ops F39o0 [0])
((.seq ((.seq (.ops F39o1 [0, 8])
(.cond (.t 8)
((.seq (.ops F39o2 [2])
(.ret)))
(.skip))))
((.seq (.draw F39A3 F39o3 F39p3 [0])
((.seq ((.seq (.draw F39A4 F39o4 F39p4 [0, 49])
(.cond (.t 49)
((.seq (.ops F39o5 [])
((.seq (.ops F39o6 [2])
(.ret)))))
(.skip))))
((.seq (.ops F39o7 [2])
(.ret))))))))))
def F39 : AFn := ⟨57, [.tmp 2], F39c⟩
theorem F39_ok : cFn Tryz.prog [] 39 = some F39 := by kernel_rfl
def F40o0 : List AOper := [⟨some 2, .m (.alloc 74 [(.int .i64 0), (.int .i64 0)]), none⟩,⟨some 3, .t (.mv (.c (.int .i64 0))), none⟩]
def F40o1 : List AOper := [⟨some 13, .t (.mv (.t 0)), none⟩,⟨some 14, .t (.bin .eql (.t 13) (.c (.str []))), none⟩,⟨some 12, .t (.mv (.t 14)), none⟩]
def F40o2 : List AOper := [⟨some 15, .t (.build [(.int .i64 0), (.int .i64 0)] []), none⟩,⟨none, .m (.store 2 (.t 2) (.t 15)), none⟩,⟨some 3, .t (.mv (.c (.int .i64 4))), none⟩]
def F40o3 : List AOper := [⟨some 17, .t (.mv (.t 0)), none⟩,⟨some 18, .t (.len true (.t 17)), none⟩,⟨some 19, .t (.bin .gtr (.t 18) (.c (.int .i64 17))), none⟩,⟨some 16, .t (.mv (.t 19)), none⟩]
def F40o4 : List AOper := [⟨some 20, .t (.build [(.int .i64 0), (.int .i64 0)] []), none⟩,⟨none, .m (.store 2 (.t 2) (.t 20)), none⟩,⟨some 3, .t (.mv (.c (.int .i64 5))), none⟩]
def F40o5 : List AOper := [⟨some 22, .t (.mv (.t 0)), none⟩,⟨some 23, .call (.c (.clo 77 [] [])) [(.t 22), (.c (.str [46]))], none⟩,⟨some 21, .t (.mv (.t 23)), none⟩,⟨some 24, .t (.ext (.t 21) 0), none⟩,⟨some 25, .t (.ext (.t 21) 1), none⟩,⟨some 26, .t (.ext (.t 21) 2), none⟩,⟨some 4, .t (.mv (.t 24)), none⟩,⟨some 5, .t (.mv (.t 25)), none⟩,⟨some 6, .t (.mv (.t 26)), none⟩]
def F40o6 : List AOper := [⟨some 28, .t (.mv (.t 4)), none⟩,⟨some 29, .t (.mv (.t 5)), none⟩,⟨some 30, .t (.bin .add (.t 28) (.t 29)), none⟩,⟨some 31, .call (.c (.clo 78 [] [])) [(.t 30)], none⟩,⟨some 27, .t (.mv (.t 31)), none⟩,⟨some 32, .t (.ext (.t 27) 0), none⟩,⟨some 33, .t (.ext (.t 27) 1), none⟩,⟨some 7, .t (.mv (.t 32)), none⟩,⟨some 8, .t (.mv (.t 33)), none⟩]
def F40o7 : List AOper := [⟨some 34, .t (.mv (.t 7)), none⟩,⟨some 35, .t (.mv (.t 5)), none⟩,⟨some 36, .t (.len true (.t 35)), none⟩,⟨some 37, .t (.build [(.int .i64 0), (.int .i64 0)] [(0, 1, (.t 34)), (1, 1, (.t 36))]), none⟩,⟨some 9, .m (.alloc 74 [(.int .i64 0), (.int .i64 0)]), none⟩,⟨none, .m (.store 2 (.t 9) (.t 37)), none⟩]
def F40o8 : List AOper := [⟨some 39, .m (.load true 2 (.t 9)), none⟩,⟨some 40, .call (.c (.clo 30 [] [])) [(.t 39)], none⟩,⟨some 38, .t (.mv (.t 40)), none⟩,⟨some 41, .t (.ext (.t 38) 0), none⟩,⟨some 42, .t (.ext (.t 38) 1), none⟩,⟨some 10, .t (.mv (.t 41)), none⟩,⟨some 11, .t (.mv (.t 42)), none⟩]
def F40o9 : List AOper := [⟨some 43, .t (.mv (.t 8)), none⟩,⟨some 44, .m (.xop (.inil true (.t 43) (.c .nili))), none⟩,⟨some 45, .t (.mv (.t 44)), none⟩,⟨some 46, .t (.mv (.t 11)), (some (45, false))⟩,
  ⟨some 47, .t (.bin .neq (.t 46) (.c (.int .i64 0))), (some (45, false))⟩,
  ⟨some 48, .t (.pick (.t 45) (.c (.bool true)) (.t 47)), none⟩,⟨some 49, .t (.mv (.t 48)), none⟩,⟨some 50, .t (.mv (.t 10)), (some (49, false))⟩,
  ⟨some 51, .t (.mv (.t 0)), (some (49, false))⟩,
  ⟨some 52, .t (.bin .neq (.t 50) (.t 51)), (some (49, false))⟩,
  ⟨some 53, .t (.pick (.t 49) (.c (.bool true)) (.t 52)), none⟩,⟨some 54, .t (.mv (.t 53)), none⟩,⟨some 55, .t (.mv (.t 6)), (some (54, false))⟩,
  ⟨some 56, .t (.mv (.t 55)), (some (54, false))⟩,
  ⟨some 57, .t (.mv (.t 5)), (some (56, true))⟩,
  ⟨some 58, .t (.bin .eql (.t 57) (.c (.str []))), (some (56, true))⟩,
  ⟨some 59, .t (.pick (.t 56) (.t 58) (.c (.bool false))), (some (54, false))⟩,
  ⟨some 60, .t (.pick (.t 54) (.c (.bool true)) (.t 59)), none⟩]
def F40o10 : List AOper := [⟨some 61, .t (.build [(.int .i64 0), (.int .i64 0)] []), none⟩,⟨none, .m (.store 2 (.t 2) (.t 61)), none⟩,⟨some 3, .t (.mv (.c (.int .i64 13))), none⟩]
def F40o11 : List AOper := [⟨some 62, .m (.load true 2 (.t 9)), none⟩,⟨none, .m (.store 2 (.t 2) (.t 62)), none⟩,⟨some 3, .t (.mv (.c (.int .i64 0))), none⟩]
def F40c : ACode :=
(.seq (.ops F40o0 [0, 2])
((.seq (.block 0 ((.seq (.ops F40o1 [0, 2, 12])
(.cond (.t 12)
((.seq (.ops F40o2 [2, 3])
(.ret)))
((.seq (.ops F40o3 [0, 2, 16])
(.cond (.t 16)
((.seq (.ops F40o4 [2, 3])
(.ret)))
(.skip))))))))
((.seq (.ops F40o5 [0, 2, 4, 5, 6])
((.seq (.ops F40o6 [0, 2, 5, 6, 7, 8])
((.seq (.ops F40o7 [0, 2, 5, 6, 8, 9])
((.seq ((.seq (.ops F40o8 [0, 2, 5, 6, 8, 9, 10, 11])
((.seq (.ops F40o9 [2, 9, 60])
(.cond (.t 60)
((.seq (.ops F40o10 [2, 3])
(.ret)))
(.skip))))))
((.seq (.ops F40o11 [2, 3])
(.ret))))))))))))))
def F40 : AFn := ⟨63, [.cell 2 true 2, .tmp 3], F40c⟩
theorem F40_ok : cFn Tryz.prog [44] 40 = some F40 := by kernel_rfl
def F42o0 : List AOper := [⟨some 2, .t (.mv (.c (.int .i64 0))), none⟩,⟨some 3, .t (.mv (.c (.int .i64 0))), none⟩]
def F42o1 : List AOper := [⟨some 8, .t (.mv (.t 0)), none⟩,⟨some 9, .m (.bslice false 9 1 3 [(.c (.str [])), (.c (.str [45])), (.c (.str [45]))]), none⟩,⟨some 10, .m (.bslice false 3 1 3 [(.c (.int .i64 4)), (.c (.int .i64 2)), (.c (.int .i64 2))]), none⟩,⟨some 11, .call (.c (.clo 79 [] [])) [(.t 8), (.t 9), (.t 10)], none⟩,⟨some 7, .t (.mv (.t 11)), none⟩,⟨some 12, .t (.ext (.t 7) 0), none⟩,⟨some 13, .t (.ext (.t 7) 1), none⟩,⟨some 14, .t (.ext (.t 7) 2), none⟩,⟨some 4, .t (.mv (.t 12)), none⟩,⟨some 5, .t (.mv (.t 13)), none⟩,⟨some 6, .t (.mv (.t 14)), none⟩]
def F42o2 : List AOper := [⟨some 15, .t (.mv (.t 6)), none⟩,⟨some 16, .t (.not (.t 15)), none⟩,⟨some 17, .t (.mv (.t 16)), none⟩,⟨some 18, .t (.mv (.t 5)), (some (17, false))⟩,
  ⟨some 19, .t (.bin .neq (.t 18) (.c (.str []))), (some (17, false))⟩,
  ⟨some 20, .t (.pick (.t 17) (.c (.bool true)) (.t 19)), none⟩]
def F42o3 : List AOper := [⟨some 2, .t (.mv (.c (.int .i64 0))), none⟩,⟨some 3, .t (.mv (.c (.int .i64 13))), none⟩]
def F42o4 : List AOper := [⟨some 21, .t (.mv (.t 4)), none⟩,⟨some 22, .t (.iaddr 1 (.t 21) (.c (.int .i64 0))), none⟩,⟨some 23, .m (.load false 1 (.t 22)), none⟩,⟨some 24, .t (.mv (.t 4)), none⟩,⟨some 25, .t (.iaddr 1 (.t 24) (.c (.int .i64 1))), none⟩,⟨some 26, .m (.load false 1 (.t 25)), none⟩,⟨some 27, .t (.mv (.t 4)), none⟩,⟨some 28, .t (.iaddr 1 (.t 27) (.c (.int .i64 2))), none⟩,⟨some 29, .m (.load false 1 (.t 28)), none⟩,⟨some 30, .call (.c (.clo 80 [] [])) [(.t 23), (.t 26), (.t 29)], none⟩,⟨some 31, .t (.ext (.t 30) 0), none⟩,⟨some 32, .t (.ext (.t 30) 1), none⟩]
def F42p4 : List AOper := [⟨some 2, .t (.mv (.t 31)), none⟩,⟨some 3, .t (.mv (.t 32)), none⟩]
def F42A4 : List (List Nat) := [[], [0], [1, 0], [], [3], [4, 3], [], [6], [7, 6], [2, 5, 8, 1, 0, 4, 3, 7, 6], [9, 2, 5, 8, 1, 0, 4, 3, 7, 6], [9, 2, 5, 8, 1, 0, 4, 3, 7, 6], [10, 11, 9, 2, 5, 8, 1, 0, 4, 3, 7, 6], [12, 10, 11, 9, 2, 5, 8, 1, 0, 4, 3, 7, 6]]
def F42c : ACode :=
(.seq (.ops F42o0 [0])
((.seq (.ops F42o1 [4, 5, 6])
((.seq ((.seq (.ops F42o2 [4, 20])
(.cond (.t 20)
((.seq (.ops F42o3 [2, 3])
(.ret)))
(.skip))))
((.seq (.draw F42A4 F42o4 F42p4 [2, 3])
(.ret))))))))
def F42 : AFn := ⟨33, [.tmp 2, .tmp 3], F42c⟩
theorem F42_ok : cFn Tryz.prog [] 42 = some F42 := by kernel_rfl
def F44o0 : List AOper := [⟨some 4, .t (.mv (.c (.bool false))), none⟩]
def F44o1 : List AOper := [⟨some 5, .t (.mv (.t 0)), none⟩,⟨some 6, .t (.mv (.t 1)), none⟩,⟨some 7, .call (.c (.clo 62 [] [])) [(.t 5), (.t 6)], none⟩,⟨some 8, .t (.bin .geq (.t 7) (.c (.int .i64 0))), none⟩,⟨some 4, .t (.mv (.t 8)), none⟩]
def F44c : ACode :=
(.seq (.ops F44o0 [0, 1])
((.seq (.ops F44o1 [4])
(.ret))))
def F44 : AFn := ⟨9, [.tmp 4], F44c⟩
theorem F44_ok : cFn Tryz.prog [] 44 = some F44 := by kernel_rfl
def F45o0 : List AOper := [⟨some 2, .m (.box 29 (.t 0)), none⟩,⟨some 3, .t (.mv (.c (.bool false))), none⟩]
def F45o1 : List AOper := [⟨some 4, .t (.faddr 0 (.t 2)), none⟩,⟨some 5, .m (.load false 1 (.t 4)), none⟩,⟨some 6, .t (.faddr 0 (.t 1)), none⟩,⟨some 7, .m (.load false 1 (.t 6)), none⟩,⟨some 8, .t (.bin .eql (.t 5) (.t 7)), none⟩,⟨some 9, .t (.mv (.t 8)), none⟩,⟨some 10, .t (.faddr 1 (.t 2)), (some (9, true))⟩,
  ⟨some 11, .m (.load true 6 (.t 10)), (some (9, true))⟩,
  ⟨some 12, .call (.c (.clo 46 [] [])) [(.t 11)], (some (9, true))⟩,
  ⟨some 13, .t (.not (.t 12)), (some (9, true))⟩,
  ⟨some 14, .t (.pick (.t 9) (.t 13) (.c (.bool false))), none⟩,⟨some 3, .t (.mv (.t 14)), none⟩]
def F45c : ACode :=
(.seq (.ops F45o0 [1, 2])
((.seq (.ops F45o1 [3])
(.ret))))
def F45 : AFn := ⟨15, [.tmp 3], F45c⟩
theorem F45_ok : cFn Tryz.prog [] 45 = some F45 := by kernel_rfl
def F46o0 : List AOper := [⟨some 1, .m (.box 27 (.t 0)), none⟩,⟨some 2, .t (.mv (.c (.bool false))), none⟩]
def F46o1 : List AOper := [⟨some 3, .t (.faddr 0 (.t 1)), none⟩,⟨some 4, .m (.load false 1 (.t 3)), none⟩,⟨some 5, .t (.bin .eql (.t 4) (.c (.int .i64 0))), none⟩,⟨some 6, .t (.mv (.t 5)), none⟩,⟨some 7, .t (.faddr 1 (.t 1)), (some (6, true))⟩,
  ⟨some 8, .m (.load false 1 (.t 7)), (some (6, true))⟩,
  ⟨some 9, .t (.bin .eql (.t 8) (.c (.int .i64 0))), (some (6, true))⟩,
  ⟨some 10, .t (.pick (.t 6) (.t 9) (.c (.bool false))), none⟩,⟨some 11, .t (.mv (.t 10)), none⟩,⟨some 12, .t (.faddr 2 (.t 1)), (some (11, true))⟩,
  ⟨some 13, .m (.load false 1 (.t 12)), (some (11, true))⟩,
  ⟨some 14, .t (.bin .eql (.t 13) (.c (.int .i64 0))), (some (11, true))⟩,
  ⟨some 15, .t (.pick (.t 11) (.t 14) (.c (.bool false))), none⟩,⟨some 16, .t (.mv (.t 15)), none⟩,⟨some 17, .t (.faddr 3 (.t 1)), (some (16, true))⟩,
  ⟨some 18, .m (.load false 1 (.t 17)), (some (16, true))⟩,
  ⟨some 19, .t (.bin .eql (.t 18) (.c (.str []))), (some (16, true))⟩,
  ⟨some 20, .t (.pick (.t 16) (.t 19) (.c (.bool false))), none⟩,⟨some 21, .t (.mv (.t 20)), none⟩,⟨some 22, .t (.faddr 4 (.t 1)), (some (21, true))⟩,
  ⟨some 23, .m (.load false 1 (.t 22)), (some (21, true))⟩,
  ⟨some 24, .t (.len false (.t 23)), (some (21, true))⟩,
  ⟨some 25, .t (.bin .eql (.t 24) (.c (.int .i64 0))), (some (21, true))⟩,
  ⟨some 26, .t (.pick (.t 21) (.t 25) (.c (.bool false))), none⟩,⟨some 27, .t (.mv (.t 26)), none⟩,⟨some 28, .t (.faddr 5 (.t 1)), (some (27, true))⟩,
  ⟨some 29, .m (.load false 1 (.t 28)), (some (27, true))⟩,
  ⟨some 30, .t (.len false (.t 29)), (some (27, true))⟩,
  ⟨some 31, .t (.bin .eql (.t 30) (.c (.int .i64 0))), (some (27, true))⟩,
  ⟨some 32, .t (.pick (.t 27) (.t 31) (.c (.bool false))), none⟩,⟨some 2, .t (.mv (.t 32)), none⟩]
def F46c : ACode :=
(.seq (.ops F46o0 [1])
((.seq (.ops F46o1 [2])
(.ret))))
def F46 : AFn := ⟨33, [.tmp 2], F46c⟩
theorem F46_ok : cFn Tryz.prog [] 46 = some F46 := by kernel_rfl
def F47o0 : List AOper := [⟨some 5, .t (.mv (.t 0)), none⟩,⟨some 6, .t (.len false (.t 5)), none⟩,⟨some 4, .t (.mv (.t 6)), none⟩]
def F47o1 : List AOper := [⟨some 7, .t (.mv (.t 0)), none⟩,⟨some 8, .t (.mv (.t 4)), none⟩,⟨some 9, .t (.mv (.t 4)), none⟩,⟨some 10, .t (.conv .u64 (.t 9)), none⟩,⟨some 11, .call (.c (.clo 85 [] [])) [(.t 10)], none⟩,⟨some 12, .t (.mv (.t 1)), none⟩,⟨some 13, .call (.c (.clo 84 [] [])) [(.t 7), (.c (.int .i64 0)), (.t 8), (.t 11), (.t 12)], none⟩]
def F47c : ACode :=
(.seq (.ops F47o0 [0, 1, 4])
(.ops F47o1 []))
def F47 : AFn := ⟨14, [], F47c⟩
theorem F47_ok : cFn Tryz.prog [] 47 = some F47 := by kernel_rfl
def F48o0 : List AOper := [⟨some 2, .m (.box 29 (.t 0)), none⟩,⟨some 3, .m (.box 29 (.t 1)), none⟩,⟨some 4, .t (.mv (.c (.int .i64 0))), none⟩]
def F48o1 : List AOper := [⟨some 5, .t (.faddr 0 (.t 2)), none⟩,⟨some 6, .m (.load false 1 (.t 5)), none⟩,⟨some 7, .t (.faddr 0 (.t 3)), none⟩,⟨some 8, .m (.load false 1 (.t 7)), none⟩,⟨some 9, .call (.c (.clo 49 [] [])) [(.t 6), (.t 8)], none⟩,⟨some 4, .t (.mv (.t 9)), none⟩]
def F48c : ACode :=
(.seq (.ops F48o0 [2, 3])
((.seq (.ops F48o1 [4])
(.ret))))
def F48 : AFn := ⟨10, [.tmp 4], F48c⟩
theorem F48_ok : cFn Tryz.prog [] 48 = some F48 := by kernel_rfl
def F51o0 : List AOper := [⟨some 3, .m (.box 37 (.t 0)), none⟩,⟨some 6, .t (.mv (.c (.int .i64 0))), none⟩]
def F51o1 : List AOper := [⟨some 12, .t (.mv (.t 2)), none⟩,⟨some 13, .t (.nilck (.t 12)), none⟩,⟨some 14, .m (.load false 1 (.t 13)), none⟩,⟨some 15, .t (.bin .eql (.t 14) (.c (.int .i64 0))), none⟩,⟨some 11, .t (.mv (.t 15)), none⟩]
def F51o2 : List AOper := [⟨some 6, .t (.mv (.c (.int .i64 9))), none⟩]
def F51o3 : List AOper := [⟨some 17, .t (.mv (.t 1)), none⟩,⟨some 18, .t (.bin .gtr (.t 17) (.c (.int .i64 8))), none⟩,⟨some 16, .t (.mv (.t 18)), none⟩]
def F51o4 : List AOper := [⟨some 6, .t (.mv (.c (.int .i64 23))), none⟩]
def F51o5 : List AOper := [⟨some 19, .t (.mv (.t 2)), none⟩,⟨some 20, .t (.nilck (.t 19)), none⟩,⟨some 21, .m (.load false 1 (.t 20)), none⟩,⟨some 22, .t (.bin .sub (.t 21) (.c (.int .i64 1))), none⟩,⟨some 23, .t (.nilck (.t 19)), none⟩,⟨none, .m (.store 1 (.t 23) (.t 22)), none⟩]
def F51o6 : List AOper := [⟨some 24, .m (.load true 7 (.t 3)), none⟩,⟨some 25, .call (.c (.clo 87 [] [])) [(.t 24)], none⟩,⟨some 7, .t (.mv (.t 25)), none⟩]
def F51o7 : List AOper := [⟨some 26, .t (.mv (.t 7)), none⟩,⟨some 27, .t (.bin .neq (.t 26) (.c (.int .i64 0))), none⟩]
def F51o8 : List AOper := [⟨some 28, .t (.mv (.t 7)), none⟩,⟨some 6, .t (.mv (.t 28)), none⟩]
def F51o9 : List AOper := [⟨some 29, .m (.load true 7 (.t 3)), none⟩,⟨some 30, .call (.c (.clo 88 [] [])) [(.t 29)], none⟩,⟨some 31, .t (.len false (.t 30)), none⟩,⟨some 32, .t (.mv (.c (.int .i64 0))), none⟩]
def F51o10 : List AOper := [⟨some 33, .t (.bin .lss (.t 32) (.t 31)), none⟩]
def F51o11 : List AOper := [⟨some 34, .t (.mv (.t 32)), none⟩,⟨some 35, .t (.iaddr 7 (.t 30) (.t 32)), none⟩,⟨some 36, .m (.load true 7 (.t 35)), none⟩,⟨some 9, .m (.alloc 37 [(.int .i64 0), (.int .i64 0), (.int .i64 0), (.int .i64 0), .nils, .nils, .nils]), none⟩,⟨some 8, .t (.mv (.t 34)), none⟩,⟨none, .m (.store 7 (.t 9) (.t 36)), none⟩]
def F51o12 : List AOper := [⟨some 37, .m (.load true 7 (.t 9)), none⟩,⟨some 38, .t (.mv (.t 1)), none⟩,⟨some 39, .t (.bin .add (.t 38) (.c (.int .i64 1))), none⟩,⟨some 40, .t (.mv (.t 2)), none⟩,⟨some 41, .call (.c (.clo 51 [] [])) [(.t 37), (.t 39), (.t 40)], none⟩,⟨some 10, .t (.mv (.t 41)), none⟩]
def F51o13 : List AOper := [⟨some 42, .t (.mv (.t 10)), none⟩,⟨some 43, .t (.bin .neq (.t 42) (.c (.int .i64 0))), none⟩]
def F51o14 : List AOper := [⟨some 44, .t (.mv (.t 10)), none⟩,⟨some 6, .t (.mv (.t 44)), none⟩]
def F51o15 : List AOper := [⟨some 45, .t (.faddr 0 (.t 3)), none⟩,⟨some 46, .m (.load false 1 (.t 45)), none⟩,⟨some 47, .t (.bin .eql (.t 46) (.c (.int .i64 9))), none⟩,⟨some 48, .t (.mv (.t 47)), none⟩,⟨some 49, .t (.faddr 6 (.t 3)), (some (48, true))⟩,
  ⟨some 50, .m (.load false 1 (.t 49)), (some (48, true))⟩,
  ⟨some 51, .t (.mv (.t 8)), (some (48, true))⟩,
  ⟨some 52, .t (.iaddr 11 (.t 50) (.t 51)), (some (48, true))⟩,
  ⟨some 53, .t (.faddr 2 (.t 52)), (some (48, true))⟩,
  ⟨some 54, .m (.load false 1 (.t 53)), (some (48, true))⟩,
  ⟨some 55, .t (.bin .eql (.t 54) (.c (.int .i64 3))), (some (48, true))⟩,
  ⟨some 56, .t (.pick (.t 48) (.t 55) (.c (.bool false))), none⟩,⟨some 57, .t (.mv (.t 56)), none⟩,⟨some 58, .m (.load true 7 (.t 9)), (some (57, true))⟩,
  ⟨some 59, .t (.faddr 6 (.t 3)), (some (57, true))⟩,
  ⟨some 60, .m (.load false 1 (.t 59)), (some (57, true))⟩,
  ⟨some 61, .t (.mv (.t 8)), (some (57, true))⟩,
  ⟨some 62, .t (.iaddr 11 (.t 60) (.t 61)), (some (57, true))⟩,
  ⟨some 63, .t (.faddr 10 (.t 62)), (some (57, true))⟩,
  ⟨some 64, .m (.load false 1 (.t 63)), (some (57, true))⟩,
  ⟨some 65, .t (.iaddr 6 (.t 64) (.c (.int .i64 0))), (some (57, true))⟩,
  ⟨some 66, .m (.load true 6 (.t 65)), (some (57, true))⟩]
def F51p15 : List AOper := [⟨some 67, .call (.c (.clo 89 [] [])) [(.t 58), (.t 66)], (some (57, true))⟩,
  ⟨some 68, .t (.not (.t 67)), (some (57, true))⟩,
  ⟨some 69, .t (.pick (.t 57) (.t 68) (.c (.bool false))), none⟩]
def F51A15 : List (List Nat) := [[], [0], [1, 0], [2, 1, 0], [3, 2, 1, 0], [4, 3, 2, 1, 0], [3, 2, 1, 0], [5, 6, 4, 3, 2, 1, 0], [7, 5, 6, 4, 3, 2, 1, 0], [8, 7, 5, 6, 4, 3, 2, 1, 0], [9, 8, 7, 5, 6, 4, 3, 2, 1, 0], [10, 9, 8, 7, 5, 6, 4, 3, 2, 1, 0], [11, 10, 9, 8, 7, 5, 6, 4, 3, 2, 1, 0], [12, 11, 10, 9, 8, 7, 5, 6, 4, 3, 2, 1, 0], [12, 11, 10, 9, 8, 7, 5, 6, 4, 3, 2, 1, 0], [14, 12, 11, 10, 9, 8, 7, 5, 6, 4, 3, 2, 1, 0], [12, 11, 10, 9, 8, 7, 5, 6, 4, 3, 2, 1, 0], [15, 16, 14, 12, 11, 10, 9, 8, 7, 5, 6, 4, 3, 2, 1, 0], [17, 15, 16, 14, 12, 11, 10, 9, 8, 7, 5, 6, 4, 3, 2, 1, 0], [18, 17, 15, 16, 14, 12, 11, 10, 9, 8, 7, 5, 6, 4, 3, 2, 1, 0], [19, 18, 17, 15, 16, 14, 12, 11, 10, 9, 8, 7, 5, 6, 4, 3, 2, 1, 0], [20, 19, 18, 17, 15, 16, 14, 12, 11, 10, 9, 8, 7, 5, 6, 4, 3, 2, 1, 0], [13, 21, 20, 19, 18, 17, 15, 16, 14, 12, 11, 10, 9, 8, 7, 5, 6, 4, 3, 2, 1, 0], [22, 13, 21, 20, 19, 18, 17, 15, 16, 14, 12, 11, 10, 9, 8, 7, 5, 6, 4, 3, 2, 1, 0], [23, 22, 13, 21, 20, 19, 18, 17, 15, 16, 14, 12, 11, 10, 9, 8, 7, 5, 6, 4, 3, 2, 1, 0]]
def F51o16 : List AOper := [⟨some 6, .t (.mv (.c (.int .i64 18))), none⟩]
def F51o17 : List AOper := [⟨some 70, .t (.bin .add (.t 32) (.c (.int .i64 1))), none⟩,⟨some 32, .t (.mv (.t 70)), none⟩]
def F51b18 : ACode :=
(.seq (.ops F51o10 [1, 2, 3, 30, 31, 32, 33])
((.seq (.cond (.t 33)
(.skip)
(.exit 1))
((.seq (.block 2 ((.seq (.ops F51o11 [1, 2, 3, 8, 9, 30, 31, 32])
((.seq ((.seq (.ops F51o12 [1, 2, 3, 8, 9, 10, 30, 31, 32])
((.seq (.ops F51o13 [1, 2, 3, 8, 9, 10, 30, 31, 32, 43])
(.cond (.t 43)
((.seq (.ops F51o14 [6])
(.ret)))
(.skip))))))
((.seq (.draw F51A15 F51o15 F51p15 [1, 2, 3, 30, 31, 32, 69])
(.cond (.t 69)
((.seq (.ops F51o16 [6])
(.ret)))
(.skip)))))))))
(.ops F51o17 [1, 2, 3, 30, 31, 32]))))))
def F51o19 : List AOper := [⟨some 6, .t (.mv (.c (.int .i64 0))), none⟩]
def F51c : ACode :=
(.seq (.ops F51o0 [1, 2, 3])
((.seq (.block 0 ((.seq (.ops F51o1 [1, 2, 3, 11])
(.cond (.t 11)
((.seq (.ops F51o2 [6])
(.ret)))
((.seq (.ops F51o3 [1, 2, 3, 16])
(.cond (.t 16)
((.seq (.ops F51o4 [6])
(.ret)))
(.skip))))))))
((.seq (.ops F51o5 [1, 2, 3])
((.seq ((.seq (.ops F51o6 [1, 2, 3, 7])
((.seq (.ops F51o7 [1, 2, 3, 7, 27])
(.cond (.t 27)
((.seq (.ops F51o8 [6])
(.ret)))
(.skip))))))
((.seq ((.seq (.ops F51o9 [1, 2, 3, 30, 31, 32])
(.block 1 (.loop [1, 2, 3, 30, 31, 32] F51b18))))
((.seq (.ops F51o19 [6])
(.ret))))))))))))
def F51 : AFn := ⟨71, [.tmp 6], F51c⟩
theorem F51_ok : cFn Tryz.prog [] 51 = some F51 := by kernel_rfl
def F52o0 : List AOper := [⟨some 1, .m (.box 37 (.t 0)), none⟩,⟨some 2, .t (.mv (.c (.int .i64 0))), none⟩]
def F52o1 : List AOper := [⟨some 8, .m (.load true 7 (.t 1)), none⟩,⟨some 9, .call (.c (.clo 90 [] [])) [(.t 8)], none⟩,⟨some 3, .t (.mv (.t 9)), none⟩]
def F52o2 : List AOper := [⟨some 10, .t (.faddr 5 (.t 1)), none⟩,⟨some 11, .m (.load false 1 (.t 10)), none⟩,⟨some 12, .t (.len false (.t 11)), none⟩,⟨some 13, .t (.mv (.c (.int .i64 0))), none⟩]
def F52o3 : List AOper := [⟨some 14, .t (.bin .lss (.t 13) (.t 12)), none⟩]
def F52o4 : List AOper := [⟨some 15, .t (.iaddr 7 (.t 11) (.t 13)), none⟩,⟨some 16, .m (.load true 7 (.t 15)), none⟩,⟨some 5, .m (.alloc 37 [(.int .i64 0), (.int .i64 0), (.int .i64 0), (.int .i64 0), .nils, .nils, .nils]), none⟩,⟨none, .m (.store 7 (.t 5) (.t 16)), none⟩]
def F52o5 : List AOper := [⟨some 17, .t (.mv (.t 3)), none⟩,⟨some 18, .m (.load true 7 (.t 5)), none⟩,⟨some 19, .call (.c (.clo 52 [] [])) [(.t 18)], none⟩,⟨some 20, .t (.imax (.t 17) (.t 19)), none⟩,⟨some 3, .t (.mv (.t 20)), none⟩]
def F52o6 : List AOper := [⟨some 21, .t (.bin .add (.t 13) (.c (.int .i64 1))), none⟩,⟨some 13, .t (.mv (.t 21)), none⟩]
def F52b7 : ACode :=
(.seq (.ops F52o3 [1, 3, 11, 12, 13, 14])
((.seq (.cond (.t 14)
(.skip)
(.exit 0))
((.seq (.block 1 ((.seq (.ops F52o4 [1, 3, 5, 11, 12, 13])
(.ops F52o5 [1, 3, 11, 12, 13]))))
(.ops F52o6 [1, 3, 11, 12, 13]))))))
def F52o8 : List AOper := [⟨some 22, .t (.faddr 6 (.t 1)), none⟩,⟨some 23, .m (.load false 1 (.t 22)), none⟩,⟨some 24, .t (.len false (.t 23)), none⟩,⟨some 25, .t (.mv (.c (.int .i64 0))), none⟩]
def F52o9 : List AOper := [⟨some 26, .t (.bin .lss (.t 25) (.t 24)), none⟩]
def F52o10 : List AOper := [⟨some 27, .t (.iaddr 11 (.t 23) (.t 25)), none⟩,⟨some 28, .m (.load true 11 (.t 27)), none⟩,⟨some 7, .m (.alloc 47 [(.int .i64 0), (.str []), (.int .i64 0), (.int .i64 0), (.int .i64 0), (.int .i64 0), (.int .i64 0), .nils, .nils, .nils, .nils]), none⟩,⟨none, .m (.store 11 (.t 7) (.t 28)), none⟩]
def F52o11 : List AOper := [⟨some 29, .t (.mv (.t 3)), none⟩,⟨some 30, .t (.faddr 3 (.t 7)), none⟩,⟨some 31, .m (.load true 7 (.t 30)), none⟩,⟨some 32, .call (.c (.clo 52 [] [])) [(.t 31)], none⟩,⟨some 33, .t (.imax (.t 29) (.t 32)), none⟩,⟨some 3, .t (.mv (.t 33)), none⟩]
def F52o12 : List AOper := [⟨some 34, .t (.bin .add (.t 25) (.c (.int .i64 1))), none⟩,⟨some 25, .t (.mv (.t 34)), none⟩]
def F52b13 : ACode :=
(.seq (.ops F52o9 [3, 23, 24, 25, 26])
((.seq (.cond (.t 26)
(.skip)
(.exit 2))
((.seq (.block 3 ((.seq (.ops F52o10 [3, 7, 23, 24, 25])
(.ops F52o11 [3, 23, 24, 25]))))
(.ops F52o12 [3, 23, 24, 25]))))))
def F52o14 : List AOper := [⟨some 35, .t (.mv (.t 3)), none⟩,⟨some 2, .t (.mv (.t 35)), none⟩]
def F52c : ACode :=
(.seq (.ops F52o0 [1])
((.seq (.ops F52o1 [1, 3])
((.seq ((.seq (.ops F52o2 [1, 3, 11, 12, 13])
(.block 0 (.loop [1, 3, 11, 12, 13] F52b7))))
((.seq ((.seq (.ops F52o8 [3, 23, 24, 25])
(.block 2 (.loop [3, 23, 24, 25] F52b13))))
((.seq (.ops F52o14 [2])
(.ret))))))))))
def F52 : AFn := ⟨36, [.tmp 2], F52c⟩
theorem F52_ok : cFn Tryz.prog [] 52 = some F52 := by kernel_rfl
def F53o0 : List AOper := [⟨some 4, .t (.mv (.c (.bool false))), none⟩]
def F53o1 : List AOper := [⟨some 5, .t (.mv (.t 0)), none⟩,⟨some 6, .t (.mv (.t 1)), none⟩,⟨some 7, .call (.c (.clo 91 [] [])) [(.t 5), (.t 6)], none⟩,⟨some 8, .t (.bin .geq (.t 7) (.c (.int .i64 0))), none⟩,⟨some 4, .t (.mv (.t 8)), none⟩]
def F53c : ACode :=
(.seq (.ops F53o0 [0, 1])
((.seq (.ops F53o1 [4])
(.ret))))
def F53 : AFn := ⟨9, [.tmp 4], F53c⟩
theorem F53_ok : cFn Tryz.prog [] 53 = some F53 := by kernel_rfl
def F54o0 : List AOper := [⟨some 1, .m (.box 47 (.t 0)), none⟩,⟨some 2, .t (.mv (.c (.bool false))), none⟩]
def F54o1 : List AOper := [⟨some 3, .t (.faddr 3 (.t 1)), none⟩,⟨some 4, .t (.faddr 0 (.t 3)), none⟩,⟨some 5, .m (.load false 1 (.t 4)), none⟩,⟨some 6, .t (.bin .lss (.t 5) (.c (.int .i64 1))), none⟩,⟨some 7, .t (.mv (.t 6)), none⟩,⟨some 8, .t (.faddr 3 (.t 1)), (some (7, false))⟩,
  ⟨some 9, .t (.faddr 0 (.t 8)), (some (7, false))⟩,
  ⟨some 10, .m (.load false 1 (.t 9)), (some (7, false))⟩,
  ⟨some 11, .t (.bin .gtr (.t 10) (.c (.int .i64 7))), (some (7, false))⟩,
  ⟨some 12, .t (.pick (.t 7) (.c (.bool true)) (.t 11)), none⟩,⟨some 2, .t (.mv (.t 12)), none⟩]
def F54c : ACode :=
(.seq (.ops F54o0 [1])
((.seq (.ops F54o1 [2])
(.ret))))
def F54 : AFn := ⟨13, [.tmp 2], F54c⟩
theorem F54_ok : cFn Tryz.prog [] 54 = some F54 := by kernel_rfl
def F56o0 : List AOper := [⟨some 1, .m (.box 27 (.t 0)), none⟩,⟨some 2, .t (.mv (.c (.bool false))), none⟩]
def F56o1 : List AOper := [⟨some 5, .m (.load true 6 (.t 1)), none⟩,⟨some 3, .m (.alloc 27 [(.int .i64 0), (.int .i64 0), (.int .i64 0), (.str []), .nils, .nils]), none⟩,⟨none, .m (.store 6 (.t 3) (.t 5)), none⟩]
def F56o2 : List AOper := [⟨some 6, .t (.faddr 0 (.t 1)), none⟩,⟨some 7, .m (.load false 1 (.t 6)), none⟩]
def F56o3 : List AOper := [⟨some 9, .t (.bin .eql (.t 7) (.c (.int .i64 1))), none⟩,⟨some 8, .t (.mv (.t 9)), none⟩]
def F56o4 : List AOper := [⟨some 10, .t (.faddr 1 (.t 1)), none⟩,⟨some 11, .m (.load false 1 (.t 10)), none⟩,⟨some 12, .t (.bin .neq (.t 11) (.c (.int .i64 0))), none⟩,⟨some 13, .t (.mv (.t 12)), none⟩,⟨some 14, .t (.faddr 1 (.t 1)), (some (13, true))⟩,
  ⟨some 15, .m (.load false 1 (.t 14)), (some (13, true))⟩,
  ⟨some 16, .t (.bin .neq (.t 15) (.c (.int .i64 1))), (some (13, true))⟩,
  ⟨some 17, .t (.pick (.t 13) (.t 16) (.c (.bool false))), none⟩]
def F56o5 : List AOper := [⟨some 2, .t (.mv (.c (.bool false))), none⟩]
def F56o6 : List AOper := [⟨some 18, .t (.faddr 1 (.t 3)), none⟩,⟨none, .m (.store 1 (.t 18) (.c (.int .i64 0))), none⟩]
def F56o7 : List AOper := [⟨some 20, .t (.bin .eql (.t 7) (.c (.int .i64 2))), none⟩,⟨some 19, .t (.mv (.t 20)), none⟩]
def F56o8 : List AOper := [⟨some 21, .t (.bin .eql (.t 7) (.c (.int .i64 6))), none⟩,⟨some 19, .t (.mv (.t 21)), none⟩]
def F56o9 : List AOper := [⟨some 22, .t (.bin .eql (.t 7) (.c (.int .i64 7))), none⟩,⟨some 19, .t (.mv (.t 22)), none⟩]
def F56o10 : List AOper := [⟨some 23, .t (.faddr 1 (.t 3)), none⟩,⟨none, .m (.store 1 (.t 23) (.c (.int .i64 0))), none⟩]
def F56o11 : List AOper := [⟨some 25, .t (.bin .eql (.t 7) (.c (.int .i64 3))), none⟩,⟨some 24, .t (.mv (.t 25)), none⟩]
def F56o12 : List AOper := [⟨some 26, .t (.faddr 1 (.t 3)), none⟩,⟨none, .m (.store 1 (.t 26) (.c (.int .i64 0))), none⟩,⟨some 27, .t (.faddr 2 (.t 3)), none⟩,⟨none, .m (.store 1 (.t 27) (.c (.int .i64 0))), none⟩]
def F56o13 : List AOper := [⟨some 29, .t (.bin .eql (.t 7) (.c (.int .i64 4))), none⟩,⟨some 28, .t (.mv (.t 29)), none⟩]
def F56o14 : List AOper := [⟨some 30, .t (.faddr 3 (.t 1)), none⟩,⟨some 31, .m (.load false 1 (.t 30)), none⟩,⟨some 32, .call (.c (.clo 92 [] [])) [(.t 31)], none⟩,⟨some 33, .t (.not (.t 32)), none⟩]
def F56o15 : List AOper := [⟨some 2, .t (.mv (.c (.bool false))), none⟩]
def F56o16 : List AOper := [⟨some 34, .t (.faddr 3 (.t 3)), none⟩,⟨none, .m (.store 1 (.t 34) (.c (.str []))), none⟩]
def F56o17 : List AOper := [⟨some 36, .t (.bin .eql (.t 7) (.c (.int .i64 5))), none⟩,⟨some 35, .t (.mv (.t 36)), none⟩]
def F56o18 : List AOper := [⟨some 37, .t (.faddr 3 (.t 3)), none⟩,⟨none, .m (.store 1 (.t 37) (.c (.str []))), none⟩]
def F56o19 : List AOper := [⟨some 39, .t (.bin .eql (.t 7) (.c (.int .i64 8))), none⟩,⟨some 38, .t (.mv (.t 39)), none⟩]
def F56o20 : List AOper := [⟨some 40, .t (.faddr 4 (.t 3)), none⟩,⟨none, .m (.store 1 (.t 40) (.c .nils)), none⟩]
def F56o21 : List AOper := [⟨some 42, .t (.bin .eql (.t 7) (.c (.int .i64 9))), none⟩,⟨some 41, .t (.mv (.t 42)), none⟩]
def F56o22 : List AOper := [⟨some 4, .t (.mv (.c (.int .i64 1))), none⟩]
def F56o23 : List AOper := [⟨some 43, .t (.mv (.t 4)), none⟩,⟨some 44, .t (.faddr 5 (.t 1)), none⟩,⟨some 45, .m (.load false 1 (.t 44)), none⟩,⟨some 46, .t (.len false (.t 45)), none⟩,⟨some 47, .t (.bin .lss (.t 43) (.t 46)), none⟩]
def F56o24 : List AOper := [⟨some 50, .t (.faddr 5 (.t 1)), none⟩,⟨some 51, .m (.load false 1 (.t 50)), none⟩,⟨some 52, .t (.mv (.t 4)), none⟩,⟨some 53, .t (.bin .sub (.t 52) (.c (.int .i64 1))), none⟩,⟨some 54, .t (.iaddr 7 (.t 51) (.t 53)), none⟩,⟨some 55, .t (.faddr 0 (.t 54)), none⟩,⟨some 56, .m (.load false 1 (.t 55)), none⟩,⟨some 57, .t (.faddr 5 (.t 1)), none⟩,⟨some 58, .m (.load false 1 (.t 57)), none⟩,⟨some 59, .t (.mv (.t 4)), none⟩,⟨some 60, .t (.iaddr 7 (.t 58) (.t 59)), none⟩,⟨some 61, .t (.faddr 0 (.t 60)), none⟩,⟨some 62, .m (.load false 1 (.t 61)), none⟩]
def F56p24 : List AOper := [⟨some 63, .t (.bin .geq (.t 56) (.t 62)), none⟩]
def F56A24 : List (List Nat) := [[], [0], [], [2], [1, 3, 0, 2], [4, 1, 3, 0, 2], [5, 4, 1, 3, 0, 2], [], [7], [], [8, 9, 7], [10, 8, 9, 7], [11, 10, 8, 9, 7], [6, 12, 5, 4, 1, 3, 0, 2, 11, 10, 8, 9, 7]]
def F56o25 : List AOper := [⟨some 2, .t (.mv (.c (.bool false))), none⟩]
def F56o26 : List AOper := [⟨some 48, .t (.mv (.t 4)), none⟩,⟨some 49, .t (.bin .add (.t 48) (.c (.int .i64 1))), none⟩,⟨some 4, .t (.mv (.t 49)), none⟩]
def F56b27 : ACode :=
(.seq ((.seq (.ops F56o23 [1, 3, 4, 47])
(.cond (.t 47)
(.skip)
(.exit 1))))
((.seq (.block 2 ((.seq (.draw F56A24 F56o24 F56p24 [1, 3, 4, 63])
(.cond (.t 63)
((.seq (.ops F56o25 [2])
(.ret)))
(.skip)))))
(.ops F56o26 [1, 3, 4]))))
def F56o28 : List AOper := [⟨some 64, .t (.faddr 5 (.t 3)), none⟩,⟨none, .m (.store 1 (.t 64) (.c .nils)), none⟩]
def F56o29 : List AOper := [⟨some 66, .t (.bin .eql (.t 7) (.c (.int .i64 10))), none⟩,⟨some 65, .t (.mv (.t 66)), none⟩]
def F56o30 : List AOper := [⟨some 67, .t (.faddr 4 (.t 1)), none⟩,⟨some 68, .m (.load false 1 (.t 67)), none⟩,⟨some 69, .t (.len false (.t 68)), none⟩,⟨some 70, .t (.bin .neq (.t 69) (.c (.int .i64 1))), none⟩]
def F56o31 : List AOper := [⟨some 2, .t (.mv (.c (.bool false))), none⟩]
def F56o32 : List AOper := [⟨some 71, .t (.faddr 3 (.t 3)), none⟩,⟨none, .m (.store 1 (.t 71) (.c (.str []))), none⟩,⟨some 72, .t (.faddr 4 (.t 3)), none⟩,⟨none, .m (.store 1 (.t 72) (.c .nils)), none⟩]
def F56o33 : List AOper := [⟨some 73, .t (.faddr 1 (.t 3)), none⟩,⟨some 74, .m (.load false 1 (.t 73)), none⟩,⟨some 75, .t (.bin .eql (.t 74) (.c (.int .i64 0))), none⟩,⟨some 76, .t (.mv (.t 75)), none⟩,⟨some 77, .t (.faddr 2 (.t 3)), (some (76, true))⟩,
  ⟨some 78, .m (.load false 1 (.t 77)), (some (76, true))⟩,
  ⟨some 79, .t (.bin .eql (.t 78) (.c (.int .i64 0))), (some (76, true))⟩,
  ⟨some 80, .t (.pick (.t 76) (.t 79) (.c (.bool false))), none⟩,⟨some 81, .t (.mv (.t 80)), none⟩,⟨some 82, .t (.faddr 3 (.t 3)), (some (81, true))⟩,
  ⟨some 83, .m (.load false 1 (.t 82)), (some (81, true))⟩,
  ⟨some 84, .t (.bin .eql (.t 83) (.c (.str []))), (some (81, true))⟩,
  ⟨some 85, .t (.pick (.t 81) (.t 84) (.c (.bool false))), none⟩,⟨some 86, .t (.mv (.t 85)), none⟩,⟨some 87, .t (.faddr 4 (.t 3)), (some (86, true))⟩,
  ⟨some 88, .m (.load false 1 (.t 87)), (some (86, true))⟩,
  ⟨some 89, .t (.len false (.t 88)), (some (86, true))⟩,
  ⟨some 90, .t (.bin .eql (.t 89) (.c (.int .i64 0))), (some (86, true))⟩,
  ⟨some 91, .t (.pick (.t 86) (.t 90) (.c (.bool false))), none⟩,⟨some 92, .t (.mv (.t 91)), none⟩,⟨some 93, .t (.faddr 5 (.t 3)), (some (92, true))⟩,
  ⟨some 94, .m (.load false 1 (.t 93)), (some (92, true))⟩,
  ⟨some 95, .t (.len false (.t 94)), (some (92, true))⟩,
  ⟨some 96, .t (.bin .eql (.t 95) (.c (.int .i64 0))), (some (92, true))⟩,
  ⟨some 97, .t (.pick (.t 92) (.t 96) (.c (.bool false))), none⟩,⟨some 2, .t (.mv (.t 97)), none⟩]
def F56c : ACode :=
(.seq (.ops F56o0 [1])
((.seq (.ops F56o1 [1, 3])
((.seq ((.seq (.ops F56o2 [1, 3, 7])
(.block 0 ((.seq (.ops F56o3 [1, 3, 7, 8])
(.cond (.t 8)
((.seq ((.seq (.ops F56o4 [3, 17])
(.cond (.t 17)
((.seq (.ops F56o5 [2])
(.ret)))
(.skip))))
(.ops F56o6 [3])))
((.seq ((.seq (.ops F56o7 [1, 3, 7, 19])
(.cond (.t 19)
(.skip)
((.seq (.ops F56o8 [1, 3, 7, 19])
(.cond (.t 19)
(.skip)
(.ops F56o9 [1, 3, 7, 19])))))))
(.cond (.t 19)
(.ops F56o10 [3])
((.seq (.ops F56o11 [1, 3, 7, 24])
(.cond (.t 24)
(.ops F56o12 [3])
((.seq (.ops F56o13 [1, 3, 7, 28])
(.cond (.t 28)
((.seq ((.seq (.ops F56o14 [3, 33])
(.cond (.t 33)
((.seq (.ops F56o15 [2])
(.ret)))
(.skip))))
(.ops F56o16 [3])))
((.seq (.ops F56o17 [1, 3, 7, 35])
(.cond (.t 35)
(.ops F56o18 [3])
((.seq (.ops F56o19 [1, 3, 7, 38])
(.cond (.t 38)
(.ops F56o20 [3])
((.seq (.ops F56o21 [1, 3, 7, 41])
(.cond (.t 41)
((.seq ((.seq (.ops F56o22 [1, 3, 4])
(.block 1 (.loop [1, 3, 4] F56b27))))
(.ops F56o28 [3])))
((.seq (.ops F56o29 [1, 3, 65])
(.cond (.t 65)
((.seq ((.seq (.ops F56o30 [3, 70])
(.cond (.t 70)
((.seq (.ops F56o31 [2])
(.ret)))
(.skip))))
(.ops F56o32 [3])))
(.skip))))))))))))))))))))))))))))
((.seq (.ops F56o33 [2])
(.ret))))))))
def F56 : AFn := ⟨98, [.tmp 2], F56c⟩
theorem F56_ok : cFn Tryz.prog [] 56 = some F56 := by kernel_rfl
def F57o0 : List AOper := [⟨some 5, .m (.box 37 (.t 1)), none⟩]
def F57o1 : List AOper := [⟨some 8, .t (.mv (.t 3)), none⟩,⟨some 9, .t (.faddr 1 (.t 5)), none⟩,⟨some 10, .m (.load false 1 (.t 9)), none⟩,⟨some 11, .t (.bin .lss (.t 8) (.t 10)), none⟩,⟨some 12, .t (.mv (.t 11)), none⟩,⟨some 13, .t (.mv (.t 3)), (some (12, false))⟩,
  ⟨some 14, .t (.faddr 2 (.t 5)), (some (12, false))⟩,
  ⟨some 15, .m (.load false 1 (.t 14)), (some (12, false))⟩,
  ⟨some 16, .t (.bin .gtr (.t 13) (.t 15)), (some (12, false))⟩,
  ⟨some 17, .t (.pick (.t 12) (.c (.bool true)) (.t 16)), none⟩]
def F57o2 : List AOper := [⟨some 18, .t (.mv (.t 0)), none⟩,⟨some 19, .t (.mv (.t 2)), none⟩,⟨some 20, .call (.c (.clo 55 [] [])) [(.t 18), (.t 19), (.c (.int .i64 2))], none⟩]
def F57c : ACode :=
(.seq (.ops F57o0 [0, 2, 3, 5])
((.seq (.ops F57o1 [0, 2, 17])
(.cond (.t 17)
(.ops F57o2 [])
(.skip)))))
def F57 : AFn := ⟨21, [], F57c⟩
theorem F57_ok : cFn Tryz.prog [] 57 = some F57 := by kernel_rfl
def F60o0 : List AOper := [⟨some 5, .m (.box 37 (.t 1)), none⟩,⟨some 6, .m (.box 27 (.t 2)), none⟩]
def F60o1 : List AOper := [⟨some 16, .t (.faddr 6 (.t 5)), none⟩,⟨some 17, .m (.load false 1 (.t 16)), none⟩,⟨some 18, .t (.len false (.t 17)), none⟩,⟨some 19, .t (.mv (.c (.int .i64 0))), none⟩]
def F60o2 : List AOper := [⟨some 20, .t (.bin .lss (.t 19) (.t 18)), none⟩]
def F60o3 : List AOper := [⟨some 21, .t (.iaddr 11 (.t 17) (.t 19)), none⟩,⟨some 22, .m (.load true 11 (.t 21)), none⟩,⟨some 9, .m (.alloc 47 [(.int .i64 0), (.str []), (.int .i64 0), (.int .i64 0), (.int .i64 0), (.int .i64 0), (.int .i64 0), .nils, .nils, .nils, .nils]), none⟩,⟨none, .m (.store 11 (.t 9) (.t 22)), none⟩]
def F60o4 : List AOper := [⟨some 24, .m (.load true 6 (.t 6)), none⟩,⟨some 25, .t (.faddr 1 (.t 9)), none⟩,⟨some 26, .m (.load false 1 (.t 25)), none⟩,⟨some 27, .call (.c (.clo 14 [] [])) [(.t 24), (.t 26)], none⟩,⟨some 23, .t (.mv (.t 27)), none⟩,⟨some 28, .t (.ext (.t 23) 0), none⟩,⟨some 29, .t (.ext (.t 23) 1), none⟩,⟨some 10, .m (.alloc 27 [(.int .i64 0), (.int .i64 0), (.int .i64 0), (.str []), .nils, .nils]), none⟩,⟨none, .m (.store 6 (.t 10) (.t 28)), none⟩,⟨some 11, .t (.mv (.t 29)), none⟩]
def F60o5 : List AOper := [⟨some 30, .t (.mv (.t 11)), none⟩]
def F60o6 : List AOper := [⟨some 31, .t (.mv (.t 0)), none⟩,⟨some 32, .t (.faddr 3 (.t 9)), none⟩,⟨some 33, .m (.load true 7 (.t 32)), none⟩,⟨some 34, .m (.load true 6 (.t 10)), none⟩,⟨some 35, .t (.mv (.t 3)), none⟩,⟨some 36, .t (.faddr 1 (.t 9)), none⟩,⟨some 37, .m (.load false 1 (.t 36)), none⟩,⟨some 38, .call (.c (.clo 95 [] [])) [(.t 35), (.t 37)], none⟩]
def F60p6 : List AOper := [⟨some 39, .call (.c (.clo 26 [] [])) [(.t 31), (.t 33), (.t 34), (.t 38)], none⟩]
def F60A6 : List (List Nat) := [[], [], [1], [], [], [], [5], [4, 6, 5], [0, 2, 3, 7, 1, 4, 6, 5]]
def F60o7 : List AOper := [⟨some 40, .t (.faddr 2 (.t 9)), none⟩,⟨some 41, .m (.load false 1 (.t 40)), none⟩,⟨some 42, .t (.bin .neq (.t 41) (.c (.int .i64 2))), none⟩]
def F60o8 : List AOper := [⟨some 43, .t (.mv (.t 0)), none⟩,⟨some 44, .t (.mv (.t 3)), none⟩,⟨some 45, .t (.faddr 1 (.t 9)), none⟩,⟨some 46, .m (.load false 1 (.t 45)), none⟩,⟨some 47, .call (.c (.clo 95 [] [])) [(.t 44), (.t 46)], none⟩,⟨some 48, .call (.c (.clo 55 [] [])) [(.t 43), (.t 47), (.c (.int .i64 5))], none⟩]
def F60o9 : List AOper := [⟨some 49, .t (.bin .add (.t 19) (.c (.int .i64 1))), none⟩,⟨some 19, .t (.mv (.t 49)), none⟩]
def F60b10 : ACode :=
(.seq (.ops F60o2 [0, 3, 5, 6, 17, 18, 19, 20])
((.seq (.cond (.t 20)
(.skip)
(.exit 0))
((.seq (.block 1 ((.seq (.ops F60o3 [0, 3, 5, 6, 9, 17, 18, 19])
((.seq (.ops F60o4 [0, 3, 5, 6, 9, 10, 11, 17, 18, 19])
((.seq (.ops F60o5 [0, 3, 5, 6, 9, 10, 17, 18, 19, 30])
(.cond (.t 30)
(.draw F60A6 F60o6 F60p6 [0, 3, 5, 6, 17, 18, 19])
((.seq (.ops F60o7 [0, 3, 5, 6, 9, 17, 18, 19, 42])
(.cond (.t 42)
(.ops F60o8 [0, 3, 5, 6, 17, 18, 19])
(.skip))))))))))))
(.ops F60o9 [0, 3, 5, 6, 17, 18, 19]))))))
def F60o11 : List AOper := [⟨some 50, .t (.faddr 5 (.t 6)), none⟩,⟨some 51, .m (.load false 1 (.t 50)), none⟩,⟨some 52, .t (.len false (.t 51)), none⟩,⟨some 53, .t (.mv (.c (.int .i64 0))), none⟩]
def F60o12 : List AOper := [⟨some 54, .t (.bin .lss (.t 53) (.t 52)), none⟩]
def F60o13 : List AOper := [⟨some 55, .t (.iaddr 7 (.t 51) (.t 53)), none⟩,⟨some 56, .m (.load true 7 (.t 55)), none⟩,⟨some 13, .m (.alloc 29 [(.str []), (.int .i64 0), (.int .i64 0), (.int .i64 0), (.str []), .nils, .nils]), none⟩,⟨none, .m (.store 7 (.t 13) (.t 56)), none⟩]
def F60o14 : List AOper := [⟨some 58, .m (.load true 7 (.t 5)), none⟩,⟨some 59, .t (.faddr 0 (.t 13)), none⟩,⟨some 60, .m (.load false 1 (.t 59)), none⟩,⟨some 61, .call (.c (.clo 61 [] [])) [(.t 58), (.t 60)], none⟩,⟨some 57, .t (.mv (.t 61)), none⟩,⟨some 62, .t (.ext (.t 57) 0), none⟩,⟨some 63, .t (.ext (.t 57) 1), none⟩,⟨some 14, .m (.alloc 47 [(.int .i64 0), (.str []), (.int .i64 0), (.int .i64 0), (.int .i64 0), (.int .i64 0), (.int .i64 0), .nils, .nils, .nils, .nils]), none⟩,⟨none, .m (.store 11 (.t 14) (.t 62)), none⟩,⟨some 15, .t (.mv (.t 63)), none⟩]
def F60o15 : List AOper := [⟨some 64, .t (.mv (.t 15)), none⟩,⟨some 65, .t (.not (.t 64)), none⟩]
def F60o16 : List AOper := [⟨some 66, .t (.mv (.t 0)), none⟩,⟨some 67, .t (.mv (.t 3)), none⟩,⟨some 68, .t (.faddr 0 (.t 13)), none⟩,⟨some 69, .m (.load false 1 (.t 68)), none⟩,⟨some 70, .call (.c (.clo 95 [] [])) [(.t 67), (.t 69)], none⟩,⟨some 71, .call (.c (.clo 55 [] [])) [(.t 66), (.t 70), (.c (.int .i64 6))], none⟩]
def F60o17 : List AOper := [⟨some 72, .t (.bin .add (.t 53) (.c (.int .i64 1))), none⟩,⟨some 53, .t (.mv (.t 72)), none⟩]
def F60b18 : ACode :=
(.seq (.ops F60o12 [0, 3, 5, 51, 52, 53, 54])
((.seq (.cond (.t 54)
(.skip)
(.exit 2))
((.seq (.block 3 ((.seq (.ops F60o13 [0, 3, 5, 13, 51, 52, 53])
((.seq (.ops F60o14 [0, 3, 5, 13, 15, 51, 52, 53])
((.seq (.ops F60o15 [0, 3, 5, 13, 51, 52, 53, 65])
(.cond (.t 65)
(.ops F60o16 [0, 3, 5, 51, 52, 53])
(.skip)))))))))
(.ops F60o17 [0, 3, 5, 51, 52, 53]))))))
def F60c : ACode :=
(.seq (.ops F60o0 [0, 3, 5, 6])
((.seq ((.seq (.ops F60o1 [0, 3, 5, 6, 17, 18, 19])
(.block 0 (.loop [0, 3, 5, 6, 17, 18, 19] F60b10))))
((.seq (.ops F60o11 [0, 3, 5, 51, 52, 53])
(.block 2 (.loop [0, 3, 5, 51, 52, 53] F60b18)))))))
def F60 : AFn := ⟨73, [], F60c⟩
theorem F60_ok : cFn Tryz.prog [] 60 = some F60 := by kernel_rfl
def F61o0 : List AOper := [⟨some 2, .m (.box 37 (.t 0)), none⟩,⟨some 3, .m (.box 9 (.t 1)), none⟩,⟨some 4, .m (.alloc 47 [(.int .i64 0), (.str []), (.int .i64 0), (.int .i64 0), (.int .i64 0), (.int .i64 0), (.int .i64 0), .nils, .nils, .nils, .nils]), none⟩,⟨some 5, .t (.mv (.c (.bool false))), none⟩]
def F61o1 : List AOper := [⟨some 7, .t (.faddr 6 (.t 2)), none⟩,⟨some 8, .m (.load false 1 (.t 7)), none⟩,⟨some 9, .t (.clo 96 [] [(.t 3)]), none⟩,⟨some 10, .call (.c (.clo 91 [] [])) [(.t 8), (.t 9)], none⟩,⟨some 6, .t (.mv (.t 10)), none⟩]
def F61o2 : List AOper := [⟨some 11, .t (.mv (.t 6)), none⟩,⟨some 12, .t (.bin .lss (.t 11) (.c (.int .i64 0))), none⟩]
def F61o3 : List AOper := [⟨some 13, .t (.build [(.int .i64 0), (.str []), (.int .i64 0), (.int .i64 0), (.int .i64 0), (.int .i64 0), (.int .i64 0), .nils, .nils, .nils, .nils] []), none⟩,⟨none, .m (.store 11 (.t 4) (.t 13)), none⟩,⟨some 5, .t (.mv (.c (.bool false))), none⟩]
def F61o4 : List AOper := [⟨some 14, .t (.faddr 6 (.t 2)), none⟩,⟨some 15, .m (.load false 1 (.t 14)), none⟩,⟨some 16, .t (.mv (.t 6)), none⟩,⟨some 17, .t (.iaddr 11 (.t 15) (.t 16)), none⟩,⟨some 18, .m (.load true 11 (.t 17)), none⟩,⟨none, .m (.store 11 (.t 4) (.t 18)), none⟩,⟨some 5, .t (.mv (.c (.bool true))), none⟩]
def F61c : ACode :=
(.seq (.ops F61o0 [2, 3, 4])
((.seq (.ops F61o1 [2, 4, 6])
((.seq ((.seq (.ops F61o2 [2, 4, 6, 12])
(.cond (.t 12)
((.seq (.ops F61o3 [4, 5])
(.ret)))
(.skip))))
((.seq (.ops F61o4 [4, 5])
(.ret))))))))
def F61 : AFn := ⟨19, [.cell 4 true 11, .tmp 5], F61c⟩
theorem F61_ok : cFn Tryz.prog [] 61 = some F61 := by kernel_rfl
def F62o0 : List AOper := [⟨some 4, .t (.mv (.c (.int .i64 0))), none⟩]
def F62o1 : List AOper := [⟨some 6, .t (.mv (.t 0)), none⟩,⟨some 7, .t (.len false (.t 6)), none⟩,⟨some 8, .t (.mv (.c (.int .i64 0))), none⟩]
def F62o2 : List AOper := [⟨some 9, .t (.bin .lss (.t 8) (.t 7)), none⟩]
def F62o3 : List AOper := [⟨some 10, .t (.mv (.t 8)), none⟩,⟨some 5, .t (.mv (.t 10)), none⟩]
def F62o4 : List AOper := [⟨some 11, .t (.mv (.t 1)), none⟩,⟨some 12, .t (.mv (.t 0)), none⟩,⟨some 13, .t (.mv (.t 5)), none⟩,⟨some 14, .t (.iaddr 7 (.t 12) (.t 13)), none⟩,⟨some 15, .m (.load true 7 (.t 14)), none⟩,⟨some 16, .call (.t 11) [(.t 15)], none⟩]
def F62o5 : List AOper := [⟨some 17, .t (.mv (.t 5)), none⟩,⟨some 4, .t (.mv (.t 17)), none⟩]
def F62o6 : List AOper := [⟨some 18, .t (.bin .add (.t 8) (.c (.int .i64 1))), none⟩,⟨some 8, .t (.mv (.t 18)), none⟩]
def F62b7 : ACode :=
(.seq (.ops F62o2 [0, 1, 7, 8, 9])
((.seq (.cond (.t 9)
(.skip)
(.exit 0))
((.seq (.block 1 ((.seq (.ops F62o3 [0, 1, 5, 7, 8])
((.seq (.ops F62o4 [0, 1, 5, 7, 8, 16])
(.cond (.t 16)
((.seq (.ops F62o5 [4])
(.ret)))
(.skip)))))))
(.ops F62o6 [0, 1, 7, 8]))))))
def F62o8 : List AOper := [⟨some 4, .t (.mv (.c (.int .i64 (-1)))), none⟩]
def F62c : ACode :=
(.seq (.ops F62o0 [0, 1])
((.seq ((.seq (.ops F62o1 [0, 1, 7, 8])
(.block 0 (.loop [0, 1, 7, 8] F62b7))))
((.seq (.ops F62o8 [4])
(.ret))))))
def F62 : AFn := ⟨19, [.tmp 4], F62c⟩
theorem F62_ok : cFn Tryz.prog [] 62 = some F62 := by kernel_rfl
def F63o0 : List AOper := [⟨some 2, .m (.box 29 (.t 0)), none⟩,⟨some 3, .t (.mv (.c (.bool false))), none⟩]
def F63o1 : List AOper := [⟨some 4, .t (.faddr 0 (.t 2)), none⟩,⟨some 5, .m (.load false 1 (.t 4)), none⟩,⟨some 6, .m (.load false 1 (.t 1)), none⟩,⟨some 7, .t (.bin .eql (.t 5) (.t 6)), none⟩,⟨some 3, .t (.mv (.t 7)), none⟩]
def F63c : ACode :=
(.seq (.ops F63o0 [1, 2])
((.seq (.ops F63o1 [3])
(.ret))))
def F63 : AFn := ⟨8, [.tmp 3], F63c⟩
theorem F63_ok : cFn Tryz.prog [] 63 = some F63 := by kernel_rfl
def F65o0 : List AOper := [⟨some 1, .m (.box 74 (.t 0)), none⟩,⟨some 2, .t (.mv (.c (.int .i64 0))), none⟩]
def F65o1 : List AOper := [⟨some 3, .t (.faddr 0 (.t 1)), none⟩,⟨some 4, .m (.load false 1 (.t 3)), none⟩,⟨some 5, .call (.c (.clo 66 [] [])) [(.t 4)], none⟩,⟨some 6, .t (.bin .gtr (.t 5) (.c (.int .i64 999999999999999))), none⟩,⟨some 7, .t (.mv (.t 6)), none⟩,⟨some 8, .t (.faddr 0 (.t 1)), (some (7, false))⟩,
  ⟨some 9, .m (.load false 1 (.t 8)), (some (7, false))⟩,
  ⟨some 10, .t (.bin .lss (.t 9) (.c (.int .i64 (-999999999999999)))), (some (7, false))⟩,
  ⟨some 11, .t (.pick (.t 7) (.c (.bool true)) (.t 10)), none⟩,⟨some 12, .t (.mv (.t 11)), none⟩,⟨some 13, .t (.faddr 1 (.t 1)), (some (12, false))⟩,
  ⟨some 14, .m (.load false 1 (.t 13)), (some (12, false))⟩,
  ⟨some 15, .t (.bin .lss (.t 14) (.c (.int .i64 0))), (some (12, false))⟩,
  ⟨some 16, .t (.pick (.t 12) (.c (.bool true)) (.t 15)), none⟩,⟨some 17, .t (.mv (.t 16)), none⟩,⟨some 18, .t (.faddr 1 (.t 1)), (some (17, false))⟩,
  ⟨some 19, .m (.load false 1 (.t 18)), (some (17, false))⟩,
  ⟨some 20, .t (.bin .gtr (.t 19) (.c (.int .i64 12))), (some (17, false))⟩,
  ⟨some 21, .t (.pick (.t 17) (.c (.bool true)) (.t 20)), none⟩]
def F65o2 : List AOper := [⟨some 2, .t (.mv (.c (.int .i64 2))), none⟩]
def F65o3 : List AOper := [⟨some 2, .t (.mv (.c (.int .i64 0))), none⟩]
def F65c : ACode :=
(.seq (.ops F65o0 [1])
((.seq ((.seq (.ops F65o1 [21])
(.cond (.t 21)
((.seq (.ops F65o2 [2])
(.ret)))
(.skip))))
((.seq (.ops F65o3 [2])
(.ret))))))
def F65 : AFn := ⟨22, [.tmp 2], F65c⟩
theorem F65_ok : cFn Tryz.prog [] 65 = some F65 := by kernel_rfl
def F66o0 : List AOper := [⟨some 2, .t (.mv (.c (.int .i64 0))), none⟩]
def F66o1 : List AOper := [⟨some 3, .t (.mv (.t 0)), none⟩,⟨some 4, .t (.mv (.t 0)), none⟩,⟨some 5, .t (.neg (.t 4)), none⟩,⟨some 6, .t (.imax (.t 3) (.t 5)), none⟩,⟨some 2, .t (.mv (.t 6)), none⟩]
def F66c : ACode :=
(.seq (.ops F66o0 [0])
((.seq (.ops F66o1 [2])
(.ret))))
def F66 : AFn := ⟨7, [.tmp 2], F66c⟩
theorem F66_ok : cFn Tryz.prog [] 66 = some F66 := by kernel_rfl
def F67o0 : List AOper := [⟨some 4, .t (.mv (.c (.str []))), none⟩]
def F67o1 : List AOper := [⟨some 11, .t (.mv (.t 1)), none⟩]
def F67o2 : List AOper := [⟨some 13, .t (.bin .eql (.t 11) (.c (.int .i64 0))), none⟩,⟨some 12, .t (.mv (.t 13)), none⟩]
def F67o3 : List AOper := [⟨some 4, .t (.mv (.c (.str []))), none⟩]
def F67o4 : List AOper := [⟨some 15, .t (.bin .eql (.t 11) (.c (.int .i64 1))), none⟩,⟨some 14, .t (.mv (.t 15)), none⟩]
def F67o5 : List AOper := [⟨some 16, .t (.mv (.t 0)), none⟩,⟨some 4, .t (.mv (.t 16)), none⟩]
def F67o6 : List AOper := [⟨some 17, .t (.mv (.t 1)), none⟩,⟨some 18, .t (.bin .lss (.t 17) (.c (.int .i64 0))), none⟩]
def F67o7 : List AOper := [⟨some 19, .call (.c .undef) [], none⟩,⟨none, .call (.c .undef) [], none⟩]
def F67o8 : List AOper := [⟨some 21, .t (.mv (.t 0)), none⟩,⟨some 22, .t (.len true (.t 21)), none⟩,⟨some 23, .t (.conv .u64 (.t 22)), none⟩,⟨some 24, .t (.mv (.t 1)), none⟩,⟨some 25, .t (.conv .u64 (.t 24)), none⟩,⟨some 26, .call (.c (.clo 97 [] [])) [(.t 23), (.t 25)], none⟩,⟨some 20, .t (.mv (.t 26)), none⟩,⟨some 27, .t (.ext (.t 20) 0), none⟩,⟨some 28, .t (.ext (.t 20) 1), none⟩,⟨some 5, .t (.mv (.t 27)), none⟩,⟨some 6, .t (.mv (.t 28)), none⟩]
def F67o9 : List AOper := [⟨some 29, .t (.mv (.t 5)), none⟩,⟨some 30, .t (.bin .gtr (.t 29) (.c (.int .u64 0))), none⟩,⟨some 31, .t (.mv (.t 30)), none⟩,⟨some 32, .t (.mv (.t 6)), (some (31, false))⟩,
  ⟨some 33, .t (.bin .gtr (.t 32) (.c (.int .u64 9223372036854775807))), (some (31, false))⟩,
  ⟨some 34, .t (.pick (.t 31) (.c (.bool true)) (.t 33)), none⟩]
def F67o10 : List AOper := [⟨some 35, .call (.c .undef) [], none⟩,⟨none, .call (.c .undef) [], none⟩]
def F67o11 : List AOper := [⟨some 36, .t (.mv (.t 6)), none⟩,⟨some 37, .t (.conv .i64 (.t 36)), none⟩,⟨some 7, .t (.mv (.t 37)), none⟩]
def F67o12 : List AOper := [⟨some 38, .t (.mv (.t 0)), none⟩,⟨some 39, .t (.len true (.t 38)), none⟩,⟨some 40, .t (.bin .eql (.t 39) (.c (.int .i64 0))), none⟩]
def F67o13 : List AOper := [⟨some 4, .t (.mv (.c (.str []))), none⟩]
def F67o14 : List AOper := [⟨some 41, .t (.mv (.t 0)), none⟩,⟨some 42, .t (.index (.t 41) (.c (.int .i64 0))), none⟩]
def F67o15 : List AOper := [⟨some 44, .t (.bin .eql (.t 42) (.c (.int .u8 32))), none⟩,⟨some 43, .t (.mv (.t 44)), none⟩]
def F67o16 : List AOper := [⟨some 45, .t (.bin .eql (.t 42) (.c (.int .u8 45))), none⟩,⟨some 43, .t (.mv (.t 45)), none⟩]
def F67o17 : List AOper := [⟨some 46, .t (.bin .eql (.t 42) (.c (.int .u8 48))), none⟩,⟨some 43, .t (.mv (.t 46)), none⟩]
def F67o18 : List AOper := [⟨some 47, .t (.bin .eql (.t 42) (.c (.int .u8 61))), none⟩,⟨some 43, .t (.mv (.t 47)), none⟩]
def F67o19 : List AOper := [⟨some 48, .t (.bin .eql (.t 42) (.c (.int .u8 9))), none⟩,⟨some 43, .t (.mv (.t 48)), none⟩]
def F67o20 : List AOper := [⟨some 50, .t (.mv (.t 7)), none⟩,⟨some 51, .t (.bin .leq (.t 50) (.c (.int .i64 128))), none⟩,⟨some 52, .t (.mv (.t 51)), none⟩,⟨some 53, .t (.mv (.t 0)), (some (52, true))⟩,
  ⟨some 54, .call (.c (.clo 98 [] [])) [(.c (.str [32, 32, 32, 32, 32, 32, 32, 32, 32, 32, 32, 32, 32, 32, 32, 32, 32, 32, 32, 32, 32, 32, 32, 32, 32, 32, 32, 32, 32, 32, 32, 32, 32, 32, 32, 32, 32, 32, 32, 32, 32, 32, 32, 32, 32, 32, 32, 32, 32, 32, 32, 32, 32, 32, 32, 32, 32, 32, 32, 32, 32, 32, 32, 32, 32, 32, 32, 32, 32, 32, 32, 32, 32, 32, 32, 32, 32, 32, 32, 32, 32, 32, 32, 32, 32, 32, 32, 32, 32, 32, 32, 32, 32, 32, 32, 32, 32, 32, 32, 32, 32, 32, 32, 32, 32, 32, 32, 32, 32, 32, 32, 32, 32, 32, 32, 32, 32, 32, 32, 32, 32, 32, 32, 32, 32, 32, 32, 32])), (.t 53)], (some (52, true))⟩,
  ⟨some 55, .t (.pick (.t 52) (.t 54) (.c (.bool false))), none⟩,⟨some 49, .t (.mv (.t 55)), none⟩]
def F67o21 : List AOper := [⟨some 56, .t (.mv (.t 7)), none⟩,⟨some 57, .t (.sliceS (.c (.str [32, 32, 32, 32, 32, 32, 32, 32, 32, 32, 32, 32, 32, 32, 32, 32, 32, 32, 32, 32, 32, 32, 32, 32, 32, 32, 32, 32, 32, 32, 32, 32, 32, 32, 32, 32, 32, 32, 32, 32, 32, 32, 32, 32, 32, 32, 32, 32, 32, 32, 32, 32, 32, 32, 32, 32, 32, 32, 32, 32, 32, 32, 32, 32, 32, 32, 32, 32, 32, 32, 32, 32, 32, 32, 32, 32, 32, 32, 32, 32, 32, 32, 32, 32, 32, 32, 32, 32, 32, 32, 32, 32, 32, 32, 32, 32, 32, 32, 32, 32, 32, 32, 32, 32, 32, 32, 32, 32, 32, 32, 32, 32, 32, 32, 32, 32, 32, 32, 32, 32, 32, 32, 32, 32, 32, 32, 32, 32])) none (some (.t 56))), none⟩,⟨some 4, .t (.mv (.t 57)), none⟩]
def F67o22 : List AOper := [⟨some 59, .t (.mv (.t 7)), none⟩,⟨some 60, .t (.bin .leq (.t 59) (.c (.int .i64 128))), none⟩,⟨some 61, .t (.mv (.t 60)), none⟩,⟨some 62, .t (.mv (.t 0)), (some (61, true))⟩,
  ⟨some 63, .call (.c (.clo 98 [] [])) [(.c (.str [45, 45, 45, 45, 45, 45, 45, 45, 45, 45, 45, 45, 45, 45, 45, 45, 45, 45, 45, 45, 45, 45, 45, 45, 45, 45, 45, 45, 45, 45, 45, 45, 45, 45, 45, 45, 45, 45, 45, 45, 45, 45, 45, 45, 45, 45, 45, 45, 45, 45, 45, 45, 45, 45, 45, 45, 45, 45, 45, 45, 45, 45, 45, 45, 45, 45, 45, 45, 45, 45, 45, 45, 45, 45, 45, 45, 45, 45, 45, 45, 45, 45, 45, 45, 45, 45, 45, 45, 45, 45, 45, 45, 45, 45, 45, 45, 45, 45, 45, 45, 45, 45, 45, 45, 45, 45, 45, 45, 45, 45, 45, 45, 45, 45, 45, 45, 45, 45, 45, 45, 45, 45, 45, 45, 45, 45, 45, 45])), (.t 62)], (some (61, true))⟩,
  ⟨some 64, .t (.pick (.t 61) (.t 63) (.c (.bool false))), none⟩,⟨some 58, .t (.mv (.t 64)), none⟩]
def F67o23 : List AOper := [⟨some 65, .t (.mv (.t 7)), none⟩,⟨some 66, .t (.sliceS (.c (.str [45, 45, 45, 45, 45, 45, 45, 45, 45, 45, 45, 45, 45, 45, 45, 45, 45, 45, 45, 45, 45, 45, 45, 45, 45, 45, 45, 45, 45, 45, 45, 45, 45, 45, 45, 45, 45, 45, 45, 45, 45, 45, 45, 45, 45, 45, 45, 45, 45, 45, 45, 45, 45, 45, 45, 45, 45, 45, 45, 45, 45, 45, 45, 45, 45, 45, 45, 45, 45, 45, 45, 45, 45, 45, 45, 45, 45, 45, 45, 45, 45, 45, 45, 45, 45, 45, 45, 45, 45, 45, 45, 45, 45, 45, 45, 45, 45, 45, 45, 45, 45, 45, 45, 45, 45, 45, 45, 45, 45, 45, 45, 45, 45, 45, 45, 45, 45, 45, 45, 45, 45, 45, 45, 45, 45, 45, 45, 45])) none (some (.t 65))), none⟩,⟨some 4, .t (.mv (.t 66)), none⟩]
def F67o24 : List AOper := [⟨some 68, .t (.mv (.t 7)), none⟩,⟨some 69, .t (.bin .leq (.t 68) (.c (.int .i64 64))), none⟩,⟨some 70, .t (.mv (.t 69)), none⟩,⟨some 71, .t (.mv (.t 0)), (some (70, true))⟩,
  ⟨some 72, .call (.c (.clo 98 [] [])) [(.c (.str [48, 48, 48, 48, 48, 48, 48, 48, 48, 48, 48, 48, 48, 48, 48, 48, 48, 48, 48, 48, 48, 48, 48, 48, 48, 48, 48, 48, 48, 48, 48, 48, 48, 48, 48, 48, 48, 48, 48, 48, 48, 48, 48, 48, 48, 48, 48, 48, 48, 48, 48, 48, 48, 48, 48, 48, 48, 48, 48, 48, 48, 48, 48, 48])), (.t 71)], (some (70, true))⟩,
  ⟨some 73, .t (.pick (.t 70) (.t 72) (.c (.bool false))), none⟩,⟨some 67, .t (.mv (.t 73)), none⟩]
def F67o25 : List AOper := [⟨some 74, .t (.mv (.t 7)), none⟩,⟨some 75, .t (.sliceS (.c (.str [48, 48, 48, 48, 48, 48, 48, 48, 48, 48, 48, 48, 48, 48, 48, 48, 48, 48, 48, 48, 48, 48, 48, 48, 48, 48, 48, 48, 48, 48, 48, 48, 48, 48, 48, 48, 48, 48, 48, 48, 48, 48, 48, 48, 48, 48, 48, 48, 48, 48, 48, 48, 48, 48, 48, 48, 48, 48, 48, 48, 48, 48, 48, 48])) none (some (.t 74))), none⟩,⟨some 4, .t (.mv (.t 75)), none⟩]
def F67o26 : List AOper := [⟨some 77, .t (.mv (.t 7)), none⟩,⟨some 78, .t (.bin .leq (.t 77) (.c (.int .i64 128))), none⟩,⟨some 79, .t (.mv (.t 78)), none⟩,⟨some 80, .t (.mv (.t 0)), (some (79, true))⟩,
  ⟨some 81, .call (.c (.clo 98 [] [])) [(.c (.str [61, 61, 61, 61, 61, 61, 61, 61, 61, 61, 61, 61, 61, 61, 61, 61, 61, 61, 61, 61, 61, 61, 61, 61, 61, 61, 61, 61, 61, 61, 61, 61, 61, 61, 61, 61, 61, 61, 61, 61, 61, 61, 61, 61, 61, 61, 61, 61, 61, 61, 61, 61, 61, 61, 61, 61, 61, 61, 61, 61, 61, 61, 61, 61, 61, 61, 61, 61, 61, 61, 61, 61, 61, 61, 61, 61, 61, 61, 61, 61, 61, 61, 61, 61, 61, 61, 61, 61, 61, 61, 61, 61, 61, 61, 61, 61, 61, 61, 61, 61, 61, 61, 61, 61, 61, 61, 61, 61, 61, 61, 61, 61, 61, 61, 61, 61, 61, 61, 61, 61, 61, 61, 61, 61, 61, 61, 61, 61])), (.t 80)], (some (79, true))⟩,
  ⟨some 82, .t (.pick (.t 79) (.t 81) (.c (.bool false))), none⟩,⟨some 76, .t (.mv (.t 82)), none⟩]
def F67o27 : List AOper := [⟨some 83, .t (.mv (.t 7)), none⟩,⟨some 84, .t (.sliceS (.c (.str [61, 61, 61, 61, 61, 61, 61, 61, 61, 61, 61, 61, 61, 61, 61, 61, 61, 61, 61, 61, 61, 61, 61, 61, 61, 61, 61, 61, 61, 61, 61, 61, 61, 61, 61, 61, 61, 61, 61, 61, 61, 61, 61, 61, 61, 61, 61, 61, 61, 61, 61, 61, 61, 61, 61, 61, 61, 61, 61, 61, 61, 61, 61, 61, 61, 61, 61, 61, 61, 61, 61, 61, 61, 61, 61, 61, 61, 61, 61, 61, 61, 61, 61, 61, 61, 61, 61, 61, 61, 61, 61, 61, 61, 61, 61, 61, 61, 61, 61, 61, 61, 61, 61, 61, 61, 61, 61, 61, 61, 61, 61, 61, 61, 61, 61, 61, 61, 61, 61, 61, 61, 61, 61, 61, 61, 61, 61, 61])) none (some (.t 83))), none⟩,⟨some 4, .t (.mv (.t 84)), none⟩]
def F67o28 : List AOper := [⟨some 86, .t (.mv (.t 7)), none⟩,⟨some 87, .t (.bin .leq (.t 86) (.c (.int .i64 64))), none⟩,⟨some 88, .t (.mv (.t 87)), none⟩,⟨some 89, .t (.mv (.t 0)), (some (88, true))⟩,
  ⟨some 90, .call (.c (.clo 98 [] [])) [(.c (.str [9, 9, 9, 9, 9, 9, 9, 9, 9, 9, 9, 9, 9, 9, 9, 9, 9, 9, 9, 9, 9, 9, 9, 9, 9, 9, 9, 9, 9, 9, 9, 9, 9, 9, 9, 9, 9, 9, 9, 9, 9, 9, 9, 9, 9, 9, 9, 9, 9, 9, 9, 9, 9, 9, 9, 9, 9, 9, 9, 9, 9, 9, 9, 9])), (.t 89)], (some (88, true))⟩,
  ⟨some 91, .t (.pick (.t 88) (.t 90) (.c (.bool false))), none⟩,⟨some 85, .t (.mv (.t 91)), none⟩]
def F67o29 : List AOper := [⟨some 92, .t (.mv (.t 7)), none⟩,⟨some 93, .t (.sliceS (.c (.str [9, 9, 9, 9, 9, 9, 9, 9, 9, 9, 9, 9, 9, 9, 9, 9, 9, 9, 9, 9, 9, 9, 9, 9, 9, 9, 9, 9, 9, 9, 9, 9, 9, 9, 9, 9, 9, 9, 9, 9, 9, 9, 9, 9, 9, 9, 9, 9, 9, 9, 9, 9, 9, 9, 9, 9, 9, 9, 9, 9, 9, 9, 9, 9])) none (some (.t 92))), none⟩,⟨some 4, .t (.mv (.t 93)), none⟩]
def F67o30 : List AOper := [⟨some 94, .t (.mv (.t 7)), none⟩,⟨some 8, .t (.mv (.t 94)), none⟩]
def F67o31 : List AOper := [⟨some 95, .t (.mv (.t 7)), none⟩,⟨some 96, .t (.bin .gtr (.t 95) (.c (.int .i64 8192))), none⟩]
def F67o32 : List AOper := [⟨some 97, .t (.mv (.t 0)), none⟩,⟨some 98, .t (.len true (.t 97)), none⟩,⟨some 99, .t (.bin .quo (.c (.int .i64 8192)) (.t 98)), none⟩,⟨some 100, .t (.mv (.t 0)), none⟩,⟨some 101, .t (.len true (.t 100)), none⟩,⟨some 102, .t (.bin .mul (.t 99) (.t 101)), none⟩,⟨some 8, .t (.mv (.t 102)), none⟩]
def F67o33 : List AOper := [⟨some 103, .t (.mv (.t 8)), none⟩,⟨some 104, .t (.bin .eql (.t 103) (.c (.int .i64 0))), none⟩]
def F67o34 : List AOper := [⟨some 105, .t (.mv (.t 0)), none⟩,⟨some 106, .t (.len true (.t 105)), none⟩,⟨some 8, .t (.mv (.t 106)), none⟩]
def F67o35 : List AOper := [⟨some 9, .m (.alloc 78 [.nilp, .nils]), none⟩]
def F67o36 : List AOper := [⟨some 107, .t (.mv (.t 7)), none⟩,⟨some 108, .call (.c (.clo 99 [] [])) [(.t 9), (.t 107)], none⟩]
def F67o37 : List AOper := [⟨some 109, .t (.mv (.t 0)), none⟩,⟨some 110, .call (.c (.clo 36 [] [])) [(.t 9), (.t 109)], none⟩]
def F67o38 : List AOper := [⟨some 111, .call (.c (.clo 38 [] [])) [(.t 9)], none⟩,⟨some 112, .t (.mv (.t 7)), none⟩,⟨some 113, .t (.bin .lss (.t 111) (.t 112)), none⟩]
def F67o39 : List AOper := [⟨some 114, .t (.mv (.t 7)), none⟩,⟨some 115, .call (.c (.clo 38 [] [])) [(.t 9)], none⟩,⟨some 116, .t (.bin .sub (.t 114) (.t 115)), none⟩,⟨some 117, .call (.c (.clo 38 [] [])) [(.t 9)], none⟩,⟨some 118, .t (.mv (.t 8)), none⟩,⟨some 119, .call (.c .undef) [], none⟩,⟨some 10, .t (.mv (.t 119)), none⟩]
def F67o40 : List AOper := [⟨some 120, .call (.c (.clo 32 [] [])) [(.t 9)], none⟩,⟨some 121, .t (.mv (.t 10)), none⟩,⟨some 122, .t (.sliceS (.t 120) none (some (.t 121))), none⟩,⟨some 123, .call (.c (.clo 36 [] [])) [(.t 9), (.t 122)], none⟩]
def F67b41 : ACode :=
(.seq ((.seq (.ops F67o38 [7, 8, 9, 113])
(.cond (.t 113)
(.skip)
(.exit 3))))
(.block 4 ((.seq (.ops F67o39 [7, 8, 9, 10])
(.ops F67o40 [7, 8, 9])))))
def F67o42 : List AOper := [⟨some 124, .call (.c (.clo 32 [] [])) [(.t 9)], none⟩,⟨some 4, .t (.mv (.t 124)), none⟩]
def F67c : ACode :=
(.seq (.ops F67o0 [0, 1])
((.seq ((.seq (.ops F67o1 [0, 1, 11])
(.block 0 ((.seq (.ops F67o2 [0, 1, 11, 12])
(.cond (.t 12)
((.seq (.ops F67o3 [4])
(.ret)))
((.seq (.ops F67o4 [0, 1, 14])
(.cond (.t 14)
((.seq (.ops F67o5 [4])
(.ret)))
(.skip))))))))))
((.seq ((.seq (.ops F67o6 [0, 1, 18])
(.cond (.t 18)
(.ops F67o7 [0, 1])
(.skip))))
((.seq (.ops F67o8 [0, 5, 6])
((.seq ((.seq (.ops F67o9 [0, 6, 34])
(.cond (.t 34)
(.ops F67o10 [0, 6])
(.skip))))
((.seq (.ops F67o11 [0, 7])
((.seq ((.seq (.ops F67o12 [0, 7, 40])
(.cond (.t 40)
((.seq (.ops F67o13 [4])
(.ret)))
(.skip))))
((.seq ((.seq (.ops F67o14 [0, 7, 42])
(.block 1 ((.seq ((.seq (.ops F67o15 [0, 7, 42, 43])
(.cond (.t 43)
(.skip)
((.seq (.ops F67o16 [0, 7, 42, 43])
(.cond (.t 43)
(.skip)
((.seq (.ops F67o17 [0, 7, 42, 43])
(.cond (.t 43)
(.skip)
((.seq (.ops F67o18 [0, 7, 42, 43])
(.cond (.t 43)
(.skip)
(.ops F67o19 [0, 7, 43])))))))))))))
(.cond (.t 43)
(.block 2 ((.seq (.ops F67o20 [0, 7, 49])
(.cond (.t 49)
((.seq (.ops F67o21 [4])
(.ret)))
((.seq (.ops F67o22 [0, 7, 58])
(.cond (.t 58)
((.seq (.ops F67o23 [4])
(.ret)))
((.seq (.ops F67o24 [0, 7, 67])
(.cond (.t 67)
((.seq (.ops F67o25 [4])
(.ret)))
((.seq (.ops F67o26 [0, 7, 76])
(.cond (.t 76)
((.seq (.ops F67o27 [4])
(.ret)))
((.seq (.ops F67o28 [0, 7, 85])
(.cond (.t 85)
((.seq (.ops F67o29 [4])
(.ret)))
(.skip)))))))))))))))))
(.skip)))))))
((.seq (.ops F67o30 [0, 7, 8])
((.seq ((.seq (.ops F67o31 [0, 7, 8, 96])
(.cond (.t 96)
((.seq (.ops F67o32 [0, 7, 8])
((.seq (.ops F67o33 [0, 7, 8, 104])
(.cond (.t 104)
(.ops F67o34 [0, 7, 8])
(.skip))))))
(.skip))))
((.seq (.ops F67o35 [0, 7, 8, 9])
((.seq (.ops F67o36 [0, 7, 8, 9])
((.seq (.ops F67o37 [7, 8, 9])
((.seq (.block 3 (.loop [7, 8, 9] F67b41))
((.seq (.ops F67o42 [4])
(.ret))))))))))))))))))))))))))))))
def F67 : AFn := ⟨125, [.tmp 4], F67c⟩
theorem F67_ok : cFn Tryz.prog [] 67 = some F67 := by kernel_rfl
def F68o0 : List AOper := [⟨some 2, .t (.mv (.t 0)), none⟩,⟨some 3, .t (.nilck (.t 2)), none⟩,⟨some 4, .t (.faddr 0 (.t 3)), none⟩,⟨some 5, .m (.load false 1 (.t 4)), none⟩,⟨some 6, .t (.beq 1 false (.t 5) (.c .nilp)), none⟩]
def F68o1 : List AOper := [⟨some 7, .t (.mv (.t 0)), none⟩,⟨some 8, .t (.mv (.t 0)), none⟩,⟨some 9, .m (.xop (.ucast 0 0 false (.t 8))), none⟩,⟨some 10, .m (.xop (.noesc (.t 9))), none⟩,⟨some 11, .m (.xop (.ucast 78 2 true (.t 10))), none⟩,⟨some 12, .t (.nilck (.t 7)), none⟩,⟨some 13, .t (.faddr 0 (.t 12)), none⟩,⟨none, .m (.store 1 (.t 13) (.t 11)), none⟩]
def F68o2 : List AOper := [⟨some 14, .t (.mv (.t 0)), none⟩,⟨some 15, .t (.nilck (.t 14)), none⟩,⟨some 16, .t (.faddr 0 (.t 15)), none⟩,⟨some 17, .m (.load false 1 (.t 16)), none⟩,⟨some 18, .t (.mv (.t 0)), none⟩,⟨some 19, .m (.xop (.peq true (.t 17) (.t 18))), none⟩]
def F68o3 : List AOper := [⟨none, .call (.c .undef) [], none⟩]
def F68c : ACode :=
(.seq (.ops F68o0 [0, 6])
(.cond (.t 6)
(.ops F68o1 [])
((.seq (.ops F68o2 [19])
(.cond (.t 19)
(.ops F68o3 [])
(.skip))))))
def F68 : AFn := ⟨20, [], F68c⟩
theorem F68_ok : cFn Tryz.prog [19] 68 = some F68 := by kernel_rfl
def F69o0 : List AOper := [⟨some 2, .t (.mv (.c (.int .i64 0))), none⟩,⟨some 3, .t (.mv (.c (.int .i64 0))), none⟩,⟨some 4, .t (.mv (.c (.int .i64 0))), none⟩,⟨some 5, .t (.mv (.c (.int .i64 0))), none⟩]
def F69o1 : List AOper := [⟨some 7, .t (.mv (.t 0)), none⟩,⟨some 8, .call (.c (.clo 101 [] [])) [(.t 7), (.c (.int .i64 (-719162))), (.c (.int .i64 2932896))], none⟩,⟨some 9, .t (.not (.t 8)), none⟩]
def F69o2 : List AOper := [⟨some 2, .t (.mv (.c (.int .i64 0))), none⟩,⟨some 3, .t (.mv (.c (.int .i64 0))), none⟩,⟨some 4, .t (.mv (.c (.int .i64 0))), none⟩,⟨some 5, .t (.mv (.c (.int .i64 2))), none⟩]
def F69o3 : List AOper := [⟨some 10, .t (.mv (.t 0)), none⟩,⟨some 11, .t (.bin .sub (.t 10) (.c (.int .i64 (-719162)))), none⟩,⟨some 6, .t (.mv (.t 11)), none⟩]
def F69o4 : List AOper := [⟨some 12, .t (.mv (.t 6)), none⟩,⟨some 13, .t (.bin .quo (.t 12) (.c (.int .i64 365))), none⟩,⟨some 14, .t (.bin .add (.t 13) (.c (.int .i64 1))), none⟩,⟨some 15, .t (.imin (.t 14) (.c (.int .i64 9999))), none⟩,⟨some 2, .t (.mv (.t 15)), none⟩]
def F69o5 : List AOper := [⟨some 16, .t (.mv (.t 2)), none⟩,⟨some 17, .call (.c (.clo 102 [] [])) [(.t 16)], none⟩,⟨some 18, .t (.mv (.t 6)), none⟩,⟨some 19, .t (.bin .gtr (.t 17) (.t 18)), none⟩]
def F69o6 : List AOper := [⟨some 20, .t (.mv (.t 2)), none⟩,⟨some 21, .t (.bin .sub (.t 20) (.c (.int .i64 1))), none⟩,⟨some 2, .t (.mv (.t 21)), none⟩]
def F69b7 : ACode :=
(.seq ((.seq (.ops F69o5 [2, 6, 19])
(.cond (.t 19)
(.skip)
(.exit 0))))
(.block 1 (.ops F69o6 [2, 6])))
def F69o8 : List AOper := [⟨some 22, .t (.mv (.t 6)), none⟩,⟨some 23, .t (.mv (.t 2)), none⟩,⟨some 24, .call (.c (.clo 102 [] [])) [(.t 23)], none⟩,⟨some 25, .t (.bin .sub (.t 22) (.t 24)), none⟩,⟨some 6, .t (.mv (.t 25)), none⟩]
def F69o9 : List AOper := [⟨some 3, .t (.mv (.c (.int .i64 1))), none⟩]
def F69o10 : List AOper := [⟨some 26, .t (.mv (.t 6)), none⟩,⟨some 27, .t (.mv (.t 2)), none⟩,⟨some 28, .t (.mv (.t 3)), none⟩,⟨some 29, .call (.c (.clo 103 [] [])) [(.t 27), (.t 28)], none⟩,⟨some 30, .t (.bin .geq (.t 26) (.t 29)), none⟩]
def F69o11 : List AOper := [⟨some 33, .t (.mv (.t 6)), none⟩,⟨some 34, .t (.mv (.t 2)), none⟩,⟨some 35, .t (.mv (.t 3)), none⟩,⟨some 36, .call (.c (.clo 103 [] [])) [(.t 34), (.t 35)], none⟩,⟨some 37, .t (.bin .sub (.t 33) (.t 36)), none⟩,⟨some 6, .t (.mv (.t 37)), none⟩]
def F69o12 : List AOper := [⟨some 31, .t (.mv (.t 3)), none⟩,⟨some 32, .t (.bin .add (.t 31) (.c (.int .i64 1))), none⟩,⟨some 3, .t (.mv (.t 32)), none⟩]
def F69b13 : ACode :=
(.seq ((.seq (.ops F69o10 [2, 3, 6, 30])
(.cond (.t 30)
(.skip)
(.exit 2))))
((.seq (.block 3 (.ops F69o11 [2, 3, 6]))
(.ops F69o12 [2, 3, 6]))))
def F69o14 : List AOper := [⟨some 38, .t (.mv (.t 2)), none⟩,⟨some 39, .t (.mv (.t 3)), none⟩,⟨some 40, .t (.mv (.t 6)), none⟩,⟨some 41, .t (.bin .add (.t 40) (.c (.int .i64 1))), none⟩,⟨some 2, .t (.mv (.t 38)), none⟩,⟨some 3, .t (.mv (.t 39)), none⟩,⟨some 4, .t (.mv (.t 41)), none⟩,⟨some 5, .t (.mv (.c (.int .i64 0))), none⟩]
def F69c : ACode :=
(.seq (.ops F69o0 [0])
((.seq ((.seq (.ops F69o1 [0, 9])
(.cond (.t 9)
((.seq (.ops F69o2 [2, 3, 4, 5])
(.ret)))
(.skip))))
((.seq (.ops F69o3 [6])
((.seq (.ops F69o4 [2, 6])
((.seq (.block 0 (.loop [2, 6] F69b7))
((.seq (.ops F69o8 [2, 6])
((.seq ((.seq (.ops F69o9 [2, 3, 6])
(.block 2 (.loop [2, 3, 6] F69b13))))
((.seq (.ops F69o14 [2, 3, 4, 5])
(.ret))))))))))))))))
def F69 : AFn := ⟨42, [.tmp 2, .tmp 3, .tmp 4, .tmp 5], F69c⟩
theorem F69_ok : cFn Tryz.prog [] 69 = some F69 := by kernel_rfl
def F70o0 : List AOper := [⟨some 4, .t (.mv (.c (.str []))), none⟩]
def F70o1 : List AOper := [⟨some 6, .t (.mv (.t 0)), none⟩,⟨some 7, .call (.c (.clo 59 [] [])) [(.t 6)], none⟩,⟨some 5, .t (.mv (.t 7)), none⟩]
def F70o2 : List AOper := [⟨some 8, .t (.mv (.t 1)), none⟩,⟨some 9, .t (.mv (.t 5)), none⟩,⟨some 10, .t (.len true (.t 9)), none⟩,⟨some 11, .t (.bin .sub (.t 8) (.t 10)), none⟩,⟨some 12, .t (.imax (.c (.int .i64 0)) (.t 11)), none⟩,⟨some 13, .call (.c (.clo 67 [] [])) [(.c (.str [48])), (.t 12)], none⟩,⟨some 14, .t (.mv (.t 5)), none⟩,⟨some 15, .t (.bin .add (.t 13) (.t 14)), none⟩,⟨some 4, .t (.mv (.t 15)), none⟩]
def F70c : ACode :=
(.seq (.ops F70o0 [0, 1])
((.seq (.ops F70o1 [1, 5])
((.seq (.ops F70o2 [4])
(.ret))))))
def F70 : AFn := ⟨16, [.tmp 4], F70c⟩
theorem F70_ok : cFn Tryz.prog [] 70 = some F70 := by kernel_rfl
def F76o0 : List AOper := [⟨some 2, .t (.mv (.c .nilf)), none⟩]
def F76o1 : List AOper := [⟨some 5, .t (.mv (.t 0)), none⟩,⟨some 6, .t (.nilck (.t 5)), none⟩,⟨some 7, .t (.faddr 2 (.t 6)), none⟩,⟨some 8, .m (.load false 1 (.t 7)), none⟩,⟨some 3, .t (.mv (.t 8)), none⟩]
def F76o2 : List AOper := [⟨some 9, .t (.mv (.t 0)), none⟩,⟨some 10, .t (.nilck (.t 9)), none⟩,⟨some 11, .t (.faddr 2 (.t 10)), none⟩,⟨some 12, .m (.load false 1 (.t 11)), none⟩,⟨some 13, .t (.mv (.t 0)), none⟩,⟨some 14, .t (.nilck (.t 13)), none⟩,⟨some 15, .t (.faddr 0 (.t 14)), none⟩,⟨some 16, .m (.load false 1 (.t 15)), none⟩,⟨some 17, .t (.len true (.t 16)), none⟩,⟨some 18, .t (.bin .lss (.t 12) (.t 17)), none⟩,⟨some 19, .t (.mv (.t 18)), none⟩,⟨some 20, .t (.mv (.t 0)), (some (19, true))⟩,
  ⟨some 21, .t (.nilck (.t 20)), (some (19, true))⟩,
  ⟨some 22, .t (.faddr 0 (.t 21)), (some (19, true))⟩,
  ⟨some 23, .m (.load false 1 (.t 22)), (some (19, true))⟩,
  ⟨some 24, .t (.mv (.t 0)), (some (19, true))⟩,
  ⟨some 25, .t (.nilck (.t 24)), (some (19, true))⟩,
  ⟨some 26, .t (.faddr 2 (.t 25)), (some (19, true))⟩,
  ⟨some 27, .m (.load false 1 (.t 26)), (some (19, true))⟩,
  ⟨some 28, .t (.index (.t 23) (.t 27)), (some (19, true))⟩,
  ⟨some 29, .t (.mv (.t 0)), (some (19, true))⟩,
  ⟨some 30, .t (.nilck (.t 29)), (some (19, true))⟩,
  ⟨some 31, .t (.faddr 1 (.t 30)), (some (19, true))⟩,
  ⟨some 32, .m (.load false 1 (.t 31)), (some (19, true))⟩]
def F76p2 : List AOper := [⟨some 33, .t (.bin .neq (.t 28) (.t 32)), (some (19, true))⟩,
  ⟨some 34, .t (.pick (.t 19) (.t 33) (.c (.bool false))), none⟩]
def F76A2 : List (List Nat) := [[], [0], [1, 0], [2, 1, 0], [], [4], [5, 4], [6, 5, 4], [7, 6, 5, 4], [3, 8, 2, 1, 0, 7, 6, 5, 4], [9, 3, 8, 2, 1, 0, 7, 6, 5, 4], [10, 9, 3, 8, 2, 1, 0, 7, 6, 5, 4], [11, 10, 9, 3, 8, 2, 1, 0, 7, 6, 5, 4], [12, 11, 10, 9, 3, 8, 2, 1, 0, 7, 6, 5, 4], [13, 12, 11, 10, 9, 3, 8, 2, 1, 0, 7, 6, 5, 4], [10, 9, 3, 8, 2, 1, 0, 7, 6, 5, 4], [15, 10, 9, 3, 8, 2, 1, 0, 7, 6, 5, 4], [16, 15, 10, 9, 3, 8, 2, 1, 0, 7, 6, 5, 4], [17, 16, 15, 10, 9, 3, 8, 2, 1, 0, 7, 6, 5, 4], [14, 18, 13, 12, 11, 17, 16, 15, 10, 9, 3, 8, 2, 1, 0, 7, 6, 5, 4], [10, 9, 3, 8, 2, 1, 0, 7, 6, 5, 4], [20, 10, 9, 3, 8, 2, 1, 0, 7, 6, 5, 4], [21, 20, 10, 9, 3, 8, 2, 1, 0, 7, 6, 5, 4], [22, 21, 20, 10, 9, 3, 8, 2, 1, 0, 7, 6, 5, 4], [19, 23, 14, 18, 13, 12, 11, 17, 16, 15, 22, 21, 20, 10, 9, 3, 8, 2, 1, 0, 7, 6, 5, 4], [24, 19, 23, 14, 18, 13, 12, 11, 17, 16, 15, 22, 21, 20, 10, 9, 3, 8, 2, 1, 0, 7, 6, 5, 4]]
def F76o3 : List AOper := [⟨some 35, .t (.mv (.t 0)), none⟩,⟨some 36, .t (.nilck (.t 35)), none⟩,⟨some 37, .t (.faddr 0 (.t 36)), none⟩,⟨some 38, .m (.load false 1 (.t 37)), none⟩,⟨some 39, .t (.mv (.t 0)), none⟩,⟨some 40, .t (.nilck (.t 39)), none⟩,⟨some 41, .t (.faddr 2 (.t 40)), none⟩,⟨some 42, .m (.load false 1 (.t 41)), none⟩]
def F76p3 : List AOper := [⟨some 43, .t (.index (.t 38) (.t 42)), none⟩,⟨some 4, .t (.mv (.t 43)), none⟩]
def F76A3 : List (List Nat) := [[], [0], [1, 0], [2, 1, 0], [], [4], [5, 4], [6, 5, 4], [3, 7, 2, 1, 0, 6, 5, 4], [8, 3, 7, 2, 1, 0, 6, 5, 4]]
def F76o4 : List AOper := [⟨some 44, .t (.mv (.t 4)), none⟩,⟨some 45, .t (.bin .eql (.t 44) (.c (.int .u8 34))), none⟩,⟨some 46, .t (.mv (.t 45)), none⟩,⟨some 47, .t (.mv (.t 4)), (some (46, false))⟩,
  ⟨some 48, .t (.bin .eql (.t 47) (.c (.int .u8 13))), (some (46, false))⟩,
  ⟨some 49, .t (.pick (.t 46) (.c (.bool true)) (.t 48)), none⟩,⟨some 50, .t (.mv (.t 49)), none⟩,⟨some 51, .t (.mv (.t 4)), (some (50, false))⟩,
  ⟨some 52, .t (.bin .eql (.t 51) (.c (.int .u8 10))), (some (50, false))⟩,
  ⟨some 53, .t (.pick (.t 50) (.c (.bool true)) (.t 52)), none⟩]
def F76o5 : List AOper := [⟨some 54, .t (.mv (.t 0)), none⟩,⟨some 55, .t (.mv (.t 0)), none⟩,⟨some 56, .t (.nilck (.t 55)), none⟩,⟨some 57, .t (.faddr 2 (.t 56)), none⟩,⟨some 58, .m (.load false 1 (.t 57)), none⟩,⟨some 59, .call (.c (.clo 74 [] [])) [(.t 54), (.t 58), (.c (.int .i64 6))], none⟩,⟨some 2, .t (.mv (.t 59)), none⟩]
def F76o6 : List AOper := [⟨some 60, .t (.mv (.t 0)), none⟩,⟨some 61, .t (.nilck (.t 60)), none⟩,⟨some 62, .t (.faddr 2 (.t 61)), none⟩,⟨some 63, .m (.load false 1 (.t 62)), none⟩,⟨some 64, .t (.bin .add (.t 63) (.c (.int .i64 1))), none⟩,⟨some 65, .t (.nilck (.t 60)), none⟩,⟨some 66, .t (.faddr 2 (.t 65)), none⟩,⟨none, .m (.store 1 (.t 66) (.t 64)), none⟩]
def F76b7 : ACode :=
(.seq ((.seq (.draw F76A2 F76o2 F76p2 [0, 3, 34])
(.cond (.t 34)
(.skip)
(.exit 0))))
(.block 1 ((.seq ((.seq (.draw F76A3 F76o3 F76p3 [0, 3, 4])
((.seq (.ops F76o4 [0, 3, 53])
(.cond (.t 53)
((.seq (.ops F76o5 [2])
(.ret)))
(.skip))))))
(.ops F76o6 [0, 3])))))
def F76o8 : List AOper := [⟨some 67, .t (.mv (.t 0)), none⟩,⟨some 68, .t (.mv (.t 0)), none⟩,⟨some 69, .t (.nilck (.t 68)), none⟩,⟨some 70, .t (.faddr 3 (.t 69)), none⟩,⟨some 71, .m (.load false 1 (.t 70)), none⟩,⟨some 72, .t (.mv (.t 0)), none⟩,⟨some 73, .t (.nilck (.t 72)), none⟩,⟨some 74, .t (.faddr 0 (.t 73)), none⟩,⟨some 75, .m (.load false 1 (.t 74)), none⟩,⟨some 76, .t (.mv (.t 3)), none⟩,⟨some 77, .t (.mv (.t 0)), none⟩,⟨some 78, .t (.nilck (.t 77)), none⟩,⟨some 79, .t (.faddr 2 (.t 78)), none⟩,⟨some 80, .m (.load false 1 (.t 79)), none⟩,⟨some 81, .t (.sliceS (.t 75) (some (.t 76)) (some (.t 80))), none⟩,⟨some 82, .t (.build [(.str []), (.bool false)] [(0, 1, (.t 81))]), none⟩,⟨some 83, .m (.bslice false 49 2 1 [(.t 82)]), none⟩,⟨some 84, .m (.append false 49 2 24 (.t 71) (.t 83)), none⟩]
def F76p8 : List AOper := [⟨some 85, .t (.nilck (.t 67)), none⟩,⟨some 86, .t (.faddr 3 (.t 85)), none⟩,⟨none, .m (.store 1 (.t 86) (.t 84)), none⟩]
def F76A8 : List (List Nat) := [[], [], [1], [2, 1], [3, 2, 1], [], [5], [6, 5], [7, 6, 5], [], [], [10], [11, 10], [12, 11, 10], [8, 9, 13, 7, 6, 5, 12, 11, 10], [14, 8, 9, 13, 7, 6, 5, 12, 11, 10], [15, 14, 8, 9, 13, 7, 6, 5, 12, 11, 10], [4, 16, 3, 2, 1, 15, 14, 8, 9, 13, 7, 6, 5, 12, 11, 10], [0, 17, 4, 16, 3, 2, 1, 15, 14, 8, 9, 13, 7, 6, 5, 12, 11, 10], [18, 0, 17, 4, 16, 3, 2, 1, 15, 14, 8, 9, 13, 7, 6, 5, 12, 11, 10], [19, 18, 0, 17, 4, 16, 3, 2, 1, 15, 14, 8, 9, 13, 7, 6, 5, 12, 11, 10]]
def F76o9 : List AOper := [⟨some 2, .t (.mv (.c (.clo 111 [] []))), none⟩]
def F76c : ACode :=
(.seq (.ops F76o0 [0])
((.seq (.ops F76o1 [0, 3])
((.seq (.block 0 (.loop [0, 3] F76b7))
((.seq (.draw F76A8 F76o8 F76p8 [])
((.seq (.ops F76o9 [2])
(.ret))))))))))
def F76 : AFn := ⟨87, [.tmp 2], F76c⟩
theorem F76_ok : cFn Tryz.prog [] 76 = some F76 := by kernel_rfl
def F77o0 : List AOper := [⟨some 4, .t (.mv (.c (.str []))), none⟩,⟨some 5, .t (.mv (.c (.str []))), none⟩,⟨some 6, .t (.mv (.c (.bool false))), none⟩]
def F77o1 : List AOper := [⟨some 7, .t (.mv (.t 0)), none⟩,⟨some 8, .t (.mv (.t 1)), none⟩,⟨some 9, .call (.c (.clo 112 [] [])) [(.t 7), (.t 8)], none⟩,⟨some 10, .t (.ext (.t 9) 0), none⟩,⟨some 11, .t (.ext (.t 9) 1), none⟩,⟨some 12, .t (.ext (.t 9) 2), none⟩,⟨some 4, .t (.mv (.t 10)), none⟩,⟨some 5, .t (.mv (.t 11)), none⟩,⟨some 6, .t (.mv (.t 12)), none⟩]
def F77c : ACode :=
(.seq (.ops F77o0 [0, 1])
((.seq (.ops F77o1 [4, 5, 6])
(.ret))))
def F77 : AFn := ⟨13, [.tmp 4, .tmp 5, .tmp 6], F77c⟩
theorem F77_ok : cFn Tryz.prog [] 77 = some F77 := by kernel_rfl
def F78o0 : List AOper := [⟨some 2, .t (.mv (.c (.int .i64 0))), none⟩,⟨some 3, .t (.mv (.c .nili)), none⟩]
def F78o1 : List AOper := [⟨some 7, .t (.mv (.t 0)), none⟩,⟨some 8, .call (.c (.clo 113 [] [])) [(.t 7)], none⟩,⟨some 6, .t (.mv (.t 8)), none⟩,⟨some 9, .t (.ext (.t 6) 0), none⟩,⟨some 10, .t (.ext (.t 6) 1), none⟩,⟨some 4, .t (.mv (.t 9)), none⟩,⟨some 5, .t (.mv (.t 10)), none⟩]
def F78o2 : List AOper := [⟨some 11, .t (.mv (.t 5)), none⟩,⟨some 12, .m (.xop (.inil true (.t 11) (.c .nili))), none⟩]
def F78o3 : List AOper := [⟨some 13, .t (.mv (.t 4)), none⟩,⟨some 14, .t (.mv (.t 0)), none⟩,⟨some 15, .t (.mv (.t 5)), none⟩,⟨some 16, .call (.c (.clo 114 [] [])) [(.c (.str [65, 116, 111, 105])), (.t 14), (.c (.int .i64 0)), (.c (.int .i64 0)), (.t 15)], none⟩,⟨some 2, .t (.mv (.t 13)), none⟩,⟨some 3, .t (.mv (.t 16)), none⟩]
def F78o4 : List AOper := [⟨some 17, .t (.mv (.t 4)), none⟩,⟨some 2, .t (.mv (.t 17)), none⟩,⟨some 3, .t (.mv (.c .nili)), none⟩]
def F78c : ACode :=
(.seq (.ops F78o0 [0])
((.seq (.ops F78o1 [0, 4, 5])
((.seq ((.seq (.ops F78o2 [0, 4, 5, 12])
(.cond (.t 12)
((.seq (.ops F78o3 [2, 3])
(.ret)))
(.skip))))
((.seq (.ops F78o4 [2, 3])
(.ret))))))))
def F78 : AFn := ⟨18, [.tmp 2, .tmp 3], F78c⟩
theorem F78_ok : cFn Tryz.prog [12] 78 = some F78 := by kernel_rfl
def F79o0 : List AOper := [⟨some 6, .t (.mv (.c .nils)), none⟩,⟨some 7, .t (.mv (.c (.str []))), none⟩,⟨some 8, .t (.mv (.c (.bool false))), none⟩]
def F79o1 : List AOper := [⟨some 12, .t (.mv (.t 0)), none⟩,⟨some 7, .t (.mv (.t 12)), none⟩]
def F79o2 : List AOper := [⟨some 13, .t (.mv (.t 1)), none⟩,⟨some 14, .t (.len false (.t 13)), none⟩,⟨some 15, .t (.mv (.c (.int .i64 0))), none⟩]
def F79o3 : List AOper := [⟨some 16, .t (.bin .lss (.t 15) (.t 14)), none⟩]
def F79o4 : List AOper := [⟨some 17, .t (.mv (.t 15)), none⟩,⟨some 18, .t (.iaddr 1 (.t 13) (.t 15)), none⟩,⟨some 19, .m (.load false 1 (.t 18)), none⟩,⟨some 9, .t (.mv (.t 17)), none⟩,⟨some 10, .t (.mv (.t 19)), none⟩]
def F79o5 : List AOper := [⟨some 21, .t (.mv (.t 7)), none⟩,⟨some 22, .t (.mv (.t 10)), none⟩,⟨some 23, .call (.c (.clo 81 [] [])) [(.t 21), (.t 22)], none⟩,⟨some 20, .t (.mv (.t 23)), none⟩,⟨some 24, .t (.ext (.t 20) 0), none⟩,⟨some 25, .t (.ext (.t 20) 1), none⟩,⟨some 7, .t (.mv (.t 24)), none⟩,⟨some 8, .t (.mv (.t 25)), none⟩]
def F79o6 : List AOper := [⟨some 26, .t (.mv (.t 8)), none⟩,⟨some 27, .t (.not (.t 26)), none⟩]
def F79o7 : List AOper := [⟨some 28, .t (.mv (.t 0)), none⟩,⟨some 6, .t (.mv (.c .nils)), none⟩,⟨some 7, .t (.mv (.t 28)), none⟩,⟨some 8, .t (.mv (.c (.bool false))), none⟩]
def F79o8 : List AOper := [⟨some 11, .t (.mv (.c (.int .i64 0))), none⟩]
def F79o9 : List AOper := [⟨some 30, .t (.mv (.t 7)), none⟩,⟨some 31, .t (.mv (.t 2)), none⟩,⟨some 32, .t (.mv (.t 9)), none⟩,⟨some 33, .t (.iaddr 1 (.t 31) (.t 32)), none⟩,⟨some 34, .m (.load false 1 (.t 33)), none⟩,⟨some 35, .call (.c (.clo 82 [] [])) [(.t 30), (.t 34)], none⟩,⟨some 29, .t (.mv (.t 35)), none⟩,⟨some 36, .t (.ext (.t 29) 0), none⟩,⟨some 37, .t (.ext (.t 29) 1), none⟩,⟨some 38, .t (.ext (.t 29) 2), none⟩,⟨some 11, .t (.mv (.t 36)), none⟩,⟨some 7, .t (.mv (.t 37)), none⟩,⟨some 8, .t (.mv (.t 38)), none⟩]
def F79o10 : List AOper := [⟨some 39, .t (.mv (.t 8)), none⟩,⟨some 40, .t (.not (.t 39)), none⟩]
def F79o11 : List AOper := [⟨some 41, .t (.mv (.t 0)), none⟩,⟨some 6, .t (.mv (.c .nils)), none⟩,⟨some 7, .t (.mv (.t 41)), none⟩,⟨some 8, .t (.mv (.c (.bool false))), none⟩]
def F79o12 : List AOper := [⟨some 42, .t (.mv (.t 6)), none⟩,⟨some 43, .t (.mv (.t 11)), none⟩,⟨some 44, .m (.bslice false 3 1 1 [(.t 43)]), none⟩,⟨some 45, .m (.append false 3 1 8 (.t 42) (.t 44)), none⟩,⟨some 6, .t (.mv (.t 45)), none⟩]
def F79o13 : List AOper := [⟨some 46, .t (.bin .add (.t 15) (.c (.int .i64 1))), none⟩,⟨some 15, .t (.mv (.t 46)), none⟩]
def F79b14 : ACode :=
(.seq (.ops F79o3 [0, 2, 6, 7, 13, 14, 15, 16])
((.seq (.cond (.t 16)
(.skip)
(.exit 0))
((.seq (.block 1 ((.seq (.ops F79o4 [0, 2, 6, 7, 9, 10, 13, 14, 15])
((.seq ((.seq (.ops F79o5 [0, 2, 6, 7, 8, 9, 13, 14, 15])
((.seq (.ops F79o6 [0, 2, 6, 7, 9, 13, 14, 15, 27])
(.cond (.t 27)
((.seq (.ops F79o7 [6, 7, 8])
(.ret)))
(.skip))))))
((.seq (.ops F79o8 [0, 2, 6, 7, 9, 13, 14, 15])
((.seq ((.seq (.ops F79o9 [0, 2, 6, 7, 8, 11, 13, 14, 15])
((.seq (.ops F79o10 [0, 2, 6, 7, 11, 13, 14, 15, 40])
(.cond (.t 40)
((.seq (.ops F79o11 [6, 7, 8])
(.ret)))
(.skip))))))
(.ops F79o12 [0, 2, 6, 7, 13, 14, 15]))))))))))
(.ops F79o13 [0, 2, 6, 7, 13, 14, 15]))))))
def F79o15 : List AOper := [⟨some 47, .t (.mv (.t 6)), none⟩,⟨some 48, .t (.mv (.t 7)), none⟩,⟨some 6, .t (.mv (.t 47)), none⟩,⟨some 7, .t (.mv (.t 48)), none⟩,⟨some 8, .t (.mv (.c (.bool true))), none⟩]
def F79c : ACode :=
(.seq (.ops F79o0 [0, 1, 2, 6])
((.seq (.ops F79o1 [0, 1, 2, 6, 7])
((.seq ((.seq (.ops F79o2 [0, 2, 6, 7, 13, 14, 15])
(.block 0 (.loop [0, 2, 6, 7, 13, 14, 15] F79b14))))
((.seq (.ops F79o15 [6, 7, 8])
(.ret))))))))
def F79 : AFn := ⟨49, [.tmp 6, .tmp 7, .tmp 8], F79c⟩
theorem F79_ok : cFn Tryz.prog [] 79 = some F79 := by kernel_rfl
def F80o0 : List AOper := [⟨some 6, .t (.mv (.c (.int .i64 0))), none⟩,⟨some 7, .t (.mv (.c (.int .i64 0))), none⟩]
def F80o1 : List AOper := [⟨some 13, .t (.mv (.t 0)), none⟩,⟨some 14, .t (.mv (.t 1)), none⟩,⟨some 15, .call (.c (.clo 115 [] [])) [(.t 13), (.t 14)], none⟩,⟨some 12, .t (.mv (.t 15)), none⟩,⟨some 16, .t (.ext (.t 12) 0), none⟩,⟨some 17, .t (.ext (.t 12) 1), none⟩,⟨some 8, .t (.mv (.t 16)), none⟩,⟨some 9, .t (.mv (.t 17)), none⟩]
def F80o2 : List AOper := [⟨some 18, .t (.mv (.t 9)), none⟩,⟨some 19, .t (.bin .neq (.t 18) (.c (.int .i64 0))), none⟩,⟨some 20, .t (.mv (.t 19)), none⟩,⟨some 21, .t (.mv (.t 2)), (some (20, false))⟩,
  ⟨some 22, .t (.mv (.t 8)), (some (20, false))⟩,
  ⟨some 23, .call (.c (.clo 101 [] [])) [(.t 21), (.c (.int .i64 1)), (.t 22)], (some (20, false))⟩,
  ⟨some 24, .t (.not (.t 23)), (some (20, false))⟩,
  ⟨some 25, .t (.pick (.t 20) (.c (.bool true)) (.t 24)), none⟩]
def F80o3 : List AOper := [⟨some 6, .t (.mv (.c (.int .i64 0))), none⟩,⟨some 7, .t (.mv (.c (.int .i64 17))), none⟩]
def F80o4 : List AOper := [⟨some 26, .t (.mv (.t 0)), none⟩,⟨some 27, .call (.c (.clo 102 [] [])) [(.t 26)], none⟩,⟨some 28, .t (.bin .add (.c (.int .i64 (-719162))) (.t 27)), none⟩,⟨some 29, .t (.mv (.t 2)), none⟩,⟨some 30, .t (.bin .add (.t 28) (.t 29)), none⟩,⟨some 31, .t (.bin .sub (.t 30) (.c (.int .i64 1))), none⟩,⟨some 10, .t (.mv (.t 31)), none⟩]
def F80o5 : List AOper := [⟨some 11, .t (.mv (.c (.int .i64 1))), none⟩]
def F80o6 : List AOper := [⟨some 32, .t (.mv (.t 11)), none⟩,⟨some 33, .t (.mv (.t 1)), none⟩,⟨some 34, .t (.bin .lss (.t 32) (.t 33)), none⟩]
def F80o7 : List AOper := [⟨some 37, .t (.mv (.t 10)), none⟩,⟨some 38, .t (.mv (.t 0)), none⟩,⟨some 39, .t (.mv (.t 11)), none⟩,⟨some 40, .call (.c (.clo 103 [] [])) [(.t 38), (.t 39)], none⟩,⟨some 41, .t (.bin .add (.t 37) (.t 40)), none⟩,⟨some 10, .t (.mv (.t 41)), none⟩]
def F80o8 : List AOper := [⟨some 35, .t (.mv (.t 11)), none⟩,⟨some 36, .t (.bin .add (.t 35) (.c (.int .i64 1))), none⟩,⟨some 11, .t (.mv (.t 36)), none⟩]
def F80b9 : ACode :=
(.seq ((.seq (.ops F80o6 [0, 1, 10, 11, 34])
(.cond (.t 34)
(.skip)
(.exit 0))))
((.seq (.block 1 (.ops F80o7 [0, 1, 10, 11]))
(.ops F80o8 [0, 1, 10, 11]))))
def F80o10 : List AOper := [⟨some 42, .t (.mv (.t 10)), none⟩,⟨some 6, .t (.mv (.t 42)), none⟩,⟨some 7, .t (.mv (.c (.int .i64 0))), none⟩]
def F80c : ACode :=
(.seq (.ops F80o0 [0, 1, 2])
((.seq (.ops F80o1 [0, 1, 2, 8, 9])
((.seq ((.seq (.ops F80o2 [0, 1, 2, 25])
(.cond (.t 25)
((.seq (.ops F80o3 [6, 7])
(.ret)))
(.skip))))
((.seq (.ops F80o4 [0, 1, 10])
((.seq ((.seq (.ops F80o5 [0, 1, 10, 11])
(.block 0 (.loop [0, 1, 10, 11] F80b9))))
((.seq (.ops F80o10 [6, 7])
(.ret))))))))))))
def F80 : AFn := ⟨43, [.tmp 6, .tmp 7], F80c⟩
theorem F80_ok : cFn Tryz.prog [] 80 = some F80 := by kernel_rfl
def F81o0 : List AOper := [⟨some 4, .t (.mv (.c (.str []))), none⟩,⟨some 5, .t (.mv (.c (.bool false))), none⟩]
def F81o1 : List AOper := [⟨some 6, .t (.mv (.t 0)), none⟩,⟨some 7, .t (.mv (.t 1)), none⟩,⟨some 8, .call (.c (.clo 116 [] [])) [(.t 6), (.t 7)], none⟩,⟨some 9, .t (.ext (.t 8) 0), none⟩,⟨some 10, .t (.ext (.t 8) 1), none⟩,⟨some 4, .t (.mv (.t 9)), none⟩,⟨some 5, .t (.mv (.t 10)), none⟩]
def F81c : ACode :=
(.seq (.ops F81o0 [0, 1])
((.seq (.ops F81o1 [4, 5])
(.ret))))
def F81 : AFn := ⟨11, [.tmp 4, .tmp 5], F81c⟩
theorem F81_ok : cFn Tryz.prog [] 81 = some F81 := by kernel_rfl
def F82o0 : List AOper := [⟨some 4, .t (.mv (.c (.int .i64 0))), none⟩,⟨some 5, .t (.mv (.c (.str []))), none⟩,⟨some 6, .t (.mv (.c (.bool false))), none⟩]
def F82o1 : List AOper := [⟨some 8, .t (.mv (.t 0)), none⟩,⟨some 9, .t (.len true (.t 8)), none⟩,⟨some 10, .t (.mv (.t 1)), none⟩,⟨some 11, .t (.bin .lss (.t 9) (.t 10)), none⟩]
def F82o2 : List AOper := [⟨some 12, .t (.mv (.t 0)), none⟩,⟨some 4, .t (.mv (.c (.int .i64 0))), none⟩,⟨some 5, .t (.mv (.t 12)), none⟩,⟨some 6, .t (.mv (.c (.bool false))), none⟩]
def F82o3 : List AOper := [⟨some 13, .t (.mv (.t 1)), none⟩,⟨some 14, .t (.mv (.c (.int .i64 0))), none⟩]
def F82o4 : List AOper := [⟨some 15, .t (.bin .lss (.t 14) (.t 13)), none⟩]
def F82o5 : List AOper := [⟨some 16, .t (.mv (.t 14)), none⟩,⟨some 7, .t (.mv (.t 16)), none⟩]
def F82o6 : List AOper := [⟨some 17, .t (.mv (.t 0)), none⟩,⟨some 18, .t (.mv (.t 7)), none⟩,⟨some 19, .t (.index (.t 17) (.t 18)), none⟩,⟨some 20, .t (.conv .i64 (.t 19)), none⟩,⟨some 21, .call (.c (.clo 101 [] [])) [(.t 20), (.c (.int .i64 48)), (.c (.int .i64 57))], none⟩,⟨some 22, .t (.not (.t 21)), none⟩]
def F82o7 : List AOper := [⟨some 23, .t (.mv (.t 0)), none⟩,⟨some 4, .t (.mv (.c (.int .i64 0))), none⟩,⟨some 5, .t (.mv (.t 23)), none⟩,⟨some 6, .t (.mv (.c (.bool false))), none⟩]
def F82o8 : List AOper := [⟨some 24, .t (.mv (.t 4)), none⟩,⟨some 25, .t (.bin .mul (.c (.int .i64 10)) (.t 24)), none⟩,⟨some 26, .t (.mv (.t 0)), none⟩,⟨some 27, .t (.mv (.t 7)), none⟩,⟨some 28, .t (.index (.t 26) (.t 27)), none⟩,⟨some 29, .t (.bin .sub (.t 28) (.c (.int .u8 48))), none⟩,⟨some 30, .t (.conv .i64 (.t 29)), none⟩,⟨some 31, .t (.bin .add (.t 25) (.t 30)), none⟩,⟨some 4, .t (.mv (.t 31)), none⟩]
def F82o9 : List AOper := [⟨some 32, .t (.bin .add (.t 14) (.c (.int .i64 1))), none⟩,⟨some 14, .t (.mv (.t 32)), none⟩]
def F82b10 : ACode :=
(.seq (.ops F82o4 [0, 1, 4, 13, 14, 15])
((.seq (.cond (.t 15)
(.skip)
(.exit 0))
((.seq (.block 1 ((.seq (.ops F82o5 [0, 1, 4, 7, 13, 14])
((.seq ((.seq (.ops F82o6 [0, 1, 4, 7, 13, 14, 22])
(.cond (.t 22)
((.seq (.ops F82o7 [4, 5, 6])
(.ret)))
(.skip))))
(.ops F82o8 [0, 1, 4, 13, 14]))))))
(.ops F82o9 [0, 1, 4, 13, 14]))))))
def F82o11 : List AOper := [⟨some 33, .t (.mv (.t 4)), none⟩,⟨some 34, .t (.mv (.t 0)), none⟩,⟨some 35, .t (.mv (.t 1)), none⟩,⟨some 36, .t (.sliceS (.t 34) (some (.t 35)) none), none⟩,⟨some 4, .t (.mv (.t 33)), none⟩]
def F82p11 : List AOper := [⟨some 5, .t (.mv (.t 36)), none⟩,⟨some 6, .t (.mv (.c (.bool true))), none⟩]
def F82A11 : List (List Nat) := [[], [], [], [1, 2], [0], [3, 4, 1, 2, 0], [5, 3, 4, 1, 2, 0]]
def F82c : ACode :=
(.seq (.ops F82o0 [0, 1, 4])
((.seq ((.seq (.ops F82o1 [0, 1, 4, 11])
(.cond (.t 11)
((.seq (.ops F82o2 [4, 5, 6])
(.ret)))
(.skip))))
((.seq ((.seq (.ops F82o3 [0, 1, 4, 13, 14])
(.block 0 (.loop [0, 1, 4, 13, 14] F82b10))))
((.seq (.draw F82A11 F82o11 F82p11 [4, 5, 6])
(.ret))))))))
def F82 : AFn := ⟨37, [.tmp 4, .tmp 5, .tmp 6], F82c⟩
theorem F82_ok : cFn Tryz.prog [] 82 = some F82 := by kernel_rfl
def F84o0 : List AOper := [⟨some 10, .t (.mv (.c (.bool true))), none⟩]
def F84o1 : List AOper := [⟨some 11, .t (.mv (.c (.bool true))), none⟩]
def F84o2 : List AOper := [⟨some 21, .t (.mv (.t 2)), none⟩,⟨some 22, .t (.mv (.t 1)), none⟩,⟨some 23, .t (.bin .sub (.t 21) (.t 22)), none⟩,⟨some 12, .t (.mv (.t 23)), none⟩]
def F84o3 : List AOper := [⟨some 24, .t (.mv (.t 12)), none⟩,⟨some 25, .t (.bin .leq (.t 24) (.c (.int .i64 12))), none⟩]
def F84o4 : List AOper := [⟨some 26, .t (.mv (.t 0)), none⟩,⟨some 27, .t (.mv (.t 1)), none⟩,⟨some 28, .t (.mv (.t 2)), none⟩,⟨some 29, .t (.mv (.t 4)), none⟩,⟨some 30, .call (.c (.clo 117 [] [])) [(.t 26), (.t 27), (.t 28), (.t 29)], none⟩]
def F84o5 : List AOper := [⟨some 31, .t (.mv (.t 3)), none⟩,⟨some 32, .t (.bin .eql (.t 31) (.c (.int .i64 0))), none⟩]
def F84o6 : List AOper := [⟨some 33, .t (.mv (.t 0)), none⟩,⟨some 34, .t (.mv (.t 1)), none⟩,⟨some 35, .t (.mv (.t 2)), none⟩,⟨some 36, .t (.mv (.t 4)), none⟩,⟨some 37, .call (.c (.clo 118 [] [])) [(.t 33), (.t 34), (.t 35), (.t 36)], none⟩]
def F84o7 : List AOper := [⟨some 38, .t (.mv (.t 10)), none⟩,⟨some 39, .t (.not (.t 38)), none⟩]
def F84o8 : List AOper := [⟨some 40, .t (.mv (.t 0)), none⟩,⟨some 41, .t (.mv (.t 1)), none⟩,⟨some 42, .t (.mv (.t 2)), none⟩,⟨some 43, .t (.mv (.t 4)), none⟩,⟨some 44, .call (.c (.clo 119 [] [])) [(.t 40), (.t 41), (.t 42), (.t 43)], none⟩]
def F84o9 : List AOper := [⟨some 45, .t (.mv (.t 3)), none⟩,⟨some 46, .t (.bin .sub (.t 45) (.c (.int .i64 1))), none⟩,⟨some 3, .t (.mv (.t 46)), none⟩]
def F84o10 : List AOper := [⟨some 48, .t (.mv (.t 0)), none⟩,⟨some 49, .t (.mv (.t 1)), none⟩,⟨some 50, .t (.mv (.t 2)), none⟩,⟨some 51, .t (.mv (.t 4)), none⟩,⟨some 52, .call (.c (.clo 120 [] [])) [(.t 48), (.t 49), (.t 50), (.t 51)], none⟩,⟨some 47, .t (.mv (.t 52)), none⟩,⟨some 53, .t (.ext (.t 47) 0), none⟩,⟨some 54, .t (.ext (.t 47) 1), none⟩,⟨some 13, .t (.mv (.t 53)), none⟩,⟨some 14, .t (.mv (.t 54)), none⟩]
def F84o11 : List AOper := [⟨some 55, .t (.mv (.t 14)), none⟩,⟨some 56, .t (.bin .eql (.t 55) (.c (.int .i64 2))), none⟩]
def F84o12 : List AOper := [⟨some 57, .t (.mv (.t 0)), none⟩,⟨some 58, .t (.mv (.t 1)), none⟩,⟨some 59, .t (.mv (.t 2)), none⟩,⟨some 60, .t (.mv (.t 4)), none⟩,⟨some 61, .call (.c (.clo 121 [] [])) [(.t 57), (.t 58), (.t 59), (.t 60)], none⟩]
def F84o13 : List AOper := [⟨some 62, .t (.mv (.t 2)), none⟩,⟨some 63, .t (.bin .sub (.t 62) (.c (.int .i64 1))), none⟩,⟨some 64, .t (.mv (.t 13)), none⟩,⟨some 65, .t (.mv (.t 1)), none⟩,⟨some 66, .t (.bin .sub (.t 64) (.t 65)), none⟩,⟨some 67, .t (.bin .sub (.t 63) (.t 66)), none⟩,⟨some 13, .t (.mv (.t 67)), none⟩]
def F84o14 : List AOper := [⟨some 14, .t (.mv (.c (.int .i64 1))), none⟩]
def F84o15 : List AOper := [⟨some 68, .t (.mv (.t 10)), none⟩,⟨some 69, .t (.mv (.t 68)), none⟩,⟨some 70, .t (.mv (.t 11)), (some (69, true))⟩,
  ⟨some 71, .t (.pick (.t 69) (.t 70) (.c (.bool false))), none⟩,⟨some 72, .t (.mv (.t 71)), none⟩,⟨some 73, .t (.mv (.t 14)), (some (72, true))⟩,
  ⟨some 74, .t (.bin .eql (.t 73) (.c (.int .i64 1))), (some (72, true))⟩,
  ⟨some 75, .t (.pick (.t 72) (.t 74) (.c (.bool false))), none⟩]
def F84o16 : List AOper := [⟨some 76, .t (.mv (.t 0)), none⟩,⟨some 77, .t (.mv (.t 1)), none⟩,⟨some 78, .t (.mv (.t 2)), none⟩,⟨some 79, .t (.mv (.t 4)), none⟩,⟨some 80, .call (.c (.clo 122 [] [])) [(.t 76), (.t 77), (.t 78), (.t 79)], none⟩]
def F84o17 : List AOper := [⟨some 81, .t (.mv (.t 1)), none⟩,⟨some 82, .t (.bin .gtr (.t 81) (.c (.int .i64 0))), none⟩,⟨some 83, .t (.mv (.t 82)), none⟩,⟨some 84, .t (.mv (.t 4)), (some (83, true))⟩,
  ⟨some 85, .t (.mv (.t 0)), (some (83, true))⟩,
  ⟨some 86, .t (.mv (.t 1)), (some (83, true))⟩,
  ⟨some 87, .t (.bin .sub (.t 86) (.c (.int .i64 1))), (some (83, true))⟩,
  ⟨some 88, .t (.iaddr 7 (.t 85) (.t 87)), (some (83, true))⟩,
  ⟨some 89, .m (.load true 7 (.t 88)), (some (83, true))⟩,
  ⟨some 90, .t (.mv (.t 0)), (some (83, true))⟩,
  ⟨some 91, .t (.mv (.t 13)), (some (83, true))⟩,
  ⟨some 92, .t (.iaddr 7 (.t 90) (.t 91)), (some (83, true))⟩,
  ⟨some 93, .m (.load true 7 (.t 92)), (some (83, true))⟩]
def F84p17 : List AOper := [⟨some 94, .call (.t 84) [(.t 89), (.t 93)], (some (83, true))⟩,
  ⟨some 95, .t (.bin .lss (.t 94) (.c (.int .i64 0))), (some (83, true))⟩,
  ⟨some 96, .t (.not (.t 95)), (some (83, true))⟩,
  ⟨some 97, .t (.pick (.t 83) (.t 96) (.c (.bool false))), none⟩]
def F84A17 : List (List Nat) := [[], [0], [1, 0], [2, 1, 0], [2, 1, 0], [2, 1, 0], [5, 2, 1, 0], [4, 6, 5, 2, 1, 0], [7, 4, 6, 5, 2, 1, 0], [2, 1, 0], [2, 1, 0], [9, 10, 2, 1, 0], [11, 9, 10, 2, 1, 0], [3, 8, 12, 7, 4, 6, 5, 11, 9, 10, 2, 1, 0], [13, 3, 8, 12, 7, 4, 6, 5, 11, 9, 10, 2, 1, 0], [14, 13, 3, 8, 12, 7, 4, 6, 5, 11, 9, 10, 2, 1, 0], [15, 14, 13, 3, 8, 12, 7, 4, 6, 5, 11, 9, 10, 2, 1, 0]]
def F84o18 : List AOper := [⟨some 98, .t (.mv (.t 0)), none⟩,⟨some 99, .t (.mv (.t 1)), none⟩,⟨some 100, .t (.mv (.t 2)), none⟩,⟨some 101, .t (.mv (.t 13)), none⟩,⟨some 102, .t (.mv (.t 4)), none⟩,⟨some 103, .call (.c (.clo 123 [] [])) [(.t 98), (.t 99), (.t 100), (.t 101), (.t 102)], none⟩,⟨some 15, .t (.mv (.t 103)), none⟩]
def F84o19 : List AOper := [⟨some 104, .t (.mv (.t 15)), none⟩,⟨some 1, .t (.mv (.t 104)), none⟩]
def F84o20 : List AOper := [⟨some 106, .t (.mv (.t 0)), none⟩,⟨some 107, .t (.mv (.t 1)), none⟩,⟨some 108, .t (.mv (.t 2)), none⟩,⟨some 109, .t (.mv (.t 13)), none⟩,⟨some 110, .t (.mv (.t 4)), none⟩,⟨some 111, .call (.c (.clo 124 [] [])) [(.t 106), (.t 107), (.t 108), (.t 109), (.t 110)], none⟩,⟨some 105, .t (.mv (.t 111)), none⟩,⟨some 112, .t (.ext (.t 105) 0), none⟩,⟨some 113, .t (.ext (.t 105) 1), none⟩,⟨some 16, .t (.mv (.t 112)), none⟩,⟨some 17, .t (.mv (.t 113)), none⟩]
def F84o21 : List AOper := [⟨some 114, .t (.mv (.t 17)), none⟩,⟨some 11, .t (.mv (.t 114)), none⟩]
def F84o22 : List AOper := [⟨some 115, .t (.mv (.t 16)), none⟩,⟨some 116, .t (.mv (.t 1)), none⟩,⟨some 117, .t (.bin .sub (.t 115) (.t 116)), none⟩,⟨some 118, .t (.mv (.t 2)), none⟩,⟨some 119, .t (.mv (.t 16)), none⟩,⟨some 120, .t (.bin .sub (.t 118) (.t 119)), none⟩,⟨some 18, .t (.mv (.t 117)), none⟩,⟨some 19, .t (.mv (.t 120)), none⟩]
def F84o23 : List AOper := [⟨some 121, .t (.mv (.t 12)), none⟩,⟨some 122, .t (.bin .quo (.t 121) (.c (.int .i64 8))), none⟩,⟨some 20, .t (.mv (.t 122)), none⟩]
def F84o24 : List AOper := [⟨some 123, .t (.mv (.t 18)), none⟩,⟨some 124, .t (.mv (.t 19)), none⟩,⟨some 125, .t (.bin .lss (.t 123) (.t 124)), none⟩]
def F84o25 : List AOper := [⟨some 126, .t (.mv (.t 18)), none⟩,⟨some 127, .t (.mv (.t 20)), none⟩,⟨some 128, .t (.bin .geq (.t 126) (.t 127)), none⟩,⟨some 10, .t (.mv (.t 128)), none⟩]
def F84o26 : List AOper := [⟨some 129, .t (.mv (.t 0)), none⟩,⟨some 130, .t (.mv (.t 1)), none⟩,⟨some 131, .t (.mv (.t 16)), none⟩,⟨some 132, .t (.mv (.t 3)), none⟩,⟨some 133, .t (.mv (.t 4)), none⟩,⟨some 134, .call (.c (.clo 84 [] [])) [(.t 129), (.t 130), (.t 131), (.t 132), (.t 133)], none⟩]
def F84o27 : List AOper := [⟨some 135, .t (.mv (.t 16)), none⟩,⟨some 136, .t (.bin .add (.t 135) (.c (.int .i64 1))), none⟩,⟨some 1, .t (.mv (.t 136)), none⟩]
def F84o28 : List AOper := [⟨some 137, .t (.mv (.t 19)), none⟩,⟨some 138, .t (.mv (.t 20)), none⟩,⟨some 139, .t (.bin .geq (.t 137) (.t 138)), none⟩,⟨some 10, .t (.mv (.t 139)), none⟩]
def F84o29 : List AOper := [⟨some 140, .t (.mv (.t 0)), none⟩,⟨some 141, .t (.mv (.t 16)), none⟩,⟨some 142, .t (.bin .add (.t 141) (.c (.int .i64 1))), none⟩,⟨some 143, .t (.mv (.t 2)), none⟩,⟨some 144, .t (.mv (.t 3)), none⟩,⟨some 145, .t (.mv (.t 4)), none⟩,⟨some 146, .call (.c (.clo 84 [] [])) [(.t 140), (.t 142), (.t 143), (.t 144), (.t 145)], none⟩]
def F84o30 : List AOper := [⟨some 147, .t (.mv (.t 16)), none⟩,⟨some 2, .t (.mv (.t 147)), none⟩]
def F84b31 : ACode :=
  .block 1 ((.seq (.ops F84o2 [0, 1, 2, 3, 4, 10, 11, 12])
((.seq ((.seq (.ops F84o3 [0, 1, 2, 3, 4, 10, 11, 12, 25])
(.cond (.t 25)
((.seq (.ops F84o4 [])
(.ret)))
(.skip))))
((.seq ((.seq (.ops F84o5 [0, 1, 2, 3, 4, 10, 11, 12, 32])
(.cond (.t 32)
((.seq (.ops F84o6 [])
(.ret)))
(.skip))))
((.seq ((.seq (.ops F84o7 [0, 1, 2, 3, 4, 10, 11, 12, 39])
(.cond (.t 39)
((.seq (.ops F84o8 [0, 1, 2, 3, 4, 10, 11, 12])
(.ops F84o9 [0, 1, 2, 3, 4, 10, 11, 12])))
(.skip))))
((.seq (.ops F84o10 [0, 1, 2, 3, 4, 10, 11, 12, 13, 14])
((.seq ((.seq (.ops F84o11 [0, 1, 2, 3, 4, 10, 11, 12, 13, 14, 56])
(.cond (.t 56)
((.seq (.ops F84o12 [0, 1, 2, 3, 4, 10, 11, 12, 13])
((.seq (.ops F84o13 [0, 1, 2, 3, 4, 10, 11, 12, 13])
(.ops F84o14 [0, 1, 2, 3, 4, 10, 11, 12, 13, 14])))))
(.skip))))
((.seq ((.seq (.ops F84o15 [0, 1, 2, 3, 4, 10, 11, 12, 13, 75])
(.cond (.t 75)
((.seq (.ops F84o16 [0, 1, 2, 3, 4, 10, 11, 12, 13, 80])
(.cond (.t 80)
(.ret)
(.skip))))
(.skip))))
((.seq ((.seq (.draw F84A17 F84o17 F84p17 [0, 1, 2, 3, 4, 10, 11, 12, 13, 97])
(.cond (.t 97)
((.seq (.ops F84o18 [0, 2, 3, 4, 10, 11, 15])
((.seq (.ops F84o19 [0, 1, 2, 3, 4, 10, 11])
(.exit 1)))))
(.skip))))
((.seq (.ops F84o20 [0, 1, 2, 3, 4, 12, 16, 17])
((.seq (.ops F84o21 [0, 1, 2, 3, 4, 11, 12, 16])
((.seq (.ops F84o22 [0, 1, 2, 3, 4, 11, 12, 16, 18, 19])
((.seq (.ops F84o23 [0, 1, 2, 3, 4, 11, 16, 18, 19, 20])
((.seq (.ops F84o24 [0, 1, 2, 3, 4, 11, 16, 18, 19, 20, 125])
(.cond (.t 125)
((.seq (.ops F84o25 [0, 1, 2, 3, 4, 10, 11, 16])
((.seq (.ops F84o26 [0, 2, 3, 4, 10, 11, 16])
(.ops F84o27 [0, 1, 2, 3, 4, 10, 11])))))
((.seq (.ops F84o28 [0, 1, 2, 3, 4, 10, 11, 16])
((.seq (.ops F84o29 [0, 1, 3, 4, 10, 11, 16])
(.ops F84o30 [0, 1, 2, 3, 4, 10, 11]))))))))))))))))))))))))))))))))
def F84c : ACode :=
(.seq (.ops F84o0 [0, 1, 2, 3, 4, 10])
((.seq (.ops F84o1 [0, 1, 2, 3, 4, 10, 11])
(.block 0 (.loop [0, 1, 2, 3, 4, 10, 11] F84b31)))))
def F84 : AFn := ⟨148, [], F84c⟩
theorem F84_ok : cFn Tryz.prog [] 84 = some F84 := by kernel_rfl
def F85o0 : List AOper := [⟨some 2, .t (.mv (.c (.int .i64 0))), none⟩]
def F85o1 : List AOper := [⟨some 3, .t (.mv (.t 0)), none⟩,⟨some 4, .t (.conv .u32 (.t 3)), none⟩,⟨some 5, .call (.c (.clo 125 [] [])) [(.t 4)], none⟩,⟨some 2, .t (.mv (.t 5)), none⟩]
def F85o2 : List AOper := [⟨some 6, .t (.mv (.t 0)), none⟩,⟨some 7, .call (.c (.clo 126 [] [])) [(.t 6)], none⟩,⟨some 2, .t (.mv (.t 7)), none⟩]
def F85c : ACode :=
(.seq (.ops F85o0 [0])
((.seq (.cond (.c (.bool false))
((.seq (.ops F85o1 [2])
(.ret)))
(.skip))
((.seq (.ops F85o2 [2])
(.ret))))))
def F85 : AFn := ⟨8, [.tmp 2], F85c⟩
theorem F85_ok : cFn Tryz.prog [] 85 = some F85 := by kernel_rfl
def F87o0 : List AOper := [⟨some 1, .m (.box 37 (.t 0)), none⟩,⟨some 2, .t (.mv (.c (.int .i64 0))), none⟩]
def F87o1 : List AOper := [⟨some 8, .t (.faddr 0 (.t 1)), none⟩,⟨some 9, .m (.load false 1 (.t 8)), none⟩,⟨some 10, .call (.c (.clo 128 [] [])) [(.t 9), (.c (.int .i64 1)), (.c (.int .i64 10))], none⟩,⟨some 11, .t (.not (.t 10)), none⟩]
def F87o2 : List AOper := [⟨some 2, .t (.mv (.c (.int .i64 11))), none⟩]
def F87o3 : List AOper := [⟨some 12, .call (.c (.clo 129 [] [])) [], none⟩,⟨some 13, .t (.faddr 0 (.t 1)), none⟩,⟨some 14, .m (.load false 1 (.t 13)), none⟩,⟨some 15, .t (.indexA true 11 8 (.t 12) (.t 14)), none⟩,⟨some 3, .m (.alloc 177 [(.str []), (.int .i64 0), (.int .i64 0), (.bool false), (.bool false), (.bool false), (.bool false), (.bool false)]), none⟩]
def F87p3 : List AOper := [⟨none, .m (.store 8 (.t 3) (.t 15)), none⟩]
def F87A3 : List (List Nat) := [[], [], [1], [0, 2, 1], [], [3, 4, 0, 2, 1]]
def F87o4 : List AOper := [⟨some 16, .m (.load true 7 (.t 1)), none⟩,⟨some 17, .m (.load true 8 (.t 3)), none⟩,⟨some 18, .call (.c (.clo 130 [] [])) [(.t 16), (.t 17)], none⟩,⟨some 4, .t (.mv (.t 18)), none⟩]
def F87o5 : List AOper := [⟨some 19, .t (.mv (.t 4)), none⟩,⟨some 20, .t (.bin .neq (.t 19) (.c (.int .i64 0))), none⟩]
def F87o6 : List AOper := [⟨some 21, .t (.mv (.t 4)), none⟩,⟨some 2, .t (.mv (.t 21)), none⟩]
def F87o7 : List AOper := [⟨some 23, .t (.faddr 0 (.t 1)), none⟩,⟨some 24, .m (.load false 1 (.t 23)), none⟩,⟨some 25, .t (.bin .eql (.t 24) (.c (.int .i64 4))), none⟩,⟨some 26, .t (.mv (.t 25)), none⟩,⟨some 27, .t (.faddr 4 (.t 1)), (some (26, true))⟩,
  ⟨some 28, .m (.load false 1 (.t 27)), (some (26, true))⟩,
  ⟨some 29, .t (.len false (.t 28)), (some (26, true))⟩,
  ⟨some 30, .t (.bin .gtr (.t 29) (.c (.int .i64 0))), (some (26, true))⟩,
  ⟨some 31, .t (.pick (.t 26) (.t 30) (.c (.bool false))), none⟩,⟨some 22, .t (.mv (.t 31)), none⟩]
def F87o8 : List AOper := [⟨some 32, .m (.load true 7 (.t 1)), none⟩,⟨some 33, .call (.c (.clo 131 [] [])) [(.t 32)], none⟩,⟨some 5, .t (.mv (.t 33)), none⟩]
def F87o9 : List AOper := [⟨some 34, .t (.mv (.t 5)), none⟩,⟨some 35, .t (.bin .neq (.t 34) (.c (.int .i64 0))), none⟩]
def F87o10 : List AOper := [⟨some 36, .t (.mv (.t 5)), none⟩,⟨some 2, .t (.mv (.t 36)), none⟩]
def F87o11 : List AOper := [⟨some 38, .t (.faddr 3 (.t 3)), none⟩,⟨some 39, .m (.load false 1 (.t 38)), none⟩,⟨some 40, .t (.mv (.t 39)), none⟩,⟨some 41, .t (.faddr 1 (.t 1)), (some (40, true))⟩,
  ⟨some 42, .m (.load false 1 (.t 41)), (some (40, true))⟩,
  ⟨some 43, .t (.faddr 2 (.t 1)), (some (40, true))⟩,
  ⟨some 44, .m (.load false 1 (.t 43)), (some (40, true))⟩,
  ⟨some 45, .t (.bin .gtr (.t 42) (.t 44)), (some (40, true))⟩,
  ⟨some 46, .t (.mv (.t 45)), (some (40, true))⟩,
  ⟨some 47, .t (.faddr 1 (.t 1)), (some (46, false))⟩,
  ⟨some 48, .m (.load false 1 (.t 47)), (some (46, false))⟩,
  ⟨some 49, .t (.faddr 1 (.t 3)), (some (46, false))⟩,
  ⟨some 50, .m (.load false 1 (.t 49)), (some (46, false))⟩,
  ⟨some 51, .t (.bin .lss (.t 48) (.t 50)), (some (46, false))⟩,
  ⟨some 52, .t (.pick (.t 46) (.c (.bool true)) (.t 51)), (some (40, true))⟩,
  ⟨some 53, .t (.mv (.t 52)), (some (40, true))⟩,
  ⟨some 54, .t (.faddr 2 (.t 1)), (some (53, false))⟩,
  ⟨some 55, .m (.load false 1 (.t 54)), (some (53, false))⟩,
  ⟨some 56, .t (.faddr 2 (.t 3)), (some (53, false))⟩,
  ⟨some 57, .m (.load false 1 (.t 56)), (some (53, false))⟩,
  ⟨some 58, .t (.bin .gtr (.t 55) (.t 57)), (some (53, false))⟩,
  ⟨some 59, .t (.pick (.t 53) (.c (.bool true)) (.t 58)), (some (40, true))⟩,
  ⟨some 60, .t (.pick (.t 40) (.t 59) (.c (.bool false))), none⟩,⟨some 37, .t (.mv (.t 60)), none⟩]
def F87o12 : List AOper := [⟨some 61, .t (.faddr 4 (.t 3)), none⟩,⟨some 62, .m (.load false 1 (.t 61)), none⟩,⟨some 63, .t (.mv (.t 62)), none⟩,⟨some 64, .t (.faddr 3 (.t 1)), (some (63, true))⟩,
  ⟨some 65, .m (.load false 1 (.t 64)), (some (63, true))⟩,
  ⟨some 66, .call (.c (.clo 128 [] [])) [(.t 65), (.c (.int .i64 0)), (.c (.int .i64 12))], (some (63, true))⟩,
  ⟨some 67, .t (.not (.t 66)), (some (63, true))⟩,
  ⟨some 68, .t (.pick (.t 63) (.t 67) (.c (.bool false))), none⟩,⟨some 37, .t (.mv (.t 68)), none⟩]
def F87o13 : List AOper := [⟨some 2, .t (.mv (.c (.int .i64 2))), none⟩]
def F87o14 : List AOper := [⟨some 70, .t (.faddr 0 (.t 1)), none⟩,⟨some 71, .m (.load false 1 (.t 70)), none⟩,⟨some 72, .t (.bin .eql (.t 71) (.c (.int .i64 8))), none⟩,⟨some 73, .t (.mv (.t 72)), none⟩,⟨some 74, .t (.faddr 5 (.t 1)), (some (73, true))⟩,
  ⟨some 75, .m (.load false 1 (.t 74)), (some (73, true))⟩,
  ⟨some 76, .t (.len false (.t 75)), (some (73, true))⟩,
  ⟨some 77, .t (.bin .eql (.t 76) (.c (.int .i64 0))), (some (73, true))⟩,
  ⟨some 78, .t (.pick (.t 73) (.t 77) (.c (.bool false))), none⟩,⟨some 69, .t (.mv (.t 78)), none⟩]
def F87o15 : List AOper := [⟨some 79, .t (.faddr 0 (.t 1)), none⟩,⟨some 80, .m (.load false 1 (.t 79)), none⟩,⟨some 81, .t (.bin .eql (.t 80) (.c (.int .i64 10))), none⟩,⟨some 82, .t (.mv (.t 81)), none⟩,⟨some 83, .t (.faddr 6 (.t 1)), (some (82, true))⟩,
  ⟨some 84, .m (.load false 1 (.t 83)), (some (82, true))⟩,
  ⟨some 85, .t (.len false (.t 84)), (some (82, true))⟩,
  ⟨some 86, .t (.bin .eql (.t 85) (.c (.int .i64 0))), (some (82, true))⟩,
  ⟨some 87, .t (.pick (.t 82) (.t 86) (.c (.bool false))), none⟩,⟨some 69, .t (.mv (.t 87)), none⟩]
def F87o16 : List AOper := [⟨some 2, .t (.mv (.c (.int .i64 4))), none⟩]
def F87o17 : List AOper := [⟨some 89, .t (.faddr 0 (.t 1)), none⟩,⟨some 90, .m (.load false 1 (.t 89)), none⟩,⟨some 91, .t (.bin .eql (.t 90) (.c (.int .i64 8))), none⟩,⟨some 92, .t (.mv (.t 91)), none⟩,⟨some 93, .t (.faddr 5 (.t 1)), (some (92, true))⟩,
  ⟨some 94, .m (.load false 1 (.t 93)), (some (92, true))⟩,
  ⟨some 95, .t (.len false (.t 94)), (some (92, true))⟩,
  ⟨some 96, .t (.bin .gtr (.t 95) (.c (.int .i64 1))), (some (92, true))⟩,
  ⟨some 97, .t (.pick (.t 92) (.t 96) (.c (.bool false))), none⟩,⟨some 88, .t (.mv (.t 97)), none⟩]
def F87o18 : List AOper := [⟨some 2, .t (.mv (.c (.int .i64 3))), none⟩]
def F87o19 : List AOper := [⟨some 99, .t (.faddr 6 (.t 1)), none⟩,⟨some 100, .m (.load false 1 (.t 99)), none⟩,⟨some 101, .t (.len false (.t 100)), none⟩,⟨some 102, .t (.bin .gtr (.t 101) (.c (.int .i64 64))), none⟩,⟨some 98, .t (.mv (.t 102)), none⟩]
def F87o20 : List AOper := [⟨some 2, .t (.mv (.c (.int .i64 9))), none⟩]
def F87o21 : List AOper := [⟨some 103, .t (.faddr 6 (.t 1)), none⟩,⟨some 104, .m (.load false 1 (.t 103)), none⟩,⟨some 105, .t (.len false (.t 104)), none⟩,⟨some 106, .t (.mv (.c (.int .i64 0))), none⟩]
def F87o22 : List AOper := [⟨some 107, .t (.bin .lss (.t 106) (.t 105)), none⟩]
def F87o23 : List AOper := [⟨some 108, .t (.mv (.t 106)), none⟩,⟨some 6, .t (.mv (.t 108)), none⟩]
def F87o24 : List AOper := [⟨some 109, .m (.load true 7 (.t 1)), none⟩,⟨some 110, .t (.mv (.t 6)), none⟩,⟨some 111, .call (.c (.clo 132 [] [])) [(.t 109), (.t 110)], none⟩,⟨some 7, .t (.mv (.t 111)), none⟩]
def F87o25 : List AOper := [⟨some 112, .t (.mv (.t 7)), none⟩,⟨some 113, .t (.bin .neq (.t 112) (.c (.int .i64 0))), none⟩]
def F87o26 : List AOper := [⟨some 114, .t (.mv (.t 7)), none⟩,⟨some 2, .t (.mv (.t 114)), none⟩]
def F87o27 : List AOper := [⟨some 115, .t (.bin .add (.t 106) (.c (.int .i64 1))), none⟩,⟨some 106, .t (.mv (.t 115)), none⟩]
def F87b28 : ACode :=
(.seq (.ops F87o22 [1, 105, 106, 107])
((.seq (.cond (.t 107)
(.skip)
(.exit 2))
((.seq (.block 3 ((.seq (.ops F87o23 [1, 6, 105, 106])
((.seq (.ops F87o24 [1, 7, 105, 106])
((.seq (.ops F87o25 [1, 7, 105, 106, 113])
(.cond (.t 113)
((.seq (.ops F87o26 [2])
(.ret)))
(.skip)))))))))
(.ops F87o27 [1, 105, 106]))))))
def F87o29 : List AOper := [⟨some 2, .t (.mv (.c (.int .i64 0))), none⟩]
def F87c : ACode :=
(.seq (.ops F87o0 [1])
((.seq ((.seq (.ops F87o1 [1, 11])
(.cond (.t 11)
((.seq (.ops F87o2 [2])
(.ret)))
(.skip))))
((.seq (.draw F87A3 F87o3 F87p3 [1, 3])
((.seq ((.seq (.ops F87o4 [1, 3, 4])
((.seq (.ops F87o5 [1, 3, 4, 20])
(.cond (.t 20)
((.seq (.ops F87o6 [2])
(.ret)))
(.skip))))))
((.seq (.block 0 ((.seq (.ops F87o7 [1, 3, 22])
(.cond (.t 22)
((.seq (.ops F87o8 [1, 5])
((.seq (.ops F87o9 [1, 5, 35])
(.cond (.t 35)
((.seq (.ops F87o10 [2])
(.ret)))
(.skip))))))
((.seq ((.seq (.ops F87o11 [1, 3, 37])
(.cond (.t 37)
(.skip)
(.ops F87o12 [1, 37]))))
(.cond (.t 37)
((.seq (.ops F87o13 [2])
(.ret)))
(.skip))))))))
((.seq (.block 1 ((.seq ((.seq (.ops F87o14 [1, 69])
(.cond (.t 69)
(.skip)
(.ops F87o15 [1, 69]))))
(.cond (.t 69)
((.seq (.ops F87o16 [2])
(.ret)))
((.seq (.ops F87o17 [1, 88])
(.cond (.t 88)
((.seq (.ops F87o18 [2])
(.ret)))
((.seq (.ops F87o19 [1, 98])
(.cond (.t 98)
((.seq (.ops F87o20 [2])
(.ret)))
(.skip)))))))))))
((.seq ((.seq (.ops F87o21 [1, 105, 106])
(.block 2 (.loop [1, 105, 106] F87b28))))
((.seq (.ops F87o29 [2])
(.ret))))))))))))))))
def F87 : AFn := ⟨116, [.tmp 2], F87c⟩
theorem F87_ok : cFn Tryz.prog [] 87 = some F87 := by kernel_rfl
def F88o0 : List AOper := [⟨some 1, .m (.box 37 (.t 0)), none⟩,⟨some 2, .t (.mv (.c .nils)), none⟩]
def F88o1 : List AOper := [⟨some 6, .t (.faddr 0 (.t 1)), none⟩,⟨some 7, .m (.load false 1 (.t 6)), none⟩]
def F88o2 : List AOper := [⟨some 9, .t (.bin .eql (.t 7) (.c (.int .i64 8))), none⟩,⟨some 8, .t (.mv (.t 9)), none⟩]
def F88o3 : List AOper := [⟨some 10, .t (.faddr 5 (.t 1)), none⟩,⟨some 11, .m (.load false 1 (.t 10)), none⟩,⟨some 2, .t (.mv (.t 11)), none⟩]
def F88o4 : List AOper := [⟨some 13, .t (.bin .eql (.t 7) (.c (.int .i64 9))), none⟩,⟨some 12, .t (.mv (.t 13)), none⟩]
def F88o5 : List AOper := [⟨some 14, .t (.bin .eql (.t 7) (.c (.int .i64 10))), none⟩,⟨some 12, .t (.mv (.t 14)), none⟩]
def F88o6 : List AOper := [⟨some 15, .t (.faddr 6 (.t 1)), none⟩,⟨some 16, .m (.load false 1 (.t 15)), none⟩,⟨some 17, .t (.len false (.t 16)), none⟩,⟨some 18, .m (.mk false 37 7 104 [(.int .i64 0), (.int .i64 0), (.int .i64 0), (.int .i64 0), .nils, .nils, .nils] (.c (.int .i64 0)) (.t 17)), none⟩,⟨some 3, .t (.mv (.t 18)), none⟩]
def F88o7 : List AOper := [⟨some 19, .t (.faddr 6 (.t 1)), none⟩,⟨some 20, .m (.load false 1 (.t 19)), none⟩,⟨some 21, .t (.len false (.t 20)), none⟩,⟨some 22, .t (.mv (.c (.int .i64 0))), none⟩]
def F88o8 : List AOper := [⟨some 23, .t (.bin .lss (.t 22) (.t 21)), none⟩]
def F88o9 : List AOper := [⟨some 24, .t (.iaddr 11 (.t 20) (.t 22)), none⟩,⟨some 25, .m (.load true 11 (.t 24)), none⟩,⟨some 5, .m (.alloc 47 [(.int .i64 0), (.str []), (.int .i64 0), (.int .i64 0), (.int .i64 0), (.int .i64 0), (.int .i64 0), .nils, .nils, .nils, .nils]), none⟩,⟨none, .m (.store 11 (.t 5) (.t 25)), none⟩]
def F88o10 : List AOper := [⟨some 26, .t (.mv (.t 3)), none⟩,⟨some 27, .t (.faddr 3 (.t 5)), none⟩,⟨some 28, .m (.load true 7 (.t 27)), none⟩,⟨some 29, .m (.bslice false 37 7 1 [(.t 28)]), none⟩,⟨some 30, .m (.append false 37 7 104 (.t 26) (.t 29)), none⟩,⟨some 3, .t (.mv (.t 30)), none⟩]
def F88o11 : List AOper := [⟨some 31, .t (.bin .add (.t 22) (.c (.int .i64 1))), none⟩,⟨some 22, .t (.mv (.t 31)), none⟩]
def F88b12 : ACode :=
(.seq (.ops F88o8 [3, 20, 21, 22, 23])
((.seq (.cond (.t 23)
(.skip)
(.exit 1))
((.seq (.block 2 ((.seq (.ops F88o9 [3, 5, 20, 21, 22])
(.ops F88o10 [3, 20, 21, 22]))))
(.ops F88o11 [3, 20, 21, 22]))))))
def F88o13 : List AOper := [⟨some 32, .t (.mv (.t 3)), none⟩,⟨some 2, .t (.mv (.t 32)), none⟩]
def F88o14 : List AOper := [⟨some 2, .t (.mv (.c .nils)), none⟩]
def F88c : ACode :=
(.seq (.ops F88o0 [1])
((.seq ((.seq (.ops F88o1 [1, 7])
(.block 0 ((.seq (.ops F88o2 [1, 7, 8])
(.cond (.t 8)
((.seq (.ops F88o3 [2])
(.ret)))
((.seq ((.seq (.ops F88o4 [1, 7, 12])
(.cond (.t 12)
(.skip)
(.ops F88o5 [1, 12]))))
(.cond (.t 12)
((.seq (.ops F88o6 [1, 3])
((.seq ((.seq (.ops F88o7 [3, 20, 21, 22])
(.block 1 (.loop [3, 20, 21, 22] F88b12))))
((.seq (.ops F88o13 [2])
(.ret)))))))
(.skip))))))))))
((.seq (.ops F88o14 [2])
(.ret))))))
def F88 : AFn := ⟨33, [.tmp 2], F88c⟩
theorem F88_ok : cFn Tryz.prog [] 88 = some F88 := by kernel_rfl
def F90o0 : List AOper := [⟨some 1, .m (.box 37 (.t 0)), none⟩,⟨some 2, .t (.mv (.c (.int .i64 0))), none⟩]
def F90o1 : List AOper := [⟨some 3, .t (.mv (.c (.int .i64 1))), none⟩]
def F90o2 : List AOper := [⟨some 6, .t (.faddr 0 (.t 1)), none⟩,⟨some 7, .m (.load false 1 (.t 6)), none⟩]
def F90o3 : List AOper := [⟨some 9, .t (.bin .eql (.t 7) (.c (.int .i64 8))), none⟩,⟨some 8, .t (.mv (.t 9)), none⟩]
def F90o4 : List AOper := [⟨some 10, .t (.faddr 1 (.t 1)), none⟩,⟨some 11, .m (.load false 1 (.t 10)), none⟩,⟨some 12, .t (.bin .gtr (.t 11) (.c (.int .i64 0))), none⟩]
def F90o5 : List AOper := [⟨some 13, .t (.mv (.t 3)), none⟩,⟨some 14, .t (.faddr 1 (.t 1)), none⟩,⟨some 15, .m (.load false 1 (.t 14)), none⟩,⟨some 16, .t (.faddr 5 (.t 1)), none⟩,⟨some 17, .m (.load false 1 (.t 16)), none⟩,⟨some 18, .t (.iaddr 7 (.t 17) (.c (.int .i64 0))), none⟩,⟨some 19, .m (.load true 7 (.t 18)), none⟩,⟨some 20, .call (.c (.clo 90 [] [])) [(.t 19)], none⟩,⟨some 21, .t (.bin .mul (.t 15) (.t 20)), none⟩]
def F90p5 : List AOper := [⟨some 22, .t (.bin .add (.t 13) (.t 21)), none⟩,⟨some 3, .t (.mv (.t 22)), none⟩]
def F90A5 : List (List Nat) := [[], [], [1], [], [3], [4, 3], [5, 4, 3], [6, 5, 4, 3], [2, 7, 1, 6, 5, 4, 3], [0, 8, 2, 7, 1, 6, 5, 4, 3], [9, 0, 8, 2, 7, 1, 6, 5, 4, 3]]
def F90o6 : List AOper := [⟨some 24, .t (.bin .eql (.t 7) (.c (.int .i64 10))), none⟩,⟨some 23, .t (.mv (.t 24)), none⟩]
def F90o7 : List AOper := [⟨some 25, .t (.mv (.t 3)), none⟩,⟨some 26, .t (.faddr 6 (.t 1)), none⟩,⟨some 27, .m (.load false 1 (.t 26)), none⟩,⟨some 28, .t (.iaddr 11 (.t 27) (.c (.int .i64 0))), none⟩,⟨some 29, .t (.faddr 3 (.t 28)), none⟩,⟨some 30, .m (.load true 7 (.t 29)), none⟩,⟨some 31, .call (.c (.clo 90 [] [])) [(.t 30)], none⟩,⟨some 32, .t (.bin .add (.t 25) (.t 31)), none⟩,⟨some 3, .t (.mv (.t 32)), none⟩]
def F90o8 : List AOper := [⟨some 34, .t (.bin .eql (.t 7) (.c (.int .i64 9))), none⟩,⟨some 33, .t (.mv (.t 34)), none⟩]
def F90o9 : List AOper := [⟨some 35, .t (.faddr 6 (.t 1)), none⟩,⟨some 36, .m (.load false 1 (.t 35)), none⟩,⟨some 37, .t (.len false (.t 36)), none⟩,⟨some 38, .t (.mv (.c (.int .i64 0))), none⟩]
def F90o10 : List AOper := [⟨some 39, .t (.bin .lss (.t 38) (.t 37)), none⟩]
def F90o11 : List AOper := [⟨some 40, .t (.iaddr 11 (.t 36) (.t 38)), none⟩,⟨some 41, .m (.load true 11 (.t 40)), none⟩,⟨some 5, .m (.alloc 47 [(.int .i64 0), (.str []), (.int .i64 0), (.int .i64 0), (.int .i64 0), (.int .i64 0), (.int .i64 0), .nils, .nils, .nils, .nils]), none⟩,⟨none, .m (.store 11 (.t 5) (.t 41)), none⟩]
def F90o12 : List AOper := [⟨some 42, .t (.faddr 2 (.t 5)), none⟩,⟨some 43, .m (.load false 1 (.t 42)), none⟩]
def F90o13 : List AOper := [⟨some 45, .t (.bin .eql (.t 43) (.c (.int .i64 1))), none⟩,⟨some 44, .t (.mv (.t 45)), none⟩]
def F90o14 : List AOper := [⟨some 46, .t (.mv (.t 3)), none⟩,⟨some 47, .t (.faddr 3 (.t 5)), none⟩,⟨some 48, .m (.load true 7 (.t 47)), none⟩,⟨some 49, .call (.c (.clo 90 [] [])) [(.t 48)], none⟩,⟨some 50, .t (.bin .add (.t 46) (.t 49)), none⟩,⟨some 3, .t (.mv (.t 50)), none⟩]
def F90o15 : List AOper := [⟨some 52, .t (.bin .eql (.t 43) (.c (.int .i64 3))), none⟩,⟨some 51, .t (.mv (.t 52)), none⟩]
def F90o16 : List AOper := [⟨some 53, .t (.mv (.t 3)), none⟩,⟨some 54, .t (.faddr 10 (.t 5)), none⟩,⟨some 55, .m (.load false 1 (.t 54)), none⟩,⟨some 56, .t (.iaddr 6 (.t 55) (.c (.int .i64 0))), none⟩,⟨some 57, .m (.load true 6 (.t 56)), none⟩,⟨some 58, .call (.c (.clo 135 [] [])) [(.t 57)], none⟩,⟨some 59, .t (.bin .add (.t 53) (.t 58)), none⟩,⟨some 3, .t (.mv (.t 59)), none⟩]
def F90o17 : List AOper := [⟨some 60, .t (.bin .add (.t 38) (.c (.int .i64 1))), none⟩,⟨some 38, .t (.mv (.t 60)), none⟩]
def F90b18 : ACode :=
(.seq (.ops F90o10 [3, 36, 37, 38, 39])
((.seq (.cond (.t 39)
(.skip)
(.exit 1))
((.seq (.block 2 ((.seq (.ops F90o11 [3, 5, 36, 37, 38])
((.seq (.ops F90o12 [3, 5, 36, 37, 38, 43])
(.block 3 ((.seq (.ops F90o13 [3, 5, 36, 37, 38, 43, 44])
(.cond (.t 44)
(.ops F90o14 [3, 36, 37, 38])
((.seq (.ops F90o15 [3, 5, 36, 37, 38, 51])
(.cond (.t 51)
(.ops F90o16 [3, 36, 37, 38])
(.skip)))))))))))))
(.ops F90o17 [3, 36, 37, 38]))))))
def F90o19 : List AOper := [⟨some 61, .t (.mv (.t 3)), none⟩,⟨some 62, .t (.imin (.t 61) (.c (.int .i64 4097))), none⟩,⟨some 2, .t (.mv (.t 62)), none⟩]
def F90c : ACode :=
(.seq (.ops F90o0 [1])
((.seq (.ops F90o1 [1, 3])
((.seq ((.seq (.ops F90o2 [1, 3, 7])
(.block 0 ((.seq (.ops F90o3 [1, 3, 7, 8])
(.cond (.t 8)
((.seq (.ops F90o4 [1, 3, 12])
(.cond (.t 12)
(.draw F90A5 F90o5 F90p5 [3])
(.skip))))
((.seq (.ops F90o6 [1, 3, 7, 23])
(.cond (.t 23)
(.ops F90o7 [3])
((.seq (.ops F90o8 [1, 3, 33])
(.cond (.t 33)
((.seq (.ops F90o9 [3, 36, 37, 38])
(.block 1 (.loop [3, 36, 37, 38] F90b18))))
(.skip)))))))))))))
((.seq (.ops F90o19 [2])
(.ret))))))))
def F90 : AFn := ⟨63, [.tmp 2], F90c⟩
theorem F90_ok : cFn Tryz.prog [] 90 = some F90 := by kernel_rfl
def F91o0 : List AOper := [⟨some 4, .t (.mv (.c (.int .i64 0))), none⟩]
def F91o1 : List AOper := [⟨some 6, .t (.mv (.t 0)), none⟩,⟨some 7, .t (.len false (.t 6)), none⟩,⟨some 8, .t (.mv (.c (.int .i64 0))), none⟩]
def F91o2 : List AOper := [⟨some 9, .t (.bin .lss (.t 8) (.t 7)), none⟩]
def F91o3 : List AOper := [⟨some 10, .t (.mv (.t 8)), none⟩,⟨some 5, .t (.mv (.t 10)), none⟩]
def F91o4 : List AOper := [⟨some 11, .t (.mv (.t 1)), none⟩,⟨some 12, .t (.mv (.t 0)), none⟩,⟨some 13, .t (.mv (.t 5)), none⟩,⟨some 14, .t (.iaddr 11 (.t 12) (.t 13)), none⟩,⟨some 15, .m (.load true 11 (.t 14)), none⟩,⟨some 16, .call (.t 11) [(.t 15)], none⟩]
def F91o5 : List AOper := [⟨some 17, .t (.mv (.t 5)), none⟩,⟨some 4, .t (.mv (.t 17)), none⟩]
def F91o6 : List AOper := [⟨some 18, .t (.bin .add (.t 8) (.c (.int .i64 1))), none⟩,⟨some 8, .t (.mv (.t 18)), none⟩]
def F91b7 : ACode :=
(.seq (.ops F91o2 [0, 1, 7, 8, 9])
((.seq (.cond (.t 9)
(.skip)
(.exit 0))
((.seq (.block 1 ((.seq (.ops F91o3 [0, 1, 5, 7, 8])
((.seq (.ops F91o4 [0, 1, 5, 7, 8, 16])
(.cond (.t 16)
((.seq (.ops F91o5 [4])
(.ret)))
(.skip)))))))
(.ops F91o6 [0, 1, 7, 8]))))))
def F91o8 : List AOper := [⟨some 4, .t (.mv (.c (.int .i64 (-1)))), none⟩]
def F91c : ACode :=
(.seq (.ops F91o0 [0, 1])
((.seq ((.seq (.ops F91o1 [0, 1, 7, 8])
(.block 0 (.loop [0, 1, 7, 8] F91b7))))
((.seq (.ops F91o8 [4])
(.ret))))))
def F91 : AFn := ⟨19, [.tmp 4], F91c⟩
theorem F91_ok : cFn Tryz.prog [] 91 = some F91 := by kernel_rfl
def F95o0 : List AOper := [⟨some 4, .t (.mv (.c (.str []))), none⟩]
def F95o1 : List AOper := [⟨some 5, .t (.mv (.t 0)), none⟩,⟨some 6, .t (.bin .eql (.t 5) (.c (.str []))), none⟩]
def F95o2 : List AOper := [⟨some 7, .t (.mv (.t 1)), none⟩,⟨some 4, .t (.mv (.t 7)), none⟩]
def F95o3 : List AOper := [⟨some 8, .t (.mv (.t 0)), none⟩,⟨some 9, .t (.bin .add (.t 8) (.c (.str [46]))), none⟩,⟨some 10, .t (.mv (.t 1)), none⟩,⟨some 11, .t (.bin .add (.t 9) (.t 10)), none⟩,⟨some 4, .t (.mv (.t 11)), none⟩]
def F95c : ACode :=
(.seq (.ops F95o0 [0, 1])
((.seq ((.seq (.ops F95o1 [0, 1, 6])
(.cond (.t 6)
((.seq (.ops F95o2 [4])
(.ret)))
(.skip))))
((.seq (.ops F95o3 [4])
(.ret))))))
def F95 : AFn := ⟨12, [.tmp 4], F95c⟩
theorem F95_ok : cFn Tryz.prog [] 95 = some F95 := by kernel_rfl
def F96o0 : List AOper := [⟨some 2, .m (.box 47 (.t 0)), none⟩,⟨some 3, .t (.mv (.c (.bool false))), none⟩]
def F96o1 : List AOper := [⟨some 4, .t (.faddr 1 (.t 2)), none⟩,⟨some 5, .m (.load false 1 (.t 4)), none⟩,⟨some 6, .m (.load false 1 (.t 1)), none⟩,⟨some 7, .t (.bin .eql (.t 5) (.t 6)), none⟩,⟨some 3, .t (.mv (.t 7)), none⟩]
def F96c : ACode :=
(.seq (.ops F96o0 [1, 2])
((.seq (.ops F96o1 [3])
(.ret))))
def F96 : AFn := ⟨8, [.tmp 3], F96c⟩
theorem F96_ok : cFn Tryz.prog [] 96 = some F96 := by kernel_rfl
def F101o0 : List AOper := [⟨some 6, .t (.mv (.c (.bool false))), none⟩]
def F101o1 : List AOper := [⟨some 7, .t (.mv (.t 0)), none⟩,⟨some 8, .t (.mv (.t 1)), none⟩,⟨some 9, .t (.bin .geq (.t 7) (.t 8)), none⟩,⟨some 10, .t (.mv (.t 9)), none⟩,⟨some 11, .t (.mv (.t 0)), (some (10, true))⟩,
  ⟨some 12, .t (.mv (.t 2)), (some (10, true))⟩,
  ⟨some 13, .t (.bin .leq (.t 11) (.t 12)), (some (10, true))⟩,
  ⟨some 14, .t (.pick (.t 10) (.t 13) (.c (.bool false))), none⟩,⟨some 6, .t (.mv (.t 14)), none⟩]
def F101c : ACode :=
(.seq (.ops F101o0 [0, 1, 2])
((.seq (.ops F101o1 [6])
(.ret))))
def F101 : AFn := ⟨15, [.tmp 6], F101c⟩
theorem F101_ok : cFn Tryz.prog [] 101 = some F101 := by kernel_rfl
def F102o0 : List AOper := [⟨some 2, .t (.mv (.c (.int .i64 0))), none⟩]
def F102o1 : List AOper := [⟨some 4, .t (.mv (.t 0)), none⟩,⟨some 5, .t (.bin .sub (.t 4) (.c (.int .i64 1))), none⟩,⟨some 3, .t (.mv (.t 5)), none⟩]
def F102o2 : List AOper := [⟨some 6, .t (.mv (.t 3)), none⟩,⟨some 7, .t (.bin .mul (.c (.int .i64 365)) (.t 6)), none⟩,⟨some 8, .t (.mv (.t 3)), none⟩,⟨some 9, .t (.bin .quo (.t 8) (.c (.int .i64 4))), none⟩,⟨some 10, .t (.bin .add (.t 7) (.t 9)), none⟩,⟨some 11, .t (.mv (.t 3)), none⟩,⟨some 12, .t (.bin .quo (.t 11) (.c (.int .i64 100))), none⟩,⟨some 13, .t (.bin .sub (.t 10) (.t 12)), none⟩,⟨some 14, .t (.mv (.t 3)), none⟩,⟨some 15, .t (.bin .quo (.t 14) (.c (.int .i64 400))), none⟩,⟨some 16, .t (.bin .add (.t 13) (.t 15)), none⟩,⟨some 2, .t (.mv (.t 16)), none⟩]
def F102c : ACode :=
(.seq (.ops F102o0 [0])
((.seq (.ops F102o1 [3])
((.seq (.ops F102o2 [2])
(.ret))))))
def F102 : AFn := ⟨17, [.tmp 2], F102c⟩
theorem F102_ok : cFn Tryz.prog [] 102 = some F102 := by kernel_rfl
def F103o0 : List AOper := [⟨some 4, .t (.mv (.c (.int .i64 0))), none⟩]
def F103o1 : List AOper := [⟨some 5, .t (.mv (.t 1)), none⟩,⟨some 6, .t (.bin .eql (.t 5) (.c (.int .i64 2))), none⟩,⟨some 7, .t (.mv (.t 6)), none⟩,⟨some 8, .t (.mv (.t 0)), (some (7, true))⟩,
  ⟨some 9, .call (.c (.clo 142 [] [])) [(.t 8)], (some (7, true))⟩,
  ⟨some 10, .t (.pick (.t 7) (.t 9) (.c (.bool false))), none⟩]
def F103o2 : List AOper := [⟨some 4, .t (.mv (.c (.int .i64 29))), none⟩]
def F103o3 : List AOper := [⟨some 11, .t (.build [(.int .i64 0), (.int .i64 0), (.int .i64 0), (.int .i64 0), (.int .i64 0), (.int .i64 0), (.int .i64 0), (.int .i64 0), (.int .i64 0), (.int .i64 0), (.int .i64 0), (.int .i64 0)] [(0, 1, (.c (.int .i64 31))), (1, 1, (.c (.int .i64 28))), (2, 1, (.c (.int .i64 31))), (3, 1, (.c (.int .i64 30))), (4, 1, (.c (.int .i64 31))), (5, 1, (.c (.int .i64 30))), (6, 1, (.c (.int .i64 31))), (7, 1, (.c (.int .i64 31))), (8, 1, (.c (.int .i64 30))), (9, 1, (.c (.int .i64 31))), (10, 1, (.c (.int .i64 30))), (11, 1, (.c (.int .i64 31)))]), none⟩,⟨some 12, .t (.mv (.t 1)), none⟩,⟨some 13, .t (.bin .sub (.t 12) (.c (.int .i64 1))), none⟩,⟨some 14, .t (.indexA false 12 1 (.t 11) (.t 13)), none⟩,⟨some 4, .t (.mv (.t 14)), none⟩]
def F103c : ACode :=
(.seq (.ops F103o0 [0, 1])
((.seq ((.seq (.ops F103o1 [1, 10])
(.cond (.t 10)
((.seq (.ops F103o2 [4])
(.ret)))
(.skip))))
((.seq (.ops F103o3 [4])
(.ret))))))
def F103 : AFn := ⟨15, [.tmp 4], F103c⟩
theorem F103_ok : cFn Tryz.prog [] 103 = some F103 := by kernel_rfl
def F111o0 : List AOper := [⟨some 2, .t (.mv (.c .nilf)), none⟩]
def F111o1 : List AOper := [⟨some 3, .t (.mv (.t 0)), none⟩,⟨some 4, .t (.nilck (.t 3)), none⟩,⟨some 5, .t (.faddr 2 (.t 4)), none⟩,⟨some 6, .m (.load false 1 (.t 5)), none⟩,⟨some 7, .t (.mv (.t 0)), none⟩,⟨some 8, .t (.nilck (.t 7)), none⟩,⟨some 9, .t (.faddr 0 (.t 8)), none⟩,⟨some 10, .m (.load false 1 (.t 9)), none⟩,⟨some 11, .t (.len true (.t 10)), none⟩]
def F111p1 : List AOper := [⟨some 12, .t (.bin .geq (.t 6) (.t 11)), none⟩]
def F111A1 : List (List Nat) := [[], [0], [1, 0], [2, 1, 0], [], [4], [5, 4], [6, 5, 4], [7, 6, 5, 4], [3, 8, 2, 1, 0, 7, 6, 5, 4]]
def F111o2 : List AOper := [⟨some 2, .t (.mv (.c .nilf)), none⟩]
def F111o3 : List AOper := [⟨some 13, .t (.mv (.t 0)), none⟩,⟨some 14, .t (.nilck (.t 13)), none⟩,⟨some 15, .t (.faddr 2 (.t 14)), none⟩,⟨some 16, .m (.load false 1 (.t 15)), none⟩,⟨some 17, .t (.bin .add (.t 16) (.c (.int .i64 1))), none⟩,⟨some 18, .t (.nilck (.t 13)), none⟩,⟨some 19, .t (.faddr 2 (.t 18)), none⟩,⟨none, .m (.store 1 (.t 19) (.t 17)), none⟩]
def F111o4 : List AOper := [⟨some 2, .t (.mv (.c (.clo 39 [] []))), none⟩]
def F111c : ACode :=
(.seq (.ops F111o0 [0])
((.seq ((.seq (.draw F111A1 F111o1 F111p1 [0, 12])
(.cond (.t 12)
((.seq (.ops F111o2 [2])
(.ret)))
(.skip))))
((.seq (.ops F111o3 [])
((.seq (.ops F111o4 [2])
(.ret))))))))
def F111 : AFn := ⟨20, [.tmp 2], F111c⟩
theorem F111_ok : cFn Tryz.prog [] 111 = some F111 := by kernel_rfl
def F112o0 : List AOper := [⟨some 4, .t (.mv (.c (.str []))), none⟩,⟨some 5, .t (.mv (.c (.str []))), none⟩,⟨some 6, .t (.mv (.c (.bool false))), none⟩]
def F112o1 : List AOper := [⟨some 8, .t (.mv (.t 0)), none⟩,⟨some 9, .t (.mv (.t 1)), none⟩,⟨some 10, .call (.c (.clo 148 [] [])) [(.t 8), (.t 9)], none⟩,⟨some 7, .t (.mv (.t 10)), none⟩]
def F112o2 : List AOper := [⟨some 11, .t (.mv (.t 7)), none⟩,⟨some 12, .t (.bin .geq (.t 11) (.c (.int .i64 0))), none⟩]
def F112o3 : List AOper := [⟨some 13, .t (.mv (.t 0)), none⟩,⟨some 14, .t (.mv (.t 7)), none⟩,⟨some 15, .t (.sliceS (.t 13) none (some (.t 14))), none⟩,⟨some 16, .t (.mv (.t 0)), none⟩,⟨some 17, .t (.mv (.t 7)), none⟩,⟨some 18, .t (.mv (.t 1)), none⟩,⟨some 19, .t (.len true (.t 18)), none⟩,⟨some 20, .t (.bin .add (.t 17) (.t 19)), none⟩,⟨some 21, .t (.sliceS (.t 16) (some (.t 20)) none), none⟩,⟨some 4, .t (.mv (.t 15)), none⟩]
def F112p3 : List AOper := [⟨some 5, .t (.mv (.t 21)), none⟩,⟨some 6, .t (.mv (.c (.bool true))), none⟩]
def F112A3 : List (List Nat) := [[], [], [0, 1], [], [], [], [5], [4, 6, 5], [3, 7, 4, 6, 5], [2, 0, 1], [8, 9, 3, 7, 4, 6, 5, 2, 0, 1], [10, 8, 9, 3, 7, 4, 6, 5, 2, 0, 1]]
def F112o4 : List AOper := [⟨some 22, .t (.mv (.t 0)), none⟩,⟨some 4, .t (.mv (.t 22)), none⟩,⟨some 5, .t (.mv (.c (.str []))), none⟩,⟨some 6, .t (.mv (.c (.bool false))), none⟩]
def F112c : ACode :=
(.seq (.ops F112o0 [0, 1])
((.seq ((.seq (.ops F112o1 [0, 1, 7])
((.seq (.ops F112o2 [0, 1, 7, 12])
(.cond (.t 12)
((.seq (.draw F112A3 F112o3 F112p3 [4, 5, 6])
(.ret)))
(.skip))))))
((.seq (.ops F112o4 [4, 5, 6])
(.ret))))))
def F112 : AFn := ⟨23, [.tmp 4, .tmp 5, .tmp 6], F112c⟩
theorem F112_ok : cFn Tryz.prog [] 112 = some F112 := by kernel_rfl
def F113o0 : List AOper := [⟨some 2, .t (.mv (.c (.int .i64 0))), none⟩,⟨some 3, .t (.mv (.c .nili)), none⟩]
def F113o1 : List AOper := [⟨some 11, .t (.mv (.t 0)), none⟩,⟨some 12, .t (.len true (.t 11)), none⟩,⟨some 4, .t (.mv (.t 12)), none⟩]
def F113o2 : List AOper := [⟨some 13, .t (.mv (.c (.bool false))), none⟩,⟨some 14, .t (.mv (.t 4)), (some (13, true))⟩,
  ⟨some 15, .t (.bin .lss (.c (.int .i64 0)) (.t 14)), (some (13, true))⟩,
  ⟨some 16, .t (.mv (.t 15)), (some (13, true))⟩,
  ⟨some 17, .t (.mv (.t 4)), (some (16, true))⟩,
  ⟨some 18, .t (.bin .lss (.t 17) (.c (.int .i64 10))), (some (16, true))⟩,
  ⟨some 19, .t (.pick (.t 16) (.t 18) (.c (.bool false))), (some (13, true))⟩,
  ⟨some 20, .t (.pick (.t 13) (.t 19) (.c (.bool false))), none⟩,⟨some 21, .t (.mv (.t 20)), none⟩,⟨some 22, .t (.mv (.c (.bool true))), (some (21, false))⟩,
  ⟨some 23, .t (.mv (.t 4)), (some (22, true))⟩,
  ⟨some 24, .t (.bin .lss (.c (.int .i64 0)) (.t 23)), (some (22, true))⟩,
  ⟨some 25, .t (.mv (.t 24)), (some (22, true))⟩,
  ⟨some 26, .t (.mv (.t 4)), (some (25, true))⟩,
  ⟨some 27, .t (.bin .lss (.t 26) (.c (.int .i64 19))), (some (25, true))⟩,
  ⟨some 28, .t (.pick (.t 25) (.t 27) (.c (.bool false))), (some (22, true))⟩,
  ⟨some 29, .t (.pick (.t 22) (.t 28) (.c (.bool false))), (some (21, false))⟩,
  ⟨some 30, .t (.pick (.t 21) (.c (.bool true)) (.t 29)), none⟩]
def F113o3 : List AOper := [⟨some 31, .t (.mv (.t 0)), none⟩,⟨some 5, .t (.mv (.t 31)), none⟩]
def F113o4 : List AOper := [⟨some 32, .t (.mv (.t 0)), none⟩,⟨some 33, .t (.index (.t 32) (.c (.int .i64 0))), none⟩,⟨some 34, .t (.bin .eql (.t 33) (.c (.int .u8 45))), none⟩,⟨some 35, .t (.mv (.t 34)), none⟩,⟨some 36, .t (.mv (.t 0)), (some (35, false))⟩,
  ⟨some 37, .t (.index (.t 36) (.c (.int .i64 0))), (some (35, false))⟩,
  ⟨some 38, .t (.bin .eql (.t 37) (.c (.int .u8 43))), (some (35, false))⟩,
  ⟨some 39, .t (.pick (.t 35) (.c (.bool true)) (.t 38)), none⟩]
def F113o5 : List AOper := [⟨some 40, .t (.mv (.t 0)), none⟩,⟨some 41, .t (.sliceS (.t 40) (some (.c (.int .i64 1))) none), none⟩,⟨some 0, .t (.mv (.t 41)), none⟩]
def F113o6 : List AOper := [⟨some 42, .t (.mv (.t 0)), none⟩,⟨some 43, .t (.len true (.t 42)), none⟩,⟨some 44, .t (.bin .lss (.t 43) (.c (.int .i64 1))), none⟩]
def F113o7 : List AOper := [⟨some 45, .call (.c .undef) [], none⟩,⟨some 2, .t (.mv (.c (.int .i64 0))), none⟩,⟨some 3, .t (.mv (.t 45)), none⟩]
def F113o8 : List AOper := [⟨some 6, .t (.mv (.c (.int .i64 0))), none⟩]
def F113o9 : List AOper := [⟨some 46, .t (.mv (.t 0)), none⟩,⟨some 47, .m (.xop (.ofStr (.t 46))), none⟩,⟨some 48, .t (.len false (.t 47)), none⟩,⟨some 49, .t (.mv (.c (.int .i64 0))), none⟩]
def F113o10 : List AOper := [⟨some 50, .t (.bin .lss (.t 49) (.t 48)), none⟩]
def F113o11 : List AOper := [⟨some 51, .t (.iaddr 1 (.t 47) (.t 49)), none⟩,⟨some 52, .m (.load false 1 (.t 51)), none⟩,⟨some 8, .t (.mv (.t 52)), none⟩]
def F113o12 : List AOper := [⟨some 53, .t (.mv (.t 8)), none⟩,⟨some 54, .t (.bin .sub (.t 53) (.c (.int .u8 48))), none⟩,⟨some 8, .t (.mv (.t 54)), none⟩]
def F113o13 : List AOper := [⟨some 55, .t (.mv (.t 8)), none⟩,⟨some 56, .t (.bin .gtr (.t 55) (.c (.int .u8 9))), none⟩]
def F113o14 : List AOper := [⟨some 57, .call (.c .undef) [], none⟩,⟨some 2, .t (.mv (.c (.int .i64 0))), none⟩,⟨some 3, .t (.mv (.t 57)), none⟩]
def F113o15 : List AOper := [⟨some 58, .t (.mv (.t 6)), none⟩,⟨some 59, .t (.bin .mul (.t 58) (.c (.int .i64 10))), none⟩,⟨some 60, .t (.mv (.t 8)), none⟩,⟨some 61, .t (.conv .i64 (.t 60)), none⟩,⟨some 62, .t (.bin .add (.t 59) (.t 61)), none⟩,⟨some 6, .t (.mv (.t 62)), none⟩]
def F113o16 : List AOper := [⟨some 63, .t (.bin .add (.t 49) (.c (.int .i64 1))), none⟩,⟨some 49, .t (.mv (.t 63)), none⟩]
def F113b17 : ACode :=
(.seq (.ops F113o10 [5, 6, 47, 48, 49, 50])
((.seq (.cond (.t 50)
(.skip)
(.exit 0))
((.seq (.block 1 ((.seq (.ops F113o11 [5, 6, 8, 47, 48, 49])
((.seq (.ops F113o12 [5, 6, 8, 47, 48, 49])
((.seq ((.seq (.ops F113o13 [5, 6, 8, 47, 48, 49, 56])
(.cond (.t 56)
((.seq (.ops F113o14 [2, 3])
(.ret)))
(.skip))))
(.ops F113o15 [5, 6, 47, 48, 49]))))))))
(.ops F113o16 [5, 6, 47, 48, 49]))))))
def F113o18 : List AOper := [⟨some 64, .t (.mv (.t 5)), none⟩,⟨some 65, .t (.index (.t 64) (.c (.int .i64 0))), none⟩,⟨some 66, .t (.bin .eql (.t 65) (.c (.int .u8 45))), none⟩]
def F113o19 : List AOper := [⟨some 67, .t (.mv (.t 6)), none⟩,⟨some 68, .t (.neg (.t 67)), none⟩,⟨some 6, .t (.mv (.t 68)), none⟩]
def F113o20 : List AOper := [⟨some 69, .t (.mv (.t 6)), none⟩,⟨some 2, .t (.mv (.t 69)), none⟩,⟨some 3, .t (.mv (.c .nili)), none⟩]
def F113o21 : List AOper := [⟨some 71, .t (.mv (.t 0)), none⟩,⟨some 72, .call (.c (.clo 150 [] [])) [(.t 71), (.c (.int .i64 10)), (.c (.int .i64 0))], none⟩,⟨some 70, .t (.mv (.t 72)), none⟩,⟨some 73, .t (.ext (.t 70) 0), none⟩,⟨some 74, .t (.ext (.t 70) 1), none⟩,⟨some 9, .t (.mv (.t 73)), none⟩,⟨some 10, .t (.mv (.t 74)), none⟩]
def F113o22 : List AOper := [⟨some 75, .t (.mv (.t 9)), none⟩,⟨some 76, .t (.mv (.t 10)), none⟩,⟨some 2, .t (.mv (.t 75)), none⟩,⟨some 3, .t (.mv (.t 76)), none⟩]
def F113c : ACode :=
(.seq (.ops F113o0 [0])
((.seq (.ops F113o1 [0, 4])
((.seq ((.seq (.ops F113o2 [0, 30])
(.cond (.t 30)
((.seq (.ops F113o3 [0, 5])
((.seq ((.seq (.ops F113o4 [0, 5, 39])
(.cond (.t 39)
((.seq (.ops F113o5 [0, 5])
((.seq (.ops F113o6 [0, 5, 44])
(.cond (.t 44)
((.seq (.ops F113o7 [2, 3])
(.ret)))
(.skip))))))
(.skip))))
((.seq (.ops F113o8 [0, 5, 6])
((.seq ((.seq (.ops F113o9 [5, 6, 47, 48, 49])
(.block 0 (.loop [5, 6, 47, 48, 49] F113b17))))
((.seq ((.seq (.ops F113o18 [6, 66])
(.cond (.t 66)
(.ops F113o19 [6])
(.skip))))
((.seq (.ops F113o20 [2, 3])
(.ret)))))))))))))
(.skip))))
((.seq (.ops F113o21 [9, 10])
((.seq (.ops F113o22 [2, 3])
(.ret))))))))))
def F113 : AFn := ⟨77, [.tmp 2, .tmp 3], F113c⟩
theorem F113_ok : cFn Tryz.prog [] 113 = some F113 := by kernel_rfl
def F115o0 : List AOper := [⟨some 4, .t (.mv (.c (.int .i64 0))), none⟩,⟨some 5, .t (.mv (.c (.int .i64 0))), none⟩]
def F115o1 : List AOper := [⟨some 6, .t (.mv (.t 0)), none⟩,⟨some 7, .call (.c (.clo 101 [] [])) [(.t 6), (.c (.int .i64 1)), (.c (.int .i64 9999))], none⟩,⟨some 8, .t (.not (.t 7)), none⟩,⟨some 9, .t (.mv (.t 8)), none⟩,⟨some 10, .t (.mv (.t 1)), (some (9, false))⟩,
  ⟨some 11, .call (.c (.clo 101 [] [])) [(.t 10), (.c (.int .i64 1)), (.c (.int .i64 12))], (some (9, false))⟩,
  ⟨some 12, .t (.not (.t 11)), (some (9, false))⟩,
  ⟨some 13, .t (.pick (.t 9) (.c (.bool true)) (.t 12)), none⟩]
def F115o2 : List AOper := [⟨some 4, .t (.mv (.c (.int .i64 0))), none⟩,⟨some 5, .t (.mv (.c (.int .i64 17))), none⟩]
def F115o3 : List AOper := [⟨some 14, .t (.mv (.t 0)), none⟩,⟨some 15, .t (.mv (.t 1)), none⟩,⟨some 16, .call (.c (.clo 103 [] [])) [(.t 14), (.t 15)], none⟩,⟨some 4, .t (.mv (.t 16)), none⟩,⟨some 5, .t (.mv (.c (.int .i64 0))), none⟩]
def F115c : ACode :=
(.seq (.ops F115o0 [0, 1])
((.seq ((.seq (.ops F115o1 [0, 1, 13])
(.cond (.t 13)
((.seq (.ops F115o2 [4, 5])
(.ret)))
(.skip))))
((.seq (.ops F115o3 [4, 5])
(.ret))))))
def F115 : AFn := ⟨17, [.tmp 4, .tmp 5], F115c⟩
theorem F115_ok : cFn Tryz.prog [] 115 = some F115 := by kernel_rfl
def F116o0 : List AOper := [⟨some 4, .t (.mv (.c (.str []))), none⟩,⟨some 5, .t (.mv (.c (.bool false))), none⟩]
def F116o1 : List AOper := [⟨some 6, .t (.mv (.t 0)), none⟩,⟨some 7, .t (.mv (.t 1)), none⟩,⟨some 8, .call (.c (.clo 140 [] [])) [(.t 6), (.t 7)], none⟩,⟨some 9, .t (.not (.t 8)), none⟩]
def F116o2 : List AOper := [⟨some 10, .t (.mv (.t 0)), none⟩,⟨some 4, .t (.mv (.t 10)), none⟩,⟨some 5, .t (.mv (.c (.bool false))), none⟩]
def F116o3 : List AOper := [⟨some 11, .t (.mv (.t 0)), none⟩,⟨some 12, .t (.mv (.t 1)), none⟩,⟨some 13, .t (.len true (.t 12)), none⟩,⟨some 14, .t (.sliceS (.t 11) (some (.t 13)) none), none⟩,⟨some 4, .t (.mv (.t 14)), none⟩,⟨some 5, .t (.mv (.c (.bool true))), none⟩]
def F116c : ACode :=
(.seq (.ops F116o0 [0, 1])
((.seq ((.seq (.ops F116o1 [0, 1, 9])
(.cond (.t 9)
((.seq (.ops F116o2 [4, 5])
(.ret)))
(.skip))))
((.seq (.ops F116o3 [4, 5])
(.ret))))))
def F116 : AFn := ⟨15, [.tmp 4, .tmp 5], F116c⟩
theorem F116_ok : cFn Tryz.prog [] 116 = some F116 := by kernel_rfl
def F117o0 : List AOper := [⟨some 10, .t (.mv (.t 1)), none⟩,⟨some 11, .t (.bin .add (.t 10) (.c (.int .i64 1))), none⟩,⟨some 8, .t (.mv (.t 11)), none⟩]
def F117o1 : List AOper := [⟨some 12, .t (.mv (.t 8)), none⟩,⟨some 13, .t (.mv (.t 2)), none⟩,⟨some 14, .t (.bin .lss (.t 12) (.t 13)), none⟩]
def F117o2 : List AOper := [⟨some 17, .t (.mv (.t 8)), none⟩,⟨some 9, .t (.mv (.t 17)), none⟩]
def F117o3 : List AOper := [⟨some 18, .t (.mv (.t 9)), none⟩,⟨some 19, .t (.mv (.t 1)), none⟩,⟨some 20, .t (.bin .gtr (.t 18) (.t 19)), none⟩,⟨some 21, .t (.mv (.t 20)), none⟩,⟨some 22, .t (.mv (.t 3)), (some (21, true))⟩,
  ⟨some 23, .t (.mv (.t 0)), (some (21, true))⟩,
  ⟨some 24, .t (.mv (.t 9)), (some (21, true))⟩,
  ⟨some 25, .t (.iaddr 7 (.t 23) (.t 24)), (some (21, true))⟩,
  ⟨some 26, .m (.load true 7 (.t 25)), (some (21, true))⟩,
  ⟨some 27, .t (.mv (.t 0)), (some (21, true))⟩,
  ⟨some 28, .t (.mv (.t 9)), (some (21, true))⟩,
  ⟨some 29, .t (.bin .sub (.t 28) (.c (.int .i64 1))), (some (21, true))⟩,
  ⟨some 30, .t (.iaddr 7 (.t 27) (.t 29)), (some (21, true))⟩,
  ⟨some 31, .m (.load true 7 (.t 30)), (some (21, true))⟩]
def F117p3 : List AOper := [⟨some 32, .call (.t 22) [(.t 26), (.t 31)], (some (21, true))⟩,
  ⟨some 33, .t (.bin .lss (.t 32) (.c (.int .i64 0))), (some (21, true))⟩,
  ⟨some 34, .t (.pick (.t 21) (.t 33) (.c (.bool false))), none⟩]
def F117A3 : List (List Nat) := [[], [], [0, 1], [2, 0, 1], [3, 2, 0, 1], [3, 2, 0, 1], [3, 2, 0, 1], [5, 6, 3, 2, 0, 1], [7, 5, 6, 3, 2, 0, 1], [3, 2, 0, 1], [3, 2, 0, 1], [10, 3, 2, 0, 1], [9, 11, 10, 3, 2, 0, 1], [12, 9, 11, 10, 3, 2, 0, 1], [4, 8, 13, 7, 5, 6, 12, 9, 11, 10, 3, 2, 0, 1], [14, 4, 8, 13, 7, 5, 6, 12, 9, 11, 10, 3, 2, 0, 1], [15, 14, 4, 8, 13, 7, 5, 6, 12, 9, 11, 10, 3, 2, 0, 1]]
def F117o4 : List AOper := [⟨some 37, .t (.mv (.t 0)), none⟩,⟨some 38, .t (.mv (.t 9)), none⟩,⟨some 39, .t (.mv (.t 0)), none⟩,⟨some 40, .t (.mv (.t 9)), none⟩,⟨some 41, .t (.bin .sub (.t 40) (.c (.int .i64 1))), none⟩,⟨some 42, .t (.mv (.t 0)), none⟩,⟨some 43, .t (.mv (.t 9)), none⟩,⟨some 44, .t (.bin .sub (.t 43) (.c (.int .i64 1))), none⟩,⟨some 45, .t (.iaddr 7 (.t 42) (.t 44)), none⟩,⟨some 46, .m (.load true 7 (.t 45)), none⟩,⟨some 47, .t (.mv (.t 0)), none⟩,⟨some 48, .t (.mv (.t 9)), none⟩,⟨some 49, .t (.iaddr 7 (.t 47) (.t 48)), none⟩,⟨some 50, .m (.load true 7 (.t 49)), none⟩,⟨some 51, .t (.iaddr 7 (.t 37) (.t 38)), none⟩,⟨none, .m (.store 7 (.t 51) (.t 46)), none⟩]
def F117p4 : List AOper := [⟨some 52, .t (.iaddr 7 (.t 39) (.t 41)), none⟩,⟨none, .m (.store 7 (.t 52) (.t 50)), none⟩]
def F117A4 : List (List Nat) := [[], [], [], [], [3], [], [], [6], [5, 7, 6], [8, 5, 7, 6], [], [], [10, 11], [12, 10, 11], [0, 1, 9, 13, 8, 5, 7, 6, 12, 10, 11], [14, 0, 1, 9, 13, 8, 5, 7, 6, 12, 10, 11], [2, 4, 15, 3, 14, 0, 1, 9, 13, 8, 5, 7, 6, 12, 10, 11], [16, 2, 4, 15, 3, 14, 0, 1, 9, 13, 8, 5, 7, 6, 12, 10, 11]]
def F117o5 : List AOper := [⟨some 35, .t (.mv (.t 9)), none⟩,⟨some 36, .t (.bin .sub (.t 35) (.c (.int .i64 1))), none⟩,⟨some 9, .t (.mv (.t 36)), none⟩]
def F117b6 : ACode :=
(.seq ((.seq (.draw F117A3 F117o3 F117p3 [0, 1, 2, 3, 8, 9, 34])
(.cond (.t 34)
(.skip)
(.exit 2))))
((.seq (.block 3 (.draw F117A4 F117o4 F117p4 [0, 1, 2, 3, 8, 9]))
(.ops F117o5 [0, 1, 2, 3, 8, 9]))))
def F117o7 : List AOper := [⟨some 15, .t (.mv (.t 8)), none⟩,⟨some 16, .t (.bin .add (.t 15) (.c (.int .i64 1))), none⟩,⟨some 8, .t (.mv (.t 16)), none⟩]
def F117b8 : ACode :=
(.seq ((.seq (.ops F117o1 [0, 1, 2, 3, 8, 14])
(.cond (.t 14)
(.skip)
(.exit 0))))
((.seq (.block 1 ((.seq (.ops F117o2 [0, 1, 2, 3, 8, 9])
(.block 2 (.loop [0, 1, 2, 3, 8, 9] F117b6)))))
(.ops F117o7 [0, 1, 2, 3, 8]))))
def F117c : ACode :=
(.seq (.ops F117o0 [0, 1, 2, 3, 8])
(.block 0 (.loop [0, 1, 2, 3, 8] F117b8)))
def F117 : AFn := ⟨53, [], F117c⟩
theorem F117_ok : cFn Tryz.prog [] 117 = some F117 := by kernel_rfl
def F126o0 : List AOper := [⟨some 2, .t (.mv (.c (.int .i64 0))), none⟩]
def F126o1 : List AOper := [⟨some 3, .t (.mv (.t 0)), none⟩,⟨some 4, .t (.bin .geq (.t 3) (.c (.int .u64 4294967296))), none⟩]
def F126o2 : List AOper := [⟨some 5, .t (.mv (.t 0)), none⟩,⟨some 6, .t (.bin .shr (.t 5) (.c (.int .u64 32))), none⟩,⟨some 0, .t (.mv (.t 6)), none⟩]
def F126o3 : List AOper := [⟨some 2, .t (.mv (.c (.int .i64 32))), none⟩]
def F126o4 : List AOper := [⟨some 7, .t (.mv (.t 0)), none⟩,⟨some 8, .t (.bin .geq (.t 7) (.c (.int .u64 65536))), none⟩]
def F126o5 : List AOper := [⟨some 9, .t (.mv (.t 0)), none⟩,⟨some 10, .t (.bin .shr (.t 9) (.c (.int .u64 16))), none⟩,⟨some 0, .t (.mv (.t 10)), none⟩]
def F126o6 : List AOper := [⟨some 11, .t (.mv (.t 2)), none⟩,⟨some 12, .t (.bin .add (.t 11) (.c (.int .i64 16))), none⟩,⟨some 2, .t (.mv (.t 12)), none⟩]
def F126o7 : List AOper := [⟨some 13, .t (.mv (.t 0)), none⟩,⟨some 14, .t (.bin .geq (.t 13) (.c (.int .u64 256))), none⟩]
def F126o8 : List AOper := [⟨some 15, .t (.mv (.t 0)), none⟩,⟨some 16, .t (.bin .shr (.t 15) (.c (.int .u64 8))), none⟩,⟨some 0, .t (.mv (.t 16)), none⟩]
def F126o9 : List AOper := [⟨some 17, .t (.mv (.t 2)), none⟩,⟨some 18, .t (.bin .add (.t 17) (.c (.int .i64 8))), none⟩,⟨some 2, .t (.mv (.t 18)), none⟩]
def F126o10 : List AOper := [⟨some 19, .t (.mv (.t 2)), none⟩,⟨some 20, .t (.mv (.t 0)), none⟩,⟨some 21, .t (.conv .u8 (.t 20)), none⟩,⟨some 22, .t (.index (.c (.str [0, 1, 2, 2, 3, 3, 3, 3, 4, 4, 4, 4, 4, 4, 4, 4, 5, 5, 5, 5, 5, 5, 5, 5, 5, 5, 5, 5, 5, 5, 5, 5, 6, 6, 6, 6, 6, 6, 6, 6, 6, 6, 6, 6, 6, 6, 6, 6, 6, 6, 6, 6, 6, 6, 6, 6, 6, 6, 6, 6, 6, 6, 6, 6, 7, 7, 7, 7, 7, 7, 7, 7, 7, 7, 7, 7, 7, 7, 7, 7, 7, 7, 7, 7, 7, 7, 7, 7, 7, 7, 7, 7, 7, 7, 7, 7, 7, 7, 7, 7, 7, 7, 7, 7, 7, 7, 7, 7, 7, 7, 7, 7, 7, 7, 7, 7, 7, 7, 7, 7, 7, 7, 7, 7, 7, 7, 7, 7, 8, 8, 8, 8, 8, 8, 8, 8, 8, 8, 8, 8, 8, 8, 8, 8, 8, 8, 8, 8, 8, 8, 8, 8, 8, 8, 8, 8, 8, 8, 8, 8, 8, 8, 8, 8, 8, 8, 8, 8, 8, 8, 8, 8, 8, 8, 8, 8, 8, 8, 8, 8, 8, 8, 8, 8, 8, 8, 8, 8, 8, 8, 8, 8, 8, 8, 8, 8, 8, 8, 8, 8, 8, 8, 8, 8, 8, 8, 8, 8, 8, 8, 8, 8, 8, 8, 8, 8, 8, 8, 8, 8, 8, 8, 8, 8, 8, 8, 8, 8, 8, 8, 8, 8, 8, 8, 8, 8, 8, 8, 8, 8, 8, 8, 8, 8, 8, 8, 8, 8, 8, 8, 8, 8, 8, 8, 8, 8])) (.t 21)), none⟩,⟨some 23, .t (.conv .i64 (.t 22)), none⟩,⟨some 24, .t (.bin .add (.t 19) (.t 23)), none⟩,⟨some 2, .t (.mv (.t 24)), none⟩]
def F126c : ACode :=
(.seq (.ops F126o0 [0, 2])
((.seq ((.seq (.ops F126o1 [0, 2, 4])
(.cond (.t 4)
((.seq (.ops F126o2 [0])
(.ops F126o3 [0, 2])))
(.skip))))
((.seq ((.seq (.ops F126o4 [0, 2, 8])
(.cond (.t 8)
((.seq (.ops F126o5 [0, 2])
(.ops F126o6 [0, 2])))
(.skip))))
((.seq ((.seq (.ops F126o7 [0, 2, 14])
(.cond (.t 14)
((.seq (.ops F126o8 [0, 2])
(.ops F126o9 [0, 2])))
(.skip))))
((.seq (.ops F126o10 [2])
(.ret))))))))))
def F126 : AFn := ⟨25, [.tmp 2], F126c⟩
theorem F126_ok : cFn Tryz.prog [] 126 = some F126 := by kernel_rfl
def F128o0 : List AOper := [⟨some 6, .t (.mv (.c (.bool false))), none⟩]
def F128o1 : List AOper := [⟨some 7, .t (.mv (.t 0)), none⟩,⟨some 8, .t (.mv (.t 1)), none⟩,⟨some 9, .t (.bin .geq (.t 7) (.t 8)), none⟩,⟨some 10, .t (.mv (.t 9)), none⟩,⟨some 11, .t (.mv (.t 0)), (some (10, true))⟩,
  ⟨some 12, .t (.mv (.t 2)), (some (10, true))⟩,
  ⟨some 13, .t (.bin .leq (.t 11) (.t 12)), (some (10, true))⟩,
  ⟨some 14, .t (.pick (.t 10) (.t 13) (.c (.bool false))), none⟩,⟨some 6, .t (.mv (.t 14)), none⟩]
def F128c : ACode :=
(.seq (.ops F128o0 [0, 1, 2])
((.seq (.ops F128o1 [6])
(.ret))))
def F128 : AFn := ⟨15, [.tmp 6], F128c⟩
theorem F128_ok : cFn Tryz.prog [] 128 = some F128 := by kernel_rfl
def F129o0 : List AOper := [⟨some 0, .m (.alloc 178 [(.str []), (.int .i64 0), (.int .i64 0), (.bool false), (.bool false), (.bool false), (.bool false), (.bool false), (.str []), (.int .i64 0), (.int .i64 0), (.bool false), (.bool false), (.bool false), (.bool false), (.bool false), (.str []), (.int .i64 0), (.int .i64 0), (.bool false), (.bool false), (.bool false), (.bool false), (.bool false), (.str []), (.int .i64 0), (.int .i64 0), (.bool false), (.bool false), (.bool false), (.bool false), (.bool false), (.str []), (.int .i64 0), (.int .i64 0), (.bool false), (.bool false), (.bool false), (.bool false), (.bool false), (.str []), (.int .i64 0), (.int .i64 0), (.bool false), (.bool false), (.bool false), (.bool false), (.bool false), (.str []), (.int .i64 0), (.int .i64 0), (.bool false), (.bool false), (.bool false), (.bool false), (.bool false), (.str []), (.int .i64 0), (.int .i64 0), (.bool false), (.bool false), (.bool false), (.bool false), (.bool false), (.str []), (.int .i64 0), (.int .i64 0), (.bool false), (.bool false), (.bool false), (.bool false), (.bool false), (.str []), (.int .i64 0), (.int .i64 0), (.bool false), (.bool false), (.bool false), (.bool false), (.bool false), (.str []), (.int .i64 0), (.int .i64 0), (.bool false), (.bool false), (.bool false), (.bool false), (.bool false)]), none⟩]
def F129o1 : List AOper := [⟨some 1, .t (.build [(.str []), (.int .i64 0), (.int .i64 0), (.bool false), (.bool false), (.bool false), (.bool false), (.bool false)] [(0, 1, (.c (.str [98, 111, 111, 108])))]), none⟩,⟨some 2, .t (.build [(.str []), (.int .i64 0), (.int .i64 0), (.bool false), (.bool false), (.bool false), (.bool false), (.bool false)] [(0, 1, (.c (.str [105, 110, 116]))), (1, 1, (.c (.int .i64 (-999999999999999)))), (2, 1, (.c (.int .i64 999999999999999))), (3, 1, (.c (.bool true)))]), none⟩,⟨some 3, .t (.build [(.str []), (.int .i64 0), (.int .i64 0), (.bool false), (.bool false), (.bool false), (.bool false), (.bool false)] [(0, 1, (.c (.str [100, 101, 99, 105, 109, 97, 108]))), (1, 1, (.c (.int .i64 (-999999999999999)))), (2, 1, (.c (.int .i64 999999999999999))), (3, 1, (.c (.bool true))), (4, 1, (.c (.bool true)))]), none⟩,⟨some 4, .t (.build [(.str []), (.int .i64 0), (.int .i64 0), (.bool false), (.bool false), (.bool false), (.bool false), (.bool false)] [(0, 1, (.c (.str [116, 101, 120, 116]))), (2, 1, (.c (.int .i64 1024))), (3, 1, (.c (.bool true))), (5, 1, (.c (.bool true)))]), none⟩,⟨some 5, .t (.build [(.str []), (.int .i64 0), (.int .i64 0), (.bool false), (.bool false), (.bool false), (.bool false), (.bool false)] [(0, 1, (.c (.str [98, 121, 116, 101, 115]))), (2, 1, (.c (.int .i64 1024))), (3, 1, (.c (.bool true)))]), none⟩,⟨some 6, .t (.build [(.str []), (.int .i64 0), (.int .i64 0), (.bool false), (.bool false), (.bool false), (.bool false), (.bool false)] [(0, 1, (.c (.str [100, 97, 116, 101]))), (1, 1, (.c (.int .i64 (-719162)))), (2, 1, (.c (.int .i64 2932896))), (3, 1, (.c (.bool true)))]), none⟩,⟨some 7, .t (.build [(.str []), (.int .i64 0), (.int .i64 0), (.bool false), (.bool false), (.bool false), (.bool false), (.bool false)] [(0, 1, (.c (.str [116, 105, 109, 101]))), (1, 1, (.c (.int .i64 (-62135596800000)))), (2, 1, (.c (.int .i64 253402300799999))), (3, 1, (.c (.bool true)))]), none⟩,⟨some 8, .t (.build [(.str []), (.int .i64 0), (.int .i64 0), (.bool false), (.bool false), (.bool false), (.bool false), (.bool false)] [(0, 1, (.c (.str [108, 105, 115, 116]))), (2, 1, (.c (.int .i64 256))), (3, 1, (.c (.bool true))), (6, 1, (.c (.bool true)))]), none⟩,⟨some 9, .t (.build [(.str []), (.int .i64 0), (.int .i64 0), (.bool false), (.bool false), (.bool false), (.bool false), (.bool false)] [(0, 1, (.c (.str [114, 101, 99, 111, 114, 100]))), (7, 1, (.c (.bool true)))]), none⟩,⟨some 10, .t (.build [(.str []), (.int .i64 0), (.int .i64 0), (.bool false), (.bool false), (.bool false), (.bool false), (.bool false)] [(0, 1, (.c (.str [118, 97, 114, 105, 97, 110, 116]))), (7, 1, (.c (.bool true)))]), none⟩,⟨some 11, .t (.build [(.str []), (.int .i64 0), (.int .i64 0), (.bool false), (.bool false), (.bool false), (.bool false), (.bool false), (.str []), (.int .i64 0), (.int .i64 0), (.bool false), (.bool false), (.bool false), (.bool false), (.bool false), (.str []), (.int .i64 0), (.int .i64 0), (.bool false), (.bool false), (.bool false), (.bool false), (.bool false), (.str []), (.int .i64 0), (.int .i64 0), (.bool false), (.bool false), (.bool false), (.bool false), (.bool false), (.str []), (.int .i64 0), (.int .i64 0), (.bool false), (.bool false), (.bool false), (.bool false), (.bool false), (.str []), (.int .i64 0), (.int .i64 0), (.bool false), (.bool false), (.bool false), (.bool false), (.bool false), (.str []), (.int .i64 0), (.int .i64 0), (.bool false), (.bool false), (.bool false), (.bool false), (.bool false), (.str []), (.int .i64 0), (.int .i64 0), (.bool false), (.bool false), (.bool false), (.bool false), (.bool false), (.str []), (.int .i64 0), (.int .i64 0), (.bool false), (.bool false), (.bool false), (.bool false), (.bool false), (.str []), (.int .i64 0), (.int .i64 0), (.bool false), (.bool false), (.bool false), (.bool false), (.bool false), (.str []), (.int .i64 0), (.int .i64 0), (.bool false), (.bool false), (.bool false), (.bool false), (.bool false)] [(8, 8, (.t 1)), (16, 8, (.t 2)), (24, 8, (.t 3)), (32, 8, (.t 4)), (40, 8, (.t 5)), (48, 8, (.t 6)), (56, 8, (.t 7)), (64, 8, (.t 8)), (72, 8, (.t 9)), (80, 8, (.t 10))]), none⟩,⟨none, .m (.store 88 (.t 0) (.t 11)), none⟩]
def F129c : ACode :=
(.seq (.ops F129o0 [0])
((.seq (.ops F129o1 [0])
(.ret))))
def F129 : AFn := ⟨12, [.cell 0 true 88], F129c⟩
theorem F129_ok : cFn Tryz.prog [] 129 = some F129 := by kernel_rfl
def F130o0 : List AOper := [⟨some 2, .m (.box 37 (.t 0)), none⟩,⟨some 3, .m (.box 177 (.t 1)), none⟩,⟨some 4, .t (.mv (.c (.int .i64 0))), none⟩]
def F130o1 : List AOper := [⟨some 6, .t (.faddr 3 (.t 3)), none⟩,⟨some 7, .m (.load false 1 (.t 6)), none⟩,⟨some 8, .t (.not (.t 7)), none⟩,⟨some 9, .t (.mv (.t 8)), none⟩,⟨some 10, .t (.faddr 1 (.t 2)), (some (9, true))⟩,
  ⟨some 11, .m (.load false 1 (.t 10)), (some (9, true))⟩,
  ⟨some 12, .t (.bin .neq (.t 11) (.c (.int .i64 0))), (some (9, true))⟩,
  ⟨some 13, .t (.mv (.t 12)), (some (9, true))⟩,
  ⟨some 14, .t (.faddr 2 (.t 2)), (some (13, false))⟩,
  ⟨some 15, .m (.load false 1 (.t 14)), (some (13, false))⟩,
  ⟨some 16, .t (.bin .neq (.t 15) (.c (.int .i64 0))), (some (13, false))⟩,
  ⟨some 17, .t (.pick (.t 13) (.c (.bool true)) (.t 16)), (some (9, true))⟩,
  ⟨some 18, .t (.pick (.t 9) (.t 17) (.c (.bool false))), none⟩,⟨some 5, .t (.mv (.t 18)), none⟩]
def F130o2 : List AOper := [⟨some 19, .t (.faddr 4 (.t 3)), none⟩,⟨some 20, .m (.load false 1 (.t 19)), none⟩,⟨some 21, .t (.not (.t 20)), none⟩,⟨some 22, .t (.mv (.t 21)), none⟩,⟨some 23, .t (.faddr 3 (.t 2)), (some (22, true))⟩,
  ⟨some 24, .m (.load false 1 (.t 23)), (some (22, true))⟩,
  ⟨some 25, .t (.bin .neq (.t 24) (.c (.int .i64 0))), (some (22, true))⟩,
  ⟨some 26, .t (.pick (.t 22) (.t 25) (.c (.bool false))), none⟩,⟨some 5, .t (.mv (.t 26)), none⟩]
def F130o3 : List AOper := [⟨some 27, .t (.faddr 5 (.t 3)), none⟩,⟨some 28, .m (.load false 1 (.t 27)), none⟩,⟨some 29, .t (.not (.t 28)), none⟩,⟨some 30, .t (.mv (.t 29)), none⟩,⟨some 31, .t (.faddr 4 (.t 2)), (some (30, true))⟩,
  ⟨some 32, .m (.load false 1 (.t 31)), (some (30, true))⟩,
  ⟨some 33, .t (.len false (.t 32)), (some (30, true))⟩,
  ⟨some 34, .t (.bin .gtr (.t 33) (.c (.int .i64 0))), (some (30, true))⟩,
  ⟨some 35, .t (.pick (.t 30) (.t 34) (.c (.bool false))), none⟩,⟨some 5, .t (.mv (.t 35)), none⟩]
def F130o4 : List AOper := [⟨some 36, .t (.faddr 6 (.t 3)), none⟩,⟨some 37, .m (.load false 1 (.t 36)), none⟩,⟨some 38, .t (.not (.t 37)), none⟩,⟨some 39, .t (.mv (.t 38)), none⟩,⟨some 40, .t (.faddr 5 (.t 2)), (some (39, true))⟩,
  ⟨some 41, .m (.load false 1 (.t 40)), (some (39, true))⟩,
  ⟨some 42, .t (.len false (.t 41)), (some (39, true))⟩,
  ⟨some 43, .t (.bin .gtr (.t 42) (.c (.int .i64 0))), (some (39, true))⟩,
  ⟨some 44, .t (.pick (.t 39) (.t 43) (.c (.bool false))), none⟩,⟨some 5, .t (.mv (.t 44)), none⟩]
def F130o5 : List AOper := [⟨some 45, .t (.faddr 7 (.t 3)), none⟩,⟨some 46, .m (.load false 1 (.t 45)), none⟩,⟨some 47, .t (.not (.t 46)), none⟩,⟨some 48, .t (.mv (.t 47)), none⟩,⟨some 49, .t (.faddr 6 (.t 2)), (some (48, true))⟩,
  ⟨some 50, .m (.load false 1 (.t 49)), (some (48, true))⟩,
  ⟨some 51, .t (.len false (.t 50)), (some (48, true))⟩,
  ⟨some 52, .t (.bin .gtr (.t 51) (.c (.int .i64 0))), (some (48, true))⟩,
  ⟨some 53, .t (.pick (.t 48) (.t 52) (.c (.bool false))), none⟩,⟨some 5, .t (.mv (.t 53)), none⟩]
def F130o6 : List AOper := [⟨some 4, .t (.mv (.c (.int .i64 3))), none⟩]
def F130o7 : List AOper := [⟨some 4, .t (.mv (.c (.int .i64 0))), none⟩]
def F130c : ACode :=
(.seq (.ops F130o0 [2, 3])
((.seq (.block 0 ((.seq ((.seq (.ops F130o1 [2, 3, 5])
(.cond (.t 5)
(.skip)
((.seq (.ops F130o2 [2, 3, 5])
(.cond (.t 5)
(.skip)
((.seq (.ops F130o3 [2, 3, 5])
(.cond (.t 5)
(.skip)
((.seq (.ops F130o4 [2, 3, 5])
(.cond (.t 5)
(.skip)
(.ops F130o5 [5])))))))))))))
(.cond (.t 5)
((.seq (.ops F130o6 [4])
(.ret)))
(.skip)))))
((.seq (.ops F130o7 [4])
(.ret))))))
def F130 : AFn := ⟨54, [.tmp 4], F130c⟩
theorem F130_ok : cFn Tryz.prog [] 130 = some F130 := by kernel_rfl
def F132o0 : List AOper := [⟨some 2, .m (.box 37 (.t 0)), none⟩,⟨some 4, .t (.mv (.c (.int .i64 0))), none⟩]
def F132o1 : List AOper := [⟨some 6, .t (.faddr 6 (.t 2)), none⟩,⟨some 7, .m (.load false 1 (.t 6)), none⟩,⟨some 8, .t (.mv (.t 1)), none⟩,⟨some 9, .t (.iaddr 11 (.t 7) (.t 8)), none⟩,⟨some 10, .m (.load true 11 (.t 9)), none⟩,⟨some 5, .m (.alloc 47 [(.int .i64 0), (.str []), (.int .i64 0), (.int .i64 0), (.int .i64 0), (.int .i64 0), (.int .i64 0), .nils, .nils, .nils, .nils]), none⟩,⟨none, .m (.store 11 (.t 5) (.t 10)), none⟩]
def F132o2 : List AOper := [⟨some 12, .t (.faddr 1 (.t 5)), none⟩,⟨some 13, .m (.load false 1 (.t 12)), none⟩,⟨some 14, .call (.c (.clo 161 [] [])) [(.t 13)], none⟩,⟨some 15, .t (.not (.t 14)), none⟩,⟨some 11, .t (.mv (.t 15)), none⟩]
def F132o3 : List AOper := [⟨some 4, .t (.mv (.c (.int .i64 12))), none⟩]
def F132o4 : List AOper := [⟨some 17, .t (.faddr 0 (.t 5)), none⟩,⟨some 18, .m (.load false 1 (.t 17)), none⟩,⟨some 19, .call (.c (.clo 128 [] [])) [(.t 18), (.c (.int .i64 1)), (.c (.int .i64 9999))], none⟩,⟨some 20, .t (.not (.t 19)), none⟩,⟨some 16, .t (.mv (.t 20)), none⟩]
def F132o5 : List AOper := [⟨some 4, .t (.mv (.c (.int .i64 2))), none⟩]
def F132o6 : List AOper := [⟨some 22, .t (.faddr 6 (.t 2)), none⟩,⟨some 23, .m (.load false 1 (.t 22)), none⟩,⟨some 24, .t (.mv (.t 1)), none⟩,⟨some 25, .t (.sliceL 11 (.t 23) none (some (.t 24))), none⟩,⟨some 26, .t (.clo 162 [] [(.t 5)]), none⟩,⟨some 27, .call (.c (.clo 53 [] [])) [(.t 25), (.t 26)], none⟩,⟨some 21, .t (.mv (.t 27)), none⟩]
def F132o7 : List AOper := [⟨some 4, .t (.mv (.c (.int .i64 7))), none⟩]
def F132o8 : List AOper := [⟨some 29, .t (.faddr 2 (.t 5)), none⟩,⟨some 30, .m (.load false 1 (.t 29)), none⟩,⟨some 31, .call (.c (.clo 128 [] [])) [(.t 30), (.c (.int .i64 1)), (.c (.int .i64 3))], none⟩,⟨some 32, .t (.not (.t 31)), none⟩,⟨some 33, .t (.mv (.t 32)), none⟩,⟨some 34, .t (.faddr 0 (.t 2)), (some (33, false))⟩,
  ⟨some 35, .m (.load false 1 (.t 34)), (some (33, false))⟩,
  ⟨some 36, .t (.bin .eql (.t 35) (.c (.int .i64 10))), (some (33, false))⟩,
  ⟨some 37, .t (.mv (.t 36)), (some (33, false))⟩,
  ⟨some 38, .t (.faddr 2 (.t 5)), (some (37, true))⟩,
  ⟨some 39, .m (.load false 1 (.t 38)), (some (37, true))⟩,
  ⟨some 40, .t (.bin .neq (.t 39) (.c (.int .i64 1))), (some (37, true))⟩,
  ⟨some 41, .t (.pick (.t 37) (.t 40) (.c (.bool false))), (some (33, false))⟩,
  ⟨some 42, .t (.pick (.t 33) (.c (.bool true)) (.t 41)), none⟩,⟨some 28, .t (.mv (.t 42)), none⟩]
def F132o9 : List AOper := [⟨some 4, .t (.mv (.c (.int .i64 11))), none⟩]
def F132o10 : List AOper := [⟨some 44, .t (.faddr 2 (.t 5)), none⟩,⟨some 45, .m (.load false 1 (.t 44)), none⟩,⟨some 46, .t (.bin .eql (.t 45) (.c (.int .i64 3))), none⟩,⟨some 47, .t (.mv (.t 46)), none⟩,⟨some 48, .t (.faddr 10 (.t 5)), (some (47, true))⟩,
  ⟨some 49, .m (.load false 1 (.t 48)), (some (47, true))⟩,
  ⟨some 50, .t (.len false (.t 49)), (some (47, true))⟩,
  ⟨some 51, .t (.bin .eql (.t 50) (.c (.int .i64 0))), (some (47, true))⟩,
  ⟨some 52, .t (.pick (.t 47) (.t 51) (.c (.bool false))), none⟩,⟨some 43, .t (.mv (.t 52)), none⟩]
def F132o11 : List AOper := [⟨some 4, .t (.mv (.c (.int .i64 4))), none⟩]
def F132o12 : List AOper := [⟨some 54, .t (.faddr 10 (.t 5)), none⟩,⟨some 55, .m (.load false 1 (.t 54)), none⟩,⟨some 56, .t (.len false (.t 55)), none⟩,⟨some 57, .t (.bin .gtr (.t 56) (.c (.int .i64 1))), none⟩,⟨some 58, .t (.mv (.t 57)), none⟩,⟨some 59, .t (.faddr 2 (.t 5)), (some (58, false))⟩,
  ⟨some 60, .m (.load false 1 (.t 59)), (some (58, false))⟩,
  ⟨some 61, .t (.bin .neq (.t 60) (.c (.int .i64 3))), (some (58, false))⟩,
  ⟨some 62, .t (.mv (.t 61)), (some (58, false))⟩,
  ⟨some 63, .t (.faddr 10 (.t 5)), (some (62, true))⟩,
  ⟨some 64, .m (.load false 1 (.t 63)), (some (62, true))⟩,
  ⟨some 65, .t (.len false (.t 64)), (some (62, true))⟩,
  ⟨some 66, .t (.bin .gtr (.t 65) (.c (.int .i64 0))), (some (62, true))⟩,
  ⟨some 67, .t (.pick (.t 62) (.t 66) (.c (.bool false))), (some (58, false))⟩,
  ⟨some 68, .t (.pick (.t 58) (.c (.bool true)) (.t 67)), none⟩,⟨some 53, .t (.mv (.t 68)), none⟩]
def F132o13 : List AOper := [⟨some 4, .t (.mv (.c (.int .i64 3))), none⟩]
def F132o14 : List AOper := [⟨some 4, .t (.mv (.c (.int .i64 0))), none⟩]
def F132c : ACode :=
(.seq (.ops F132o0 [1, 2])
((.seq (.ops F132o1 [1, 2, 5])
((.seq (.block 0 ((.seq (.ops F132o2 [1, 2, 5, 11])
(.cond (.t 11)
((.seq (.ops F132o3 [4])
(.ret)))
((.seq (.ops F132o4 [1, 2, 5, 16])
(.cond (.t 16)
((.seq (.ops F132o5 [4])
(.ret)))
((.seq (.ops F132o6 [2, 5, 21])
(.cond (.t 21)
((.seq (.ops F132o7 [4])
(.ret)))
((.seq (.ops F132o8 [5, 28])
(.cond (.t 28)
((.seq (.ops F132o9 [4])
(.ret)))
((.seq (.ops F132o10 [5, 43])
(.cond (.t 43)
((.seq (.ops F132o11 [4])
(.ret)))
((.seq (.ops F132o12 [53])
(.cond (.t 53)
((.seq (.ops F132o13 [4])
(.ret)))
(.skip))))))))))))))))))))
((.seq (.ops F132o14 [4])
(.ret))))))))
def F132 : AFn := ⟨69, [.tmp 4], F132c⟩
theorem F132_ok : cFn Tryz.prog [] 132 = some F132 := by kernel_rfl
def F140o0 : List AOper := [⟨some 4, .t (.mv (.c (.bool false))), none⟩]
def F140o1 : List AOper := [⟨some 5, .t (.mv (.t 0)), none⟩,⟨some 6, .t (.len true (.t 5)), none⟩,⟨some 7, .t (.mv (.t 1)), none⟩,⟨some 8, .t (.len true (.t 7)), none⟩,⟨some 9, .t (.bin .geq (.t 6) (.t 8)), none⟩,⟨some 10, .t (.mv (.t 9)), none⟩,⟨some 11, .t (.mv (.t 0)), (some (10, true))⟩,
  ⟨some 12, .t (.mv (.t 1)), (some (10, true))⟩,
  ⟨some 13, .t (.len true (.t 12)), (some (10, true))⟩,
  ⟨some 14, .t (.sliceS (.t 11) none (some (.t 13))), (some (10, true))⟩,
  ⟨some 15, .t (.mv (.t 1)), (some (10, true))⟩,
  ⟨some 16, .t (.bin .eql (.t 14) (.t 15)), (some (10, true))⟩,
  ⟨some 17, .t (.pick (.t 10) (.t 16) (.c (.bool false))), none⟩,⟨some 4, .t (.mv (.t 17)), none⟩]
def F140c : ACode :=
(.seq (.ops F140o0 [0, 1])
((.seq (.ops F140o1 [4])
(.ret))))
def F140 : AFn := ⟨18, [.tmp 4], F140c⟩
theorem F140_ok : cFn Tryz.prog [] 140 = some F140 := by kernel_rfl
def F142o0 : List AOper := [⟨some 2, .t (.mv (.c (.bool false))), none⟩]
def F142o1 : List AOper := [⟨some 3, .t (.mv (.t 0)), none⟩,⟨some 4, .call (.c (.clo 101 [] [])) [(.t 3), (.c (.int .i64 1)), (.c (.int .i64 9999))], none⟩,⟨some 5, .t (.mv (.t 4)), none⟩,⟨some 6, .t (.mv (.t 0)), (some (5, true))⟩,
  ⟨some 7, .t (.bin .rem (.t 6) (.c (.int .i64 4))), (some (5, true))⟩,
  ⟨some 8, .t (.bin .eql (.t 7) (.c (.int .i64 0))), (some (5, true))⟩,
  ⟨some 9, .t (.pick (.t 5) (.t 8) (.c (.bool false))), none⟩,⟨some 10, .t (.mv (.t 9)), none⟩,⟨some 11, .t (.mv (.t 0)), (some (10, true))⟩,
  ⟨some 12, .t (.bin .rem (.t 11) (.c (.int .i64 100))), (some (10, true))⟩,
  ⟨some 13, .t (.bin .neq (.t 12) (.c (.int .i64 0))), (some (10, true))⟩,
  ⟨some 14, .t (.mv (.t 13)), (some (10, true))⟩,
  ⟨some 15, .t (.mv (.t 0)), (some (14, false))⟩,
  ⟨some 16, .t (.bin .rem (.t 15) (.c (.int .i64 400))), (some (14, false))⟩,
  ⟨some 17, .t (.bin .eql (.t 16) (.c (.int .i64 0))), (some (14, false))⟩,
  ⟨some 18, .t (.pick (.t 14) (.c (.bool true)) (.t 17)), (some (10, true))⟩,
  ⟨some 19, .t (.pick (.t 10) (.t 18) (.c (.bool false))), none⟩,⟨some 2, .t (.mv (.t 19)), none⟩]
def F142c : ACode :=
(.seq (.ops F142o0 [0])
((.seq (.ops F142o1 [2])
(.ret))))
def F142 : AFn := ⟨20, [.tmp 2], F142c⟩
theorem F142_ok : cFn Tryz.prog [] 142 = some F142 := by kernel_rfl
def F148o0 : List AOper := [⟨some 4, .t (.mv (.c (.int .i64 0))), none⟩]
def F148o1 : List AOper := [⟨some 14, .t (.mv (.t 1)), none⟩,⟨some 15, .t (.len true (.t 14)), none⟩,⟨some 5, .t (.mv (.t 15)), none⟩]
def F148o2 : List AOper := [⟨some 17, .t (.mv (.t 5)), none⟩,⟨some 18, .t (.bin .eql (.t 17) (.c (.int .i64 0))), none⟩,⟨some 19, .t (.mv (.t 18)), none⟩,⟨some 20, .t (.mv (.t 1)), (some (19, false))⟩,
  ⟨some 21, .t (.mv (.t 0)), (some (19, false))⟩,
  ⟨some 22, .t (.bin .eql (.t 20) (.t 21)), (some (19, false))⟩,
  ⟨some 23, .t (.pick (.t 19) (.c (.bool true)) (.t 22)), none⟩,⟨some 16, .t (.mv (.t 23)), none⟩]
def F148o3 : List AOper := [⟨some 4, .t (.mv (.c (.int .i64 0))), none⟩]
def F148o4 : List AOper := [⟨some 25, .t (.mv (.t 5)), none⟩,⟨some 26, .t (.bin .eql (.t 25) (.c (.int .i64 1))), none⟩,⟨some 24, .t (.mv (.t 26)), none⟩]
def F148o5 : List AOper := [⟨some 27, .t (.mv (.t 0)), none⟩,⟨some 28, .t (.mv (.t 1)), none⟩,⟨some 29, .t (.index (.t 28) (.c (.int .i64 0))), none⟩,⟨some 30, .call (.c (.clo 22 [] [])) [(.t 27), (.t 29)], none⟩,⟨some 4, .t (.mv (.t 30)), none⟩]
def F148o6 : List AOper := [⟨some 32, .t (.mv (.t 5)), none⟩,⟨some 33, .t (.mv (.t 0)), none⟩,⟨some 34, .t (.len true (.t 33)), none⟩,⟨some 35, .t (.bin .geq (.t 32) (.t 34)), none⟩,⟨some 31, .t (.mv (.t 35)), none⟩]
def F148o7 : List AOper := [⟨some 4, .t (.mv (.c (.int .i64 (-1)))), none⟩]
def F148o8 : List AOper := [⟨some 37, .t (.mv (.t 5)), none⟩,⟨some 38, .m (.load false 1 (.c (.gptr 0 0))), none⟩,⟨some 39, .t (.bin .leq (.t 37) (.t 38)), none⟩,⟨some 40, .t (.mv (.t 39)), none⟩,⟨some 41, .t (.mv (.t 0)), (some (40, true))⟩,
  ⟨some 42, .t (.len true (.t 41)), (some (40, true))⟩,
  ⟨some 43, .t (.bin .leq (.t 42) (.c (.int .i64 64))), (some (40, true))⟩,
  ⟨some 44, .t (.pick (.t 40) (.t 43) (.c (.bool false))), none⟩,⟨some 36, .t (.mv (.t 44)), none⟩]
def F148o9 : List AOper := [⟨some 45, .t (.mv (.t 0)), none⟩,⟨some 46, .t (.mv (.t 1)), none⟩,⟨some 47, .call (.c (.clo 145 [] [])) [(.t 45), (.t 46)], none⟩,⟨some 4, .t (.mv (.t 47)), none⟩]
def F148o10 : List AOper := [⟨some 48, .t (.mv (.t 1)), none⟩,⟨some 49, .t (.index (.t 48) (.c (.int .i64 0))), none⟩,⟨some 6, .t (.mv (.t 49)), none⟩]
def F148o11 : List AOper := [⟨some 50, .t (.mv (.t 1)), none⟩,⟨some 51, .t (.index (.t 50) (.c (.int .i64 1))), none⟩,⟨some 7, .t (.mv (.t 51)), none⟩]
def F148o12 : List AOper := [⟨some 8, .t (.mv (.c (.int .i64 0))), none⟩]
def F148o13 : List AOper := [⟨some 52, .t (.mv (.t 0)), none⟩,⟨some 53, .t (.len true (.t 52)), none⟩,⟨some 54, .t (.mv (.t 5)), none⟩,⟨some 55, .t (.bin .sub (.t 53) (.t 54)), none⟩,⟨some 56, .t (.bin .add (.t 55) (.c (.int .i64 1))), none⟩,⟨some 9, .t (.mv (.t 56)), none⟩]
def F148o14 : List AOper := [⟨some 10, .t (.mv (.c (.int .i64 0))), none⟩]
def F148o15 : List AOper := [⟨some 57, .t (.mv (.t 8)), none⟩,⟨some 58, .t (.mv (.t 9)), none⟩,⟨some 59, .t (.bin .lss (.t 57) (.t 58)), none⟩]
def F148o16 : List AOper := [⟨some 60, .t (.mv (.t 0)), none⟩,⟨some 61, .t (.mv (.t 8)), none⟩,⟨some 62, .t (.index (.t 60) (.t 61)), none⟩,⟨some 63, .t (.mv (.t 6)), none⟩,⟨some 64, .t (.bin .neq (.t 62) (.t 63)), none⟩]
def F148o17 : List AOper := [⟨some 65, .t (.mv (.t 0)), none⟩,⟨some 66, .t (.mv (.t 8)), none⟩,⟨some 67, .t (.bin .add (.t 66) (.c (.int .i64 1))), none⟩,⟨some 68, .t (.mv (.t 9)), none⟩,⟨some 69, .t (.sliceS (.t 65) (some (.t 67)) (some (.t 68))), none⟩,⟨some 70, .t (.mv (.t 6)), none⟩,⟨some 71, .call (.c (.clo 22 [] [])) [(.t 69), (.t 70)], none⟩,⟨some 11, .t (.mv (.t 71)), none⟩]
def F148o18 : List AOper := [⟨some 72, .t (.mv (.t 11)), none⟩,⟨some 73, .t (.bin .lss (.t 72) (.c (.int .i64 0))), none⟩]
def F148o19 : List AOper := [⟨some 4, .t (.mv (.c (.int .i64 (-1)))), none⟩]
def F148o20 : List AOper := [⟨some 74, .t (.mv (.t 8)), none⟩,⟨some 75, .t (.mv (.t 11)), none⟩,⟨some 76, .t (.bin .add (.t 75) (.c (.int .i64 1))), none⟩,⟨some 77, .t (.bin .add (.t 74) (.t 76)), none⟩,⟨some 8, .t (.mv (.t 77)), none⟩]
def F148o21 : List AOper := [⟨some 78, .t (.mv (.t 0)), none⟩,⟨some 79, .t (.mv (.t 8)), none⟩,⟨some 80, .t (.bin .add (.t 79) (.c (.int .i64 1))), none⟩,⟨some 81, .t (.index (.t 78) (.t 80)), none⟩,⟨some 82, .t (.mv (.t 7)), none⟩,⟨some 83, .t (.bin .eql (.t 81) (.t 82)), none⟩,⟨some 84, .t (.mv (.t 83)), none⟩,⟨some 85, .t (.mv (.t 0)), (some (84, true))⟩,
  ⟨some 86, .t (.mv (.t 8)), (some (84, true))⟩,
  ⟨some 87, .t (.mv (.t 8)), (some (84, true))⟩,
  ⟨some 88, .t (.mv (.t 5)), (some (84, true))⟩,
  ⟨some 89, .t (.bin .add (.t 87) (.t 88)), (some (84, true))⟩,
  ⟨some 90, .t (.sliceS (.t 85) (some (.t 86)) (some (.t 89))), (some (84, true))⟩,
  ⟨some 91, .t (.mv (.t 1)), (some (84, true))⟩,
  ⟨some 92, .t (.bin .eql (.t 90) (.t 91)), (some (84, true))⟩,
  ⟨some 93, .t (.pick (.t 84) (.t 92) (.c (.bool false))), none⟩]
def F148o22 : List AOper := [⟨some 94, .t (.mv (.t 8)), none⟩,⟨some 4, .t (.mv (.t 94)), none⟩]
def F148o23 : List AOper := [⟨some 95, .t (.mv (.t 8)), none⟩,⟨some 96, .t (.bin .add (.t 95) (.c (.int .i64 1))), none⟩,⟨some 8, .t (.mv (.t 96)), none⟩]
def F148o24 : List AOper := [⟨some 97, .t (.mv (.t 10)), none⟩,⟨some 98, .t (.bin .add (.t 97) (.c (.int .i64 1))), none⟩,⟨some 10, .t (.mv (.t 98)), none⟩]
def F148o25 : List AOper := [⟨some 99, .t (.mv (.t 5)), none⟩,⟨some 100, .m (.load false 1 (.c (.gptr 0 0))), none⟩,⟨some 101, .t (.bin .leq (.t 99) (.t 100)), none⟩,⟨some 102, .t (.mv (.t 101)), none⟩,⟨some 103, .t (.mv (.t 10)), (some (102, true))⟩,
  ⟨some 104, .t (.mv (.t 8)), (some (102, true))⟩,
  ⟨some 105, .call (.c (.clo 144 [] [])) [(.t 104)], (some (102, true))⟩,
  ⟨some 106, .t (.bin .gtr (.t 103) (.t 105)), (some (102, true))⟩,
  ⟨some 107, .t (.pick (.t 102) (.t 106) (.c (.bool false))), none⟩]
def F148o26 : List AOper := [⟨some 108, .t (.mv (.t 0)), none⟩,⟨some 109, .t (.mv (.t 8)), none⟩,⟨some 110, .t (.sliceS (.t 108) (some (.t 109)) none), none⟩,⟨some 111, .t (.mv (.t 1)), none⟩,⟨some 112, .call (.c (.clo 145 [] [])) [(.t 110), (.t 111)], none⟩,⟨some 12, .t (.mv (.t 112)), none⟩]
def F148o27 : List AOper := [⟨some 113, .t (.mv (.t 12)), none⟩,⟨some 114, .t (.bin .geq (.t 113) (.c (.int .i64 0))), none⟩]
def F148o28 : List AOper := [⟨some 115, .t (.mv (.t 12)), none⟩,⟨some 116, .t (.mv (.t 8)), none⟩,⟨some 117, .t (.bin .add (.t 115) (.t 116)), none⟩,⟨some 4, .t (.mv (.t 117)), none⟩]
def F148o29 : List AOper := [⟨some 4, .t (.mv (.c (.int .i64 (-1)))), none⟩]
def F148o30 : List AOper := [⟨some 118, .t (.mv (.t 5)), none⟩,⟨some 119, .m (.load false 1 (.c (.gptr 0 0))), none⟩,⟨some 120, .t (.bin .gtr (.t 118) (.t 119)), none⟩,⟨some 121, .t (.mv (.t 120)), none⟩,⟨some 122, .t (.mv (.t 10)), (some (121, true))⟩,
  ⟨some 123, .t (.mv (.t 8)), (some (121, true))⟩,
  ⟨some 124, .t (.bin .shr (.t 123) (.c (.int .u64 4))), (some (121, true))⟩,
  ⟨some 125, .t (.bin .add (.c (.int .i64 4)) (.t 124)), (some (121, true))⟩,
  ⟨some 126, .t (.bin .geq (.t 122) (.t 125)), (some (121, true))⟩,
  ⟨some 127, .t (.pick (.t 121) (.t 126) (.c (.bool false))), none⟩,⟨some 128, .t (.mv (.t 127)), none⟩,⟨some 129, .t (.mv (.t 8)), (some (128, true))⟩,
  ⟨some 130, .t (.mv (.t 9)), (some (128, true))⟩,
  ⟨some 131, .t (.bin .lss (.t 129) (.t 130)), (some (128, true))⟩,
  ⟨some 132, .t (.pick (.t 128) (.t 131) (.c (.bool false))), none⟩]
def F148o31 : List AOper := [⟨some 133, .t (.mv (.t 0)), none⟩,⟨some 134, .t (.mv (.t 8)), none⟩,⟨some 135, .t (.sliceS (.t 133) (some (.t 134)) none), none⟩,⟨some 136, .t (.mv (.t 1)), none⟩,⟨some 137, .call (.c (.clo 176 [] [])) [(.t 135), (.t 136)], none⟩,⟨some 13, .t (.mv (.t 137)), none⟩]
def F148o32 : List AOper := [⟨some 138, .t (.mv (.t 13)), none⟩,⟨some 139, .t (.bin .lss (.t 138) (.c (.int .i64 0))), none⟩]
def F148o33 : List AOper := [⟨some 4, .t (.mv (.c (.int .i64 (-1)))), none⟩]
def F148o34 : List AOper := [⟨some 140, .t (.mv (.t 8)), none⟩,⟨some 141, .t (.mv (.t 13)), none⟩,⟨some 142, .t (.bin .add (.t 140) (.t 141)), none⟩,⟨some 4, .t (.mv (.t 142)), none⟩]
def F148b35 : ACode :=
(.seq ((.seq (.ops F148o15 [0, 1, 5, 6, 7, 8, 9, 10, 59])
(.cond (.t 59)
(.skip)
(.exit 1))))
(.block 2 ((.seq ((.seq (.ops F148o16 [0, 1, 5, 6, 7, 8, 9, 10, 64])
(.cond (.t 64)
((.seq (.ops F148o17 [0, 1, 5, 6, 7, 8, 9, 10, 11])
((.seq ((.seq (.ops F148o18 [0, 1, 5, 6, 7, 8, 9, 10, 11, 73])
(.cond (.t 73)
((.seq (.ops F148o19 [4])
(.ret)))
(.skip))))
(.ops F148o20 [0, 1, 5, 6, 7, 8, 9, 10])))))
(.skip))))
((.seq ((.seq (.ops F148o21 [0, 1, 5, 6, 7, 8, 9, 10, 93])
(.cond (.t 93)
((.seq (.ops F148o22 [4])
(.ret)))
(.skip))))
((.seq (.ops F148o23 [0, 1, 5, 6, 7, 8, 9, 10])
((.seq (.ops F148o24 [0, 1, 5, 6, 7, 8, 9, 10])
((.seq (.ops F148o25 [0, 1, 5, 6, 7, 8, 9, 10, 107])
(.cond (.t 107)
((.seq (.ops F148o26 [8, 12])
((.seq ((.seq (.ops F148o27 [8, 12, 114])
(.cond (.t 114)
((.seq (.ops F148o28 [4])
(.ret)))
(.skip))))
((.seq (.ops F148o29 [4])
(.ret)))))))
((.seq (.ops F148o30 [0, 1, 5, 6, 7, 8, 9, 10, 132])
(.cond (.t 132)
((.seq (.ops F148o31 [8, 13])
((.seq ((.seq (.ops F148o32 [8, 13, 139])
(.cond (.t 139)
((.seq (.ops F148o33 [4])
(.ret)))
(.skip))))
((.seq (.ops F148o34 [4])
(.ret)))))))
(.skip)))))))))))))))))
def F148o36 : List AOper := [⟨some 4, .t (.mv (.c (.int .i64 (-1)))), none⟩]
def F148c : ACode :=
(.seq (.ops F148o0 [0, 1])
((.seq (.ops F148o1 [0, 1, 5])
((.seq (.block 0 ((.seq (.ops F148o2 [0, 1, 5, 16])
(.cond (.t 16)
((.seq (.ops F148o3 [4])
(.ret)))
((.seq (.ops F148o4 [0, 1, 5, 24])
(.cond (.t 24)
((.seq (.ops F148o5 [4])
(.ret)))
((.seq (.ops F148o6 [0, 1, 5, 31])
(.cond (.t 31)
((.seq (.ops F148o7 [4])
(.ret)))
((.seq (.ops F148o8 [0, 1, 5, 36])
(.cond (.t 36)
((.seq (.ops F148o9 [4])
(.ret)))
(.skip))))))))))))))
((.seq (.ops F148o10 [0, 1, 5, 6])
((.seq (.ops F148o11 [0, 1, 5, 6, 7])
((.seq (.ops F148o12 [0, 1, 5, 6, 7, 8])
((.seq (.ops F148o13 [0, 1, 5, 6, 7, 8, 9])
((.seq (.ops F148o14 [0, 1, 5, 6, 7, 8, 9, 10])
((.seq (.block 1 (.loop [0, 1, 5, 6, 7, 8, 9, 10] F148b35))
((.seq (.ops F148o36 [4])
(.ret))))))))))))))))))))
def F148 : AFn := ⟨143, [.tmp 4], F148c⟩
theorem F148_ok : cFn Tryz.prog [] 148 = some F148 := by kernel_rfl
def F161o0 : List AOper := [⟨some 2, .t (.mv (.c (.bool false))), none⟩]
def F161o1 : List AOper := [⟨some 5, .t (.mv (.t 0)), none⟩,⟨some 6, .t (.bin .eql (.t 5) (.c (.str []))), none⟩,⟨some 7, .t (.mv (.t 6)), none⟩,⟨some 8, .t (.mv (.t 0)), (some (7, false))⟩,
  ⟨some 9, .t (.len true (.t 8)), (some (7, false))⟩,
  ⟨some 10, .t (.bin .gtr (.t 9) (.c (.int .i64 32))), (some (7, false))⟩,
  ⟨some 11, .t (.pick (.t 7) (.c (.bool true)) (.t 10)), none⟩,⟨some 12, .t (.mv (.t 11)), none⟩,⟨some 13, .t (.mv (.t 0)), (some (12, false))⟩,
  ⟨some 14, .t (.index (.t 13) (.c (.int .i64 0))), (some (12, false))⟩,
  ⟨some 15, .t (.bin .lss (.t 14) (.c (.int .u8 97))), (some (12, false))⟩,
  ⟨some 16, .t (.pick (.t 12) (.c (.bool true)) (.t 15)), none⟩,⟨some 17, .t (.mv (.t 16)), none⟩,⟨some 18, .t (.mv (.t 0)), (some (17, false))⟩,
  ⟨some 19, .t (.index (.t 18) (.c (.int .i64 0))), (some (17, false))⟩,
  ⟨some 20, .t (.bin .gtr (.t 19) (.c (.int .u8 122))), (some (17, false))⟩,
  ⟨some 21, .t (.pick (.t 17) (.c (.bool true)) (.t 20)), none⟩]
def F161o2 : List AOper := [⟨some 2, .t (.mv (.c (.bool false))), none⟩]
def F161o3 : List AOper := [⟨some 22, .t (.mv (.t 0)), none⟩,⟨some 23, .m (.xop (.ofStr (.t 22))), none⟩,⟨some 24, .t (.len false (.t 23)), none⟩,⟨some 25, .t (.mv (.c (.int .i64 0))), none⟩]
def F161o4 : List AOper := [⟨some 26, .t (.bin .lss (.t 25) (.t 24)), none⟩]
def F161o5 : List AOper := [⟨some 27, .t (.iaddr 1 (.t 23) (.t 25)), none⟩,⟨some 28, .m (.load false 1 (.t 27)), none⟩,⟨some 4, .t (.mv (.t 28)), none⟩]
def F161o6 : List AOper := [⟨some 29, .t (.mv (.t 4)), none⟩,⟨some 30, .t (.bin .lss (.t 29) (.c (.int .u8 97))), none⟩,⟨some 31, .t (.mv (.t 30)), none⟩,⟨some 32, .t (.mv (.t 4)), (some (31, false))⟩,
  ⟨some 33, .t (.bin .gtr (.t 32) (.c (.int .u8 122))), (some (31, false))⟩,
  ⟨some 34, .t (.pick (.t 31) (.c (.bool true)) (.t 33)), none⟩,⟨some 35, .t (.mv (.t 34)), none⟩,⟨some 36, .t (.mv (.t 4)), (some (35, true))⟩,
  ⟨some 37, .t (.bin .lss (.t 36) (.c (.int .u8 48))), (some (35, true))⟩,
  ⟨some 38, .t (.mv (.t 37)), (some (35, true))⟩,
  ⟨some 39, .t (.mv (.t 4)), (some (38, false))⟩,
  ⟨some 40, .t (.bin .gtr (.t 39) (.c (.int .u8 57))), (some (38, false))⟩,
  ⟨some 41, .t (.pick (.t 38) (.c (.bool true)) (.t 40)), (some (35, true))⟩,
  ⟨some 42, .t (.pick (.t 35) (.t 41) (.c (.bool false))), none⟩,⟨some 43, .t (.mv (.t 42)), none⟩,⟨some 44, .t (.mv (.t 4)), (some (43, true))⟩,
  ⟨some 45, .t (.bin .neq (.t 44) (.c (.int .u8 95))), (some (43, true))⟩,
  ⟨some 46, .t (.pick (.t 43) (.t 45) (.c (.bool false))), none⟩]
def F161o7 : List AOper := [⟨some 2, .t (.mv (.c (.bool false))), none⟩]
def F161o8 : List AOper := [⟨some 47, .t (.bin .add (.t 25) (.c (.int .i64 1))), none⟩,⟨some 25, .t (.mv (.t 47)), none⟩]
def F161b9 : ACode :=
(.seq (.ops F161o4 [23, 24, 25, 26])
((.seq (.cond (.t 26)
(.skip)
(.exit 0))
((.seq (.block 1 ((.seq (.ops F161o5 [4, 23, 24, 25])
((.seq (.ops F161o6 [23, 24, 25, 46])
(.cond (.t 46)
((.seq (.ops F161o7 [2])
(.ret)))
(.skip)))))))
(.ops F161o8 [23, 24, 25]))))))
def F161o10 : List AOper := [⟨some 2, .t (.mv (.c (.bool true))), none⟩]
def F161c : ACode :=
(.seq (.ops F161o0 [0])
((.seq ((.seq (.ops F161o1 [0, 21])
(.cond (.t 21)
((.seq (.ops F161o2 [2])
(.ret)))
(.skip))))
((.seq ((.seq (.ops F161o3 [23, 24, 25])
(.block 0 (.loop [23, 24, 25] F161b9))))
((.seq (.ops F161o10 [2])
(.ret))))))))
def F161 : AFn := ⟨48, [.tmp 2], F161c⟩
theorem F161_ok : cFn Tryz.prog [] 161 = some F161 := by kernel_rfl
def F162o0 : List AOper := [⟨some 2, .m (.box 47 (.t 0)), none⟩,⟨some 3, .t (.mv (.c (.bool false))), none⟩]
def F162o1 : List AOper := [⟨some 4, .t (.faddr 1 (.t 2)), none⟩,⟨some 5, .m (.load false 1 (.t 4)), none⟩,⟨some 6, .t (.faddr 1 (.t 1)), none⟩,⟨some 7, .m (.load false 1 (.t 6)), none⟩,⟨some 8, .t (.bin .eql (.t 5) (.t 7)), none⟩,⟨some 9, .t (.mv (.t 8)), none⟩,⟨some 10, .t (.faddr 0 (.t 2)), (some (9, false))⟩,
  ⟨some 11, .m (.load false 1 (.t 10)), (some (9, false))⟩,
  ⟨some 12, .t (.faddr 0 (.t 1)), (some (9, false))⟩,
  ⟨some 13, .m (.load false 1 (.t 12)), (some (9, false))⟩,
  ⟨some 14, .t (.bin .eql (.t 11) (.t 13)), (some (9, false))⟩,
  ⟨some 15, .t (.pick (.t 9) (.c (.bool true)) (.t 14)), none⟩,⟨some 3, .t (.mv (.t 15)), none⟩]
def F162c : ACode :=
(.seq (.ops F162o0 [1, 2])
((.seq (.ops F162o1 [3])
(.ret))))
def F162 : AFn := ⟨16, [.tmp 3], F162c⟩
theorem F162_ok : cFn Tryz.prog [] 162 = some F162 := by kernel_rfl
end Go.Proofs.YtkjopaaeeaacmaaGreatDoor
