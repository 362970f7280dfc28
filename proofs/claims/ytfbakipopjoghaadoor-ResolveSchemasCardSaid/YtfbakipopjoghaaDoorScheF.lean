/- Functions of the program as the logic reads them, each with the proof that it is so read. -/
import Derived.Test.YtfbakipopjoghaaDoorProg
import Derived.Test.YtfbakipopjoghaaDoorCore4
import Derived.KernelRfl
set_option maxRecDepth 100000
namespace Go.Proofs.YtfbakipopjoghaaDoor
open Go Go.Ab
/- manifold/manifoldlaw23.ResolveLookups -/
def F5o0 : List AOper := [
  ⟨(some 2), .m (.box 44 (.t 0)), none⟩,
  ⟨(some 4), .t (.mv (.c (.bool false))), none⟩]
def F5o1 : List AOper := [
  ⟨(some 15), .m (.load true 5 (.t 2)), none⟩,
  ⟨(some 16), .call (.c (.clo 21 [] [])) [(.t 15)], none⟩,
  ⟨(some 17), .t (.mv (.t 1)), none⟩,
  ⟨(some 18), .call (.c (.clo 22 [] [])) [(.t 17)], none⟩,
  ⟨none, .m (.store 5 (.t 2) (.t 16)), none⟩,
  ⟨(some 1), .t (.mv (.t 18)), none⟩]
def F5o2 : List AOper := [
  ⟨(some 20), .m (.load true 5 (.t 2)), none⟩,
  ⟨(some 21), .t (.mv (.t 1)), none⟩,
  ⟨(some 22), .call (.c (.clo 23 [] [])) [(.t 20), (.t 21)], none⟩,
  ⟨(some 19), .t (.mv (.t 22)), none⟩,
  ⟨(some 23), .t (.ext (.t 19) 0), none⟩,
  ⟨(some 24), .t (.ext (.t 19) 1), none⟩,
  ⟨(some 5), .t (.mv (.t 23)), none⟩,
  ⟨(some 6), .t (.mv (.t 24)), none⟩]
def F5o3 : List AOper := [
  ⟨(some 26), .m (.load true 5 (.t 2)), none⟩,
  ⟨(some 27), .t (.mv (.t 1)), none⟩,
  ⟨(some 28), .call (.c (.clo 24 [] [])) [(.t 26), (.t 27)], none⟩,
  ⟨(some 25), .t (.mv (.t 28)), none⟩,
  ⟨(some 29), .t (.ext (.t 25) 0), none⟩,
  ⟨(some 30), .t (.ext (.t 25) 1), none⟩,
  ⟨(some 7), .t (.mv (.t 29)), none⟩,
  ⟨(some 8), .t (.mv (.t 30)), none⟩]
def F5o4 : List AOper := [
  ⟨(some 32), .m (.load true 5 (.t 2)), none⟩,
  ⟨(some 33), .t (.mv (.t 1)), none⟩,
  ⟨(some 34), .call (.c (.clo 25 [] [])) [(.t 32), (.t 33)], none⟩,
  ⟨(some 31), .t (.mv (.t 34)), none⟩,
  ⟨(some 35), .t (.ext (.t 31) 0), none⟩,
  ⟨(some 36), .t (.ext (.t 31) 1), none⟩,
  ⟨(some 9), .t (.mv (.t 35)), none⟩,
  ⟨(some 10), .t (.mv (.t 36)), none⟩]
def F5o5 : List AOper := [
  ⟨(some 11), .t (.mv (.c (.int .i64 (-1)))), none⟩,
  ⟨(some 12), .t (.mv (.c (.int .i64 (-1)))), none⟩,
  ⟨(some 13), .t (.mv (.c (.int .i64 (-1)))), none⟩]
def F5o6 : List AOper := [
  ⟨(some 14), .t (.mv (.c (.int .i64 5))), none⟩]
def F5o7 : List AOper := [
  ⟨(some 37), .t (.mv (.t 14)), none⟩,
  ⟨(some 38), .t (.bin .geq (.t 37) (.c (.int .i64 0))), none⟩]
def F5o8 : List AOper := [
  ⟨(some 41), .t (.mv (.t 14)), none⟩,
  ⟨(some 42), .t (.faddr 2 (.t 2)), none⟩,
  ⟨(some 43), .m (.load false 1 (.t 42)), none⟩,
  ⟨(some 44), .t (.len false (.t 43)), none⟩,
  ⟨(some 45), .t (.bin .lss (.t 41) (.t 44)), none⟩,
  ⟨(some 46), .t (.mv (.t 45)), none⟩,
  ⟨(some 47), .t (.faddr 2 (.t 2)), (some (46, true))⟩,
  ⟨(some 48), .m (.load false 1 (.t 47)), (some (46, true))⟩,
  ⟨(some 49), .t (.mv (.t 14)), (some (46, true))⟩,
  ⟨(some 50), .t (.iaddr 7 (.t 48) (.t 49)), (some (46, true))⟩,
  ⟨(some 51), .t (.faddr 0 (.t 50)), (some (46, true))⟩,
  ⟨(some 52), .m (.load false 1 (.t 51)), (some (46, true))⟩,
  ⟨(some 53), .t (.mv (.t 1)), (some (46, true))⟩,
  ⟨(some 54), .t (.bin .eql (.t 52) (.t 53)), (some (46, true))⟩,
  ⟨(some 55), .t (.pick (.t 46) (.t 54) (.c (.bool false))), none⟩]
def F5o9 : List AOper := [
  ⟨(some 56), .t (.mv (.t 14)), none⟩,
  ⟨(some 11), .t (.mv (.t 56)), none⟩]
def F5o10 : List AOper := [
  ⟨(some 57), .t (.mv (.t 14)), none⟩,
  ⟨(some 58), .t (.faddr 3 (.t 2)), none⟩,
  ⟨(some 59), .m (.load false 1 (.t 58)), none⟩,
  ⟨(some 60), .t (.len false (.t 59)), none⟩,
  ⟨(some 61), .t (.bin .lss (.t 57) (.t 60)), none⟩,
  ⟨(some 62), .t (.mv (.t 61)), none⟩,
  ⟨(some 63), .t (.faddr 3 (.t 2)), (some (62, true))⟩,
  ⟨(some 64), .m (.load false 1 (.t 63)), (some (62, true))⟩,
  ⟨(some 65), .t (.mv (.t 14)), (some (62, true))⟩,
  ⟨(some 66), .t (.iaddr 4 (.t 64) (.t 65)), (some (62, true))⟩,
  ⟨(some 67), .t (.faddr 0 (.t 66)), (some (62, true))⟩,
  ⟨(some 68), .m (.load false 1 (.t 67)), (some (62, true))⟩,
  ⟨(some 69), .t (.mv (.t 1)), (some (62, true))⟩,
  ⟨(some 70), .t (.bin .eql (.t 68) (.t 69)), (some (62, true))⟩,
  ⟨(some 71), .t (.pick (.t 62) (.t 70) (.c (.bool false))), none⟩]
def F5o11 : List AOper := [
  ⟨(some 72), .t (.mv (.t 14)), none⟩,
  ⟨(some 12), .t (.mv (.t 72)), none⟩]
def F5o12 : List AOper := [
  ⟨(some 73), .t (.mv (.t 14)), none⟩,
  ⟨(some 74), .t (.faddr 4 (.t 2)), none⟩,
  ⟨(some 75), .m (.load false 1 (.t 74)), none⟩,
  ⟨(some 76), .t (.len false (.t 75)), none⟩,
  ⟨(some 77), .t (.bin .lss (.t 73) (.t 76)), none⟩,
  ⟨(some 78), .t (.mv (.t 77)), none⟩,
  ⟨(some 79), .t (.faddr 4 (.t 2)), (some (78, true))⟩,
  ⟨(some 80), .m (.load false 1 (.t 79)), (some (78, true))⟩,
  ⟨(some 81), .t (.mv (.t 14)), (some (78, true))⟩,
  ⟨(some 82), .t (.iaddr 3 (.t 80) (.t 81)), (some (78, true))⟩,
  ⟨(some 83), .t (.faddr 1 (.t 82)), (some (78, true))⟩,
  ⟨(some 84), .m (.load false 1 (.t 83)), (some (78, true))⟩,
  ⟨(some 85), .t (.mv (.t 1)), (some (78, true))⟩,
  ⟨(some 86), .t (.bin .eql (.t 84) (.t 85)), (some (78, true))⟩,
  ⟨(some 87), .t (.pick (.t 78) (.t 86) (.c (.bool false))), none⟩]
def F5o13 : List AOper := [
  ⟨(some 88), .t (.mv (.t 14)), none⟩,
  ⟨(some 13), .t (.mv (.t 88)), none⟩]
def F5o14 : List AOper := [
  ⟨(some 39), .t (.mv (.t 14)), none⟩,
  ⟨(some 40), .t (.bin .sub (.t 39) (.c (.int .i64 1))), none⟩,
  ⟨(some 14), .t (.mv (.t 40)), none⟩]
def F5b15 : ACode :=
  (.seq ((.seq (.ops F5o7 [1, 2, 5, 6, 7, 8, 9, 10, 11, 12, 13, 14, 38])
  (.cond (.t 38)
    (.skip)
    (.exit 0))))
  ((.seq (.block 1 ((.seq ((.seq (.ops F5o8 [1, 2, 5, 6, 7, 8, 9, 10, 11, 12, 13, 14, 55])
    (.cond (.t 55)
      (.ops F5o9 [1, 2, 5, 6, 7, 8, 9, 10, 11, 12, 13, 14])
      (.skip))))
    ((.seq ((.seq (.ops F5o10 [1, 2, 5, 6, 7, 8, 9, 10, 11, 12, 13, 14, 71])
     (.cond (.t 71)
       (.ops F5o11 [1, 2, 5, 6, 7, 8, 9, 10, 11, 12, 13, 14])
       (.skip))))
     ((.seq (.ops F5o12 [1, 2, 5, 6, 7, 8, 9, 10, 11, 12, 13, 14, 87])
      (.cond (.t 87)
        (.ops F5o13 [1, 2, 5, 6, 7, 8, 9, 10, 11, 12, 13, 14])
        (.skip)))))))))
   (.ops F5o14 [1, 2, 5, 6, 7, 8, 9, 10, 11, 12, 13, 14]))))
def F5o16 : List AOper := [
  ⟨(some 89), .call (.c (.clo 14 [] [])) [], none⟩,
  ⟨(some 90), .t (.mv (.t 89)), none⟩,
  ⟨(some 91), .t (.mv (.t 6)), (some (90, true))⟩,
  ⟨(some 92), .t (.mv (.t 11)), (some (90, true))⟩,
  ⟨(some 93), .t (.bin .geq (.t 92) (.c (.int .i64 0))), (some (90, true))⟩,
  ⟨(some 94), .t (.beq 0 false (.t 91) (.t 93)), (some (90, true))⟩,
  ⟨(some 95), .t (.pick (.t 90) (.t 94) (.c (.bool false))), none⟩,
  ⟨(some 96), .t (.mv (.t 95)), none⟩,
  ⟨(some 97), .t (.mv (.t 5)), (some (96, true))⟩,
  ⟨(some 98), .t (.mv (.t 11)), (some (96, true))⟩,
  ⟨(some 99), .t (.imax (.t 98) (.c (.int .i64 0))), (some (96, true))⟩,
  ⟨(some 100), .t (.bin .eql (.t 97) (.t 99)), (some (96, true))⟩,
  ⟨(some 101), .t (.pick (.t 96) (.t 100) (.c (.bool false))), none⟩,
  ⟨(some 102), .t (.mv (.t 101)), none⟩,
  ⟨(some 103), .t (.mv (.t 8)), (some (102, true))⟩,
  ⟨(some 104), .t (.mv (.t 12)), (some (102, true))⟩,
  ⟨(some 105), .t (.bin .geq (.t 104) (.c (.int .i64 0))), (some (102, true))⟩,
  ⟨(some 106), .t (.beq 0 false (.t 103) (.t 105)), (some (102, true))⟩,
  ⟨(some 107), .t (.pick (.t 102) (.t 106) (.c (.bool false))), none⟩,
  ⟨(some 108), .t (.mv (.t 107)), none⟩,
  ⟨(some 109), .t (.mv (.t 7)), (some (108, true))⟩,
  ⟨(some 110), .t (.mv (.t 12)), (some (108, true))⟩,
  ⟨(some 111), .t (.imax (.t 110) (.c (.int .i64 0))), (some (108, true))⟩,
  ⟨(some 112), .t (.bin .eql (.t 109) (.t 111)), (some (108, true))⟩,
  ⟨(some 113), .t (.pick (.t 108) (.t 112) (.c (.bool false))), none⟩,
  ⟨(some 114), .t (.mv (.t 113)), none⟩,
  ⟨(some 115), .t (.mv (.t 10)), (some (114, true))⟩,
  ⟨(some 116), .t (.mv (.t 13)), (some (114, true))⟩,
  ⟨(some 117), .t (.bin .geq (.t 116) (.c (.int .i64 0))), (some (114, true))⟩,
  ⟨(some 118), .t (.beq 0 false (.t 115) (.t 117)), (some (114, true))⟩,
  ⟨(some 119), .t (.pick (.t 114) (.t 118) (.c (.bool false))), none⟩,
  ⟨(some 120), .t (.mv (.t 119)), none⟩,
  ⟨(some 121), .t (.mv (.t 9)), (some (120, true))⟩,
  ⟨(some 122), .t (.mv (.t 13)), (some (120, true))⟩,
  ⟨(some 123), .t (.imax (.t 122) (.c (.int .i64 0))), (some (120, true))⟩,
  ⟨(some 124), .t (.bin .eql (.t 121) (.t 123)), (some (120, true))⟩,
  ⟨(some 125), .t (.pick (.t 120) (.t 124) (.c (.bool false))), none⟩,
  ⟨(some 4), .t (.mv (.t 125)), none⟩]
def F5c : ACode :=
  (.seq (.ops F5o0 [1, 2])
  ((.seq (.ops F5o1 [1, 2])
   ((.seq (.ops F5o2 [1, 2, 5, 6])
    ((.seq (.ops F5o3 [1, 2, 5, 6, 7, 8])
     ((.seq (.ops F5o4 [1, 2, 5, 6, 7, 8, 9, 10])
      ((.seq (.ops F5o5 [1, 2, 5, 6, 7, 8, 9, 10, 11, 12, 13])
       ((.seq ((.seq (.ops F5o6 [1, 2, 5, 6, 7, 8, 9, 10, 11, 12, 13, 14])
        (.block 0 (.loop [1, 2, 5, 6, 7, 8, 9, 10, 11, 12, 13, 14] F5b15))))
        ((.seq (.ops F5o16 [4])
         (.ret))))))))))))))))
def F5 : AFn := ⟨126, [.tmp 4], F5c⟩
theorem F5_ok : cFn Tryd.prog [] 5 = some F5 := by kernel_rfl

/- manifold/manifoldlaw23.ResolveSchemas -/
def F6o0 : List AOper := [
  ⟨(some 3), .m (.box 44 (.t 0)), none⟩,
  ⟨(some 6), .t (.mv (.c (.bool false))), none⟩]
def F6o1 : List AOper := [
  ⟨(some 13), .m (.load true 5 (.t 3)), none⟩,
  ⟨(some 14), .call (.c (.clo 21 [] [])) [(.t 13)], none⟩,
  ⟨(some 15), .t (.mv (.t 1)), none⟩,
  ⟨(some 16), .call (.c (.clo 22 [] [])) [(.t 15)], none⟩,
  ⟨none, .m (.store 5 (.t 3) (.t 14)), none⟩,
  ⟨(some 1), .t (.mv (.t 16)), none⟩]
def F6o2 : List AOper := [
  ⟨(some 18), .m (.load true 5 (.t 3)), none⟩,
  ⟨(some 19), .t (.mv (.t 1)), none⟩,
  ⟨(some 20), .t (.mv (.t 2)), none⟩,
  ⟨(some 21), .call (.c (.clo 26 [] [])) [(.t 18), (.t 19), (.t 20)], none⟩,
  ⟨(some 17), .t (.mv (.t 21)), none⟩,
  ⟨(some 22), .t (.ext (.t 17) 0), none⟩,
  ⟨(some 23), .t (.ext (.t 17) 1), none⟩,
  ⟨(some 7), .t (.mv (.t 22)), none⟩,
  ⟨(some 8), .t (.mv (.t 23)), none⟩]
def F6o3 : List AOper := [
  ⟨(some 25), .m (.load true 5 (.t 3)), none⟩,
  ⟨(some 26), .t (.mv (.t 1)), none⟩,
  ⟨(some 27), .call (.c (.clo 27 [] [])) [(.t 25), (.t 26)], none⟩,
  ⟨(some 24), .t (.mv (.t 27)), none⟩,
  ⟨(some 28), .t (.ext (.t 24) 0), none⟩,
  ⟨(some 29), .t (.ext (.t 24) 1), none⟩,
  ⟨(some 9), .t (.mv (.t 28)), none⟩,
  ⟨(some 10), .t (.mv (.t 29)), none⟩]
def F6o4 : List AOper := [
  ⟨(some 30), .m (.load true 5 (.t 3)), none⟩,
  ⟨(some 31), .t (.mv (.t 1)), none⟩,
  ⟨(some 32), .t (.mv (.t 2)), none⟩,
  ⟨(some 33), .call (.c (.clo 28 [] [])) [(.t 30), (.t 31), (.t 32)], none⟩,
  ⟨(some 34), .m (.load true 5 (.t 3)), none⟩,
  ⟨(some 35), .t (.mv (.t 1)), none⟩]
def F6p4 : List AOper := [
  ⟨(some 36), .call (.c (.clo 29 [] [])) [(.t 34), (.t 35)], none⟩,
  ⟨(some 11), .t (.mv (.t 33)), none⟩,
  ⟨(some 12), .t (.mv (.t 36)), none⟩]
def F6A4 : List (List Nat) := [[], [], [], [0, 1, 2], [], [], [4, 5, 3, 0, 1, 2], [6, 4, 5, 3, 0, 1, 2], [7, 6, 4, 5, 3, 0, 1, 2]]
def F6o5 : List AOper := [
  ⟨(some 37), .call (.c (.clo 14 [] [])) [], none⟩,
  ⟨(some 38), .t (.mv (.t 37)), none⟩,
  ⟨(some 39), .t (.mv (.t 8)), (some (38, true))⟩,
  ⟨(some 40), .t (.mv (.t 11)), (some (38, true))⟩,
  ⟨(some 41), .t (.bin .geq (.t 40) (.c (.int .i64 0))), (some (38, true))⟩,
  ⟨(some 42), .t (.beq 0 false (.t 39) (.t 41)), (some (38, true))⟩,
  ⟨(some 43), .t (.pick (.t 38) (.t 42) (.c (.bool false))), none⟩,
  ⟨(some 44), .t (.mv (.t 43)), none⟩,
  ⟨(some 45), .t (.mv (.t 7)), (some (44, true))⟩,
  ⟨(some 46), .t (.mv (.t 11)), (some (44, true))⟩,
  ⟨(some 47), .t (.imax (.t 46) (.c (.int .i64 0))), (some (44, true))⟩,
  ⟨(some 48), .t (.bin .eql (.t 45) (.t 47)), (some (44, true))⟩,
  ⟨(some 49), .t (.pick (.t 44) (.t 48) (.c (.bool false))), none⟩,
  ⟨(some 50), .t (.mv (.t 49)), none⟩,
  ⟨(some 51), .t (.mv (.t 10)), (some (50, true))⟩,
  ⟨(some 52), .t (.mv (.t 12)), (some (50, true))⟩,
  ⟨(some 53), .t (.bin .geq (.t 52) (.c (.int .i64 0))), (some (50, true))⟩,
  ⟨(some 54), .t (.beq 0 false (.t 51) (.t 53)), (some (50, true))⟩,
  ⟨(some 55), .t (.pick (.t 50) (.t 54) (.c (.bool false))), none⟩,
  ⟨(some 56), .t (.mv (.t 55)), none⟩,
  ⟨(some 57), .t (.mv (.t 9)), (some (56, true))⟩,
  ⟨(some 58), .t (.mv (.t 12)), (some (56, true))⟩,
  ⟨(some 59), .t (.imax (.t 58) (.c (.int .i64 0))), (some (56, true))⟩,
  ⟨(some 60), .t (.bin .eql (.t 57) (.t 59)), (some (56, true))⟩,
  ⟨(some 61), .t (.pick (.t 56) (.t 60) (.c (.bool false))), none⟩,
  ⟨(some 6), .t (.mv (.t 61)), none⟩]
def F6c : ACode :=
  (.seq (.ops F6o0 [1, 2, 3])
  ((.seq (.ops F6o1 [1, 2, 3])
   ((.seq (.ops F6o2 [1, 2, 3, 7, 8])
    ((.seq (.ops F6o3 [1, 2, 3, 7, 8, 9, 10])
     ((.seq (.draw F6A4 F6o4 F6p4 [7, 8, 9, 10, 11, 12])
      ((.seq (.ops F6o5 [6])
       (.ret))))))))))))
def F6 : AFn := ⟨62, [.tmp 6], F6c⟩
theorem F6_ok : cFn Tryd.prog [] 6 = some F6 := by kernel_rfl

/- manifold/manifoldlaw23.shortSteps -/
def F11o0 : List AOper := [
  ⟨(some 4), .t (.mv (.c .nils)), none⟩]
def F11o1 : List AOper := [
  ⟨(some 5), .t (.mv (.c .nils)), none⟩]
def F11o2 : List AOper := [
  ⟨(some 6), .t (.mv (.c (.int .i64 0))), none⟩]
def F11o3 : List AOper := [
  ⟨(some 11), .t (.mv (.t 6)), none⟩,
  ⟨(some 12), .t (.mv (.t 0)), none⟩,
  ⟨(some 13), .t (.len false (.t 12)), none⟩,
  ⟨(some 14), .t (.bin .lss (.t 11) (.t 13)), none⟩,
  ⟨(some 15), .t (.mv (.t 14)), none⟩,
  ⟨(some 16), .t (.mv (.t 6)), (some (15, true))⟩,
  ⟨(some 17), .t (.bin .lss (.t 16) (.c (.int .i64 8))), (some (15, true))⟩,
  ⟨(some 18), .t (.pick (.t 15) (.t 17) (.c (.bool false))), none⟩]
def F11o4 : List AOper := [
  ⟨(some 21), .t (.mv (.t 0)), none⟩,
  ⟨(some 22), .t (.mv (.t 6)), none⟩,
  ⟨(some 23), .t (.iaddr 11 (.t 21) (.t 22)), none⟩,
  ⟨(some 24), .m (.load true 11 (.t 23)), none⟩,
  ⟨(some 7), .m (.alloc 32 [(.str []), (.int .i64 0), (.int .i64 0), (.int .i64 0), (.int .i64 0), (.str []), (.str []), .nils, .nils, .nils, .nils]), none⟩,
  ⟨none, .m (.store 11 (.t 7) (.t 24)), none⟩]
def F11o5 : List AOper := [
  ⟨(some 25), .t (.faddr 0 (.t 7)), none⟩,
  ⟨(some 26), .m (.load false 1 (.t 25)), none⟩,
  ⟨(some 27), .call (.c (.clo 22 [] [])) [(.t 26)], none⟩,
  ⟨(some 28), .t (.faddr 5 (.t 7)), none⟩,
  ⟨(some 29), .m (.load false 1 (.t 28)), none⟩,
  ⟨(some 30), .call (.c (.clo 22 [] [])) [(.t 29)], none⟩,
  ⟨(some 31), .t (.faddr 6 (.t 7)), none⟩,
  ⟨(some 32), .m (.load false 1 (.t 31)), none⟩,
  ⟨(some 33), .call (.c (.clo 22 [] [])) [(.t 32)], none⟩,
  ⟨(some 34), .t (.faddr 0 (.t 7)), none⟩]
def F11p5 : List AOper := [
  ⟨none, .m (.store 1 (.t 34) (.t 27)), none⟩,
  ⟨(some 35), .t (.faddr 5 (.t 7)), none⟩,
  ⟨none, .m (.store 1 (.t 35) (.t 30)), none⟩,
  ⟨(some 36), .t (.faddr 6 (.t 7)), none⟩,
  ⟨none, .m (.store 1 (.t 36) (.t 33)), none⟩]
def F11A5 : List (List Nat) := [[], [0], [1, 0], [], [3], [4, 2, 3, 1, 0], [], [6], [7, 5, 6, 4, 2, 3, 1, 0], [2, 4, 7, 1, 0, 3, 6], [9, 8, 7, 5, 4, 2, 1, 0, 3, 6], [10, 9, 8, 7, 5, 4, 2, 1, 0, 3, 6], [11, 10, 9, 8, 7, 5, 4, 2, 1, 0, 3, 6], [12, 11, 10, 9, 8, 7, 5, 4, 2, 1, 0, 3, 6], [13, 12, 11, 10, 9, 8, 7, 5, 4, 2, 1, 0, 3, 6]]
def F11o6 : List AOper := [
  ⟨(some 37), .t (.faddr 7 (.t 7)), none⟩,
  ⟨(some 38), .m (.load false 1 (.t 37)), none⟩,
  ⟨(some 39), .t (.faddr 7 (.t 7)), none⟩,
  ⟨(some 40), .m (.load false 1 (.t 39)), none⟩,
  ⟨(some 41), .t (.len false (.t 40)), none⟩,
  ⟨(some 42), .t (.imin (.t 41) (.c (.int .i64 3))), none⟩,
  ⟨(some 43), .t (.sliceL 5 (.t 38) none (some (.t 42))), none⟩,
  ⟨(some 44), .m (.bslice true 87 2 0 []), none⟩,
  ⟨(some 45), .t (.faddr 9 (.t 7)), none⟩,
  ⟨(some 46), .m (.load false 1 (.t 45)), none⟩,
  ⟨(some 47), .t (.faddr 9 (.t 7)), none⟩,
  ⟨(some 48), .m (.load false 1 (.t 47)), none⟩,
  ⟨(some 49), .t (.len false (.t 48)), none⟩,
  ⟨(some 50), .t (.imin (.t 49) (.c (.int .i64 18))), none⟩,
  ⟨(some 51), .t (.sliceL 2 (.t 46) none (some (.t 50))), none⟩,
  ⟨(some 52), .m (.append true 87 2 40 (.t 44) (.t 51)), none⟩,
  ⟨(some 53), .t (.faddr 8 (.t 7)), none⟩,
  ⟨(some 54), .t (.faddr 0 (.t 53)), none⟩,
  ⟨(some 55), .m (.load false 1 (.t 54)), none⟩,
  ⟨(some 56), .t (.faddr 8 (.t 7)), none⟩,
  ⟨(some 57), .t (.faddr 0 (.t 56)), none⟩,
  ⟨(some 58), .m (.load false 1 (.t 57)), none⟩,
  ⟨(some 59), .t (.len false (.t 58)), none⟩,
  ⟨(some 60), .t (.imin (.t 59) (.c (.int .i64 4))), none⟩,
  ⟨(some 61), .t (.sliceL 6 (.t 55) none (some (.t 60))), none⟩,
  ⟨(some 62), .t (.faddr 7 (.t 7)), none⟩,
  ⟨none, .m (.store 1 (.t 62) (.t 43)), none⟩,
  ⟨(some 63), .t (.faddr 9 (.t 7)), none⟩,
  ⟨none, .m (.store 1 (.t 63) (.t 52)), none⟩]
def F11p6 : List AOper := [
  ⟨(some 64), .t (.faddr 8 (.t 7)), none⟩,
  ⟨(some 65), .t (.faddr 0 (.t 64)), none⟩,
  ⟨none, .m (.store 1 (.t 65) (.t 61)), none⟩]
def F11A6 : List (List Nat) := [[], [0], [], [2], [3, 2], [4, 3, 2], [1, 5, 0, 4, 3, 2], [], [], [8], [], [10], [11, 10], [12, 11, 10], [9, 13, 8, 12, 11, 10], [7, 14, 9, 13, 8, 12, 11, 10], [], [16], [17, 16], [], [19], [20, 19], [21, 20, 19], [22, 21, 20, 19], [18, 23, 17, 16, 22, 21, 20, 19], [6, 9, 11, 18, 21, 1, 5, 0, 4, 3, 2, 8, 10, 17, 16, 20, 19], [25, 15, 6, 18, 21, 7, 14, 9, 13, 12, 11, 1, 5, 0, 4, 3, 2, 8, 10, 17, 16, 20, 19], [26, 25, 15, 6, 18, 21, 7, 14, 9, 13, 12, 11, 1, 5, 0, 4, 3, 2, 8, 10, 17, 16, 20, 19], [27, 26, 25, 15, 6, 18, 21, 7, 14, 9, 13, 12, 11, 1, 5, 0, 4, 3, 2, 8, 10, 17, 16, 20, 19], [24, 28, 23, 22, 27, 26, 25, 15, 6, 18, 21, 7, 14, 9, 13, 12, 11, 1, 5, 0, 4, 3, 2, 8, 10, 17, 16, 20, 19], [29, 24, 28, 23, 22, 27, 26, 25, 15, 6, 18, 21, 7, 14, 9, 13, 12, 11, 1, 5, 0, 4, 3, 2, 8, 10, 17, 16, 20, 19], [30, 29, 24, 28, 23, 22, 27, 26, 25, 15, 6, 18, 21, 7, 14, 9, 13, 12, 11, 1, 5, 0, 4, 3, 2, 8, 10, 17, 16, 20, 19]]
def F11o7 : List AOper := [
  ⟨(some 8), .t (.mv (.c (.int .i64 0))), none⟩]
def F11o8 : List AOper := [
  ⟨(some 66), .t (.mv (.t 8)), none⟩,
  ⟨(some 67), .t (.faddr 9 (.t 7)), none⟩,
  ⟨(some 68), .m (.load false 1 (.t 67)), none⟩,
  ⟨(some 69), .t (.len false (.t 68)), none⟩,
  ⟨(some 70), .t (.bin .lss (.t 66) (.t 69)), none⟩]
def F11o9 : List AOper := [
  ⟨(some 73), .t (.faddr 9 (.t 7)), none⟩,
  ⟨(some 74), .m (.load false 1 (.t 73)), none⟩,
  ⟨(some 75), .t (.mv (.t 8)), none⟩,
  ⟨(some 76), .t (.faddr 9 (.t 7)), none⟩,
  ⟨(some 77), .m (.load false 1 (.t 76)), none⟩,
  ⟨(some 78), .t (.mv (.t 8)), none⟩,
  ⟨(some 79), .t (.iaddr 2 (.t 77) (.t 78)), none⟩,
  ⟨(some 80), .t (.faddr 0 (.t 79)), none⟩,
  ⟨(some 81), .m (.load false 1 (.t 80)), none⟩,
  ⟨(some 82), .call (.c (.clo 22 [] [])) [(.t 81)], none⟩]
def F11p9 : List AOper := [
  ⟨(some 83), .t (.iaddr 2 (.t 74) (.t 75)), none⟩,
  ⟨(some 84), .t (.faddr 0 (.t 83)), none⟩,
  ⟨none, .m (.store 1 (.t 84) (.t 82)), none⟩]
def F11A9 : List (List Nat) := [[], [0], [], [], [3], [], [4, 5, 3], [6, 4, 5, 3], [7, 6, 4, 5, 3], [8, 7, 6, 4, 5, 3], [1, 2, 9, 0, 8, 7, 6, 4, 5, 3], [10, 1, 2, 9, 0, 8, 7, 6, 4, 5, 3], [11, 10, 1, 2, 9, 0, 8, 7, 6, 4, 5, 3]]
def F11o10 : List AOper := [
  ⟨(some 71), .t (.mv (.t 8)), none⟩,
  ⟨(some 72), .t (.bin .add (.t 71) (.c (.int .i64 1))), none⟩,
  ⟨(some 8), .t (.mv (.t 72)), none⟩]
def F11b11 : ACode :=
  (.seq ((.seq (.ops F11o8 [0, 1, 5, 6, 7, 8, 70])
  (.cond (.t 70)
    (.skip)
    (.exit 2))))
  ((.seq (.block 3 (.draw F11A9 F11o9 F11p9 [0, 1, 5, 6, 7, 8]))
   (.ops F11o10 [0, 1, 5, 6, 7, 8]))))
def F11o12 : List AOper := [
  ⟨(some 85), .t (.faddr 10 (.t 7)), none⟩,
  ⟨none, .m (.store 1 (.t 85) (.c .nils)), none⟩]
def F11o13 : List AOper := [
  ⟨(some 9), .t (.mv (.c (.int .i64 0))), none⟩]
def F11o14 : List AOper := [
  ⟨(some 86), .t (.mv (.t 9)), none⟩,
  ⟨(some 87), .t (.mv (.t 0)), none⟩,
  ⟨(some 88), .t (.mv (.t 6)), none⟩,
  ⟨(some 89), .t (.iaddr 11 (.t 87) (.t 88)), none⟩,
  ⟨(some 90), .t (.faddr 10 (.t 89)), none⟩,
  ⟨(some 91), .m (.load false 1 (.t 90)), none⟩,
  ⟨(some 92), .t (.len false (.t 91)), none⟩,
  ⟨(some 93), .t (.bin .lss (.t 86) (.t 92)), none⟩,
  ⟨(some 94), .t (.mv (.t 93)), none⟩,
  ⟨(some 95), .t (.mv (.t 9)), (some (94, true))⟩,
  ⟨(some 96), .t (.bin .lss (.t 95) (.c (.int .i64 4))), (some (94, true))⟩,
  ⟨(some 97), .t (.pick (.t 94) (.t 96) (.c (.bool false))), none⟩,
  ⟨(some 98), .t (.mv (.t 97)), none⟩,
  ⟨(some 99), .t (.mv (.t 1)), (some (98, true))⟩,
  ⟨(some 100), .t (.bin .gtr (.t 99) (.c (.int .i64 0))), (some (98, true))⟩,
  ⟨(some 101), .t (.pick (.t 98) (.t 100) (.c (.bool false))), none⟩]
def F11o15 : List AOper := [
  ⟨(some 104), .t (.mv (.t 0)), none⟩,
  ⟨(some 105), .t (.mv (.t 6)), none⟩,
  ⟨(some 106), .t (.iaddr 11 (.t 104) (.t 105)), none⟩,
  ⟨(some 107), .t (.faddr 10 (.t 106)), none⟩,
  ⟨(some 108), .m (.load false 1 (.t 107)), none⟩,
  ⟨(some 109), .t (.mv (.t 9)), none⟩,
  ⟨(some 110), .t (.iaddr 2 (.t 108) (.t 109)), none⟩,
  ⟨(some 111), .m (.load true 2 (.t 110)), none⟩,
  ⟨(some 10), .m (.alloc 89 [.nils, .nils]), none⟩,
  ⟨none, .m (.store 2 (.t 10) (.t 111)), none⟩]
def F11o16 : List AOper := [
  ⟨(some 112), .t (.faddr 10 (.t 7)), none⟩,
  ⟨(some 113), .m (.load false 1 (.t 112)), none⟩,
  ⟨(some 114), .t (.faddr 0 (.t 10)), none⟩,
  ⟨(some 115), .m (.load false 1 (.t 114)), none⟩,
  ⟨(some 116), .t (.faddr 0 (.t 10)), none⟩,
  ⟨(some 117), .m (.load false 1 (.t 116)), none⟩,
  ⟨(some 118), .t (.len false (.t 117)), none⟩,
  ⟨(some 119), .t (.imin (.t 118) (.c (.int .i64 2))), none⟩,
  ⟨(some 120), .t (.sliceL 5 (.t 115) none (some (.t 119))), none⟩,
  ⟨(some 121), .t (.faddr 1 (.t 10)), none⟩,
  ⟨(some 122), .m (.load false 1 (.t 121)), none⟩,
  ⟨(some 123), .t (.mv (.t 1)), none⟩,
  ⟨(some 124), .t (.bin .sub (.t 123) (.c (.int .i64 1))), none⟩,
  ⟨(some 125), .call (.c (.clo 11 [] [])) [(.t 122), (.t 124)], none⟩,
  ⟨(some 126), .t (.build [.nils, .nils] [(0, 1, (.t 120)), (1, 1, (.t 125))]), none⟩,
  ⟨(some 127), .m (.bslice false 89 2 1 [(.t 126)]), none⟩]
def F11p16 : List AOper := [
  ⟨(some 128), .m (.append false 89 2 48 (.t 113) (.t 127)), none⟩,
  ⟨(some 129), .t (.faddr 10 (.t 7)), none⟩,
  ⟨none, .m (.store 1 (.t 129) (.t 128)), none⟩]
def F11A16 : List (List Nat) := [[], [0], [], [2], [], [4], [5, 4], [6, 5, 4], [3, 7, 2, 6, 5, 4], [], [9], [], [11], [10, 12, 9, 11], [8, 13, 3, 7, 2, 6, 5, 4, 10, 12, 9, 11], [14, 8, 13, 3, 7, 2, 6, 5, 4, 10, 12, 9, 11], [1, 15, 0, 14, 8, 13, 3, 7, 2, 6, 5, 4, 10, 12, 9, 11], [16, 1, 15, 0, 14, 8, 13, 3, 7, 2, 6, 5, 4, 10, 12, 9, 11], [17, 16, 1, 15, 0, 14, 8, 13, 3, 7, 2, 6, 5, 4, 10, 12, 9, 11]]
def F11o17 : List AOper := [
  ⟨(some 102), .t (.mv (.t 9)), none⟩,
  ⟨(some 103), .t (.bin .add (.t 102) (.c (.int .i64 1))), none⟩,
  ⟨(some 9), .t (.mv (.t 103)), none⟩]
def F11b18 : ACode :=
  (.seq ((.seq (.ops F11o14 [0, 1, 5, 6, 7, 9, 101])
  (.cond (.t 101)
    (.skip)
    (.exit 4))))
  ((.seq (.block 5 ((.seq (.ops F11o15 [0, 1, 5, 6, 7, 9, 10])
    (.draw F11A16 F11o16 F11p16 [0, 1, 5, 6, 7, 9]))))
   (.ops F11o17 [0, 1, 5, 6, 7, 9]))))
def F11o19 : List AOper := [
  ⟨(some 130), .t (.mv (.t 5)), none⟩,
  ⟨(some 131), .fz (some (true, 11)) (.t 7), none⟩,
  ⟨(some 132), .m (.bslice false 32 11 1 [(.t 131)]), none⟩,
  ⟨(some 133), .m (.append false 32 11 176 (.t 130) (.t 132)), none⟩,
  ⟨(some 5), .t (.mv (.t 133)), none⟩]
def F11o20 : List AOper := [
  ⟨(some 19), .t (.mv (.t 6)), none⟩,
  ⟨(some 20), .t (.bin .add (.t 19) (.c (.int .i64 1))), none⟩,
  ⟨(some 6), .t (.mv (.t 20)), none⟩]
def F11b21 : ACode :=
  (.seq ((.seq (.ops F11o3 [0, 1, 5, 6, 18])
  (.cond (.t 18)
    (.skip)
    (.exit 0))))
  ((.seq (.block 1 ((.seq (.ops F11o4 [0, 1, 5, 6, 7])
    ((.seq (.draw F11A5 F11o5 F11p5 [0, 1, 5, 6, 7])
     ((.seq (.draw F11A6 F11o6 F11p6 [0, 1, 5, 6, 7])
      ((.seq ((.seq (.ops F11o7 [0, 1, 5, 6, 7, 8])
       (.block 2 (.loop [0, 1, 5, 6, 7, 8] F11b11))))
       ((.seq (.ops F11o12 [0, 1, 5, 6, 7])
        ((.seq ((.seq (.ops F11o13 [0, 1, 5, 6, 7, 9])
         (.block 4 (.loop [0, 1, 5, 6, 7, 9] F11b18))))
         (.ops F11o19 [0, 1, 5, 6]))))))))))))))
   (.ops F11o20 [0, 1, 5, 6]))))
def F11o22 : List AOper := [
  ⟨(some 134), .t (.mv (.t 5)), none⟩,
  ⟨(some 4), .t (.mv (.t 134)), none⟩]
def F11c : ACode :=
  (.seq (.ops F11o0 [0, 1])
  ((.seq (.ops F11o1 [0, 1, 5])
   ((.seq ((.seq (.ops F11o2 [0, 1, 5, 6])
    (.block 0 (.loop [0, 1, 5, 6] F11b21))))
    ((.seq (.ops F11o22 [4])
     (.ret))))))))
def F11 : AFn := ⟨135, [.tmp 4], F11c⟩
theorem F11_ok : cFn Tryd.prog [44, 52, 1000131] 11 = some F11 := by kernel_rfl

/- manifold/resolve.Ends -/
def F12o0 : List AOper := [
  ⟨(some 1), .m (.cbox 32 (.t 0)), none⟩,
  ⟨(some 2), .t (.mv (.c (.bool false))), none⟩]
def F12o1 : List AOper := [
  ⟨(some 3), .t (.faddr 1 (.t 1)), none⟩,
  ⟨(some 4), .m (.load false 1 (.t 3)), none⟩]
def F12o2 : List AOper := [
  ⟨(some 6), .t (.bin .eql (.t 4) (.c (.int .i64 13))), none⟩,
  ⟨(some 5), .t (.mv (.t 6)), none⟩]
def F12o3 : List AOper := [
  ⟨(some 7), .t (.bin .eql (.t 4) (.c (.int .i64 14))), none⟩,
  ⟨(some 5), .t (.mv (.t 7)), none⟩]
def F12o4 : List AOper := [
  ⟨(some 2), .t (.mv (.c (.bool true))), none⟩]
def F12o5 : List AOper := [
  ⟨(some 9), .t (.bin .eql (.t 4) (.c (.int .i64 11))), none⟩,
  ⟨(some 8), .t (.mv (.t 9)), none⟩]
def F12o6 : List AOper := [
  ⟨(some 10), .t (.bin .eql (.t 4) (.c (.int .i64 12))), none⟩,
  ⟨(some 8), .t (.mv (.t 10)), none⟩]
def F12o7 : List AOper := [
  ⟨(some 11), .t (.faddr 10 (.t 1)), none⟩,
  ⟨(some 12), .m (.load false 1 (.t 11)), none⟩,
  ⟨(some 13), .t (.len false (.t 12)), none⟩,
  ⟨(some 14), .t (.bin .gtr (.t 13) (.c (.int .i64 0))), none⟩,
  ⟨(some 15), .t (.mv (.t 14)), none⟩,
  ⟨(some 16), .t (.faddr 10 (.t 1)), (some (15, true))⟩,
  ⟨(some 17), .m (.load false 1 (.t 16)), (some (15, true))⟩,
  ⟨(some 18), .call (.c (.clo 45 [] [])) [(.t 17), (.c (.clo 46 [] []))], (some (15, true))⟩,
  ⟨(some 19), .t (.not (.t 18)), (some (15, true))⟩,
  ⟨(some 20), .t (.pick (.t 15) (.t 19) (.c (.bool false))), none⟩,
  ⟨(some 2), .t (.mv (.t 20)), none⟩]
def F12o8 : List AOper := [
  ⟨(some 2), .t (.mv (.c (.bool false))), none⟩]
def F12c : ACode :=
  (.seq (.ops F12o0 [1])
  ((.seq ((.seq (.ops F12o1 [1, 4])
   (.block 0 ((.seq ((.seq (.ops F12o2 [1, 4, 5])
     (.cond (.t 5)
       (.skip)
       (.ops F12o3 [1, 4, 5]))))
     (.cond (.t 5)
       ((.seq (.ops F12o4 [2])
        (.ret)))
       ((.seq ((.seq (.ops F12o5 [1, 4, 8])
        (.cond (.t 8)
          (.skip)
          (.ops F12o6 [1, 8]))))
        (.cond (.t 8)
          ((.seq (.ops F12o7 [2])
           (.ret)))
          (.skip))))))))))
   ((.seq (.ops F12o8 [2])
    (.ret))))))
def F12 : AFn := ⟨21, [.tmp 2], F12c⟩
theorem F12_ok : cFn Tryd.prog [1] 12 = some F12 := by kernel_rfl

/- manifold/manifoldlaw23.known -/
def F14o0 : List AOper := [
  ⟨(some 0), .t (.mv (.c (.bool false))), none⟩]
def F14o1 : List AOper := [
  ⟨(some 3), .call (.c (.clo 48 [] [])) [(.c (.str [97]))], none⟩,
  ⟨(some 4), .m (.bslice false 32 11 1 [(.t 3)]), none⟩,
  ⟨(some 5), .call (.c (.clo 48 [] [])) [(.c (.str [98]))], none⟩,
  ⟨(some 6), .m (.bslice false 32 11 1 [(.t 5)]), none⟩,
  ⟨(some 7), .m (.bslice false 22 1 2 [(.t 4), (.t 6)]), none⟩,
  ⟨(some 8), .call (.c (.clo 47 [] [])) [(.t 7)], none⟩,
  ⟨(some 9), .m (.bslice false 32 11 1 [(.t 8)]), none⟩,
  ⟨(some 10), .t (.build [(.str []), (.str []), .nils] [(0, 1, (.c (.str [114]))), (2, 1, (.t 9))]), none⟩,
  ⟨(some 11), .m (.bslice false 56 3 1 [(.t 10)]), none⟩,
  ⟨(some 12), .t (.build [(.int .i64 0), .nils, .nils, .nils, .nils] [(4, 1, (.t 11))]), none⟩,
  ⟨(some 1), .m (.alloc 44 [(.int .i64 0), .nils, .nils, .nils, .nils]), none⟩,
  ⟨none, .m (.store 5 (.t 1) (.t 12)), none⟩]
def F14o2 : List AOper := [
  ⟨(some 13), .m (.load true 5 (.t 1)), none⟩,
  ⟨(some 14), .call (.c (.clo 37 [] [])) [(.t 13)], none⟩,
  ⟨(some 2), .t (.mv (.t 14)), none⟩]
def F14o3 : List AOper := [
  ⟨(some 15), .t (.mv (.t 2)), none⟩,
  ⟨(some 16), .t (.len false (.t 15)), none⟩,
  ⟨(some 17), .t (.bin .eql (.t 16) (.c (.int .i64 3))), none⟩,
  ⟨(some 18), .t (.mv (.t 17)), none⟩,
  ⟨(some 19), .t (.mv (.t 2)), (some (18, true))⟩,
  ⟨(some 20), .t (.iaddr 13 (.t 19) (.c (.int .i64 2))), (some (18, true))⟩,
  ⟨(some 21), .t (.faddr 1 (.t 20)), (some (18, true))⟩,
  ⟨(some 22), .m (.load false 1 (.t 21)), (some (18, true))⟩,
  ⟨(some 23), .m (.bslice false 3 1 3 [(.c (.int .i64 0)), (.c (.int .i64 1)), (.c (.int .i64 0))]), (some (18, true))⟩,
  ⟨(some 24), .call (.c (.clo 40 [] [])) [(.t 22), (.t 23)], (some (18, true))⟩,
  ⟨(some 25), .t (.pick (.t 18) (.t 24) (.c (.bool false))), none⟩,
  ⟨(some 26), .t (.mv (.t 25)), none⟩,
  ⟨(some 27), .t (.mv (.t 2)), (some (26, true))⟩,
  ⟨(some 28), .t (.iaddr 13 (.t 27) (.c (.int .i64 2))), (some (26, true))⟩,
  ⟨(some 29), .t (.faddr 1 (.t 28)), (some (26, true))⟩,
  ⟨(some 30), .m (.load false 1 (.t 29)), (some (26, true))⟩,
  ⟨(some 31), .call (.c (.clo 17 [] [])) [(.c (.int .i64 0)), (.t 30)], (some (26, true))⟩,
  ⟨(some 32), .t (.bin .eql (.t 31) (.c (.str [115, 48, 95, 48, 95, 49, 95, 48]))), (some (26, true))⟩,
  ⟨(some 33), .t (.pick (.t 26) (.t 32) (.c (.bool false))), none⟩,
  ⟨(some 34), .t (.mv (.t 33)), none⟩,
  ⟨(some 35), .t (.faddr 4 (.t 1)), (some (34, true))⟩,
  ⟨(some 36), .m (.load false 1 (.t 35)), (some (34, true))⟩,
  ⟨(some 37), .t (.iaddr 3 (.t 36) (.c (.int .i64 0))), (some (34, true))⟩,
  ⟨(some 38), .t (.faddr 2 (.t 37)), (some (34, true))⟩,
  ⟨(some 39), .m (.load false 1 (.t 38)), (some (34, true))⟩,
  ⟨(some 40), .call (.c (.clo 15 [] [])) [(.t 39)], (some (34, true))⟩,
  ⟨(some 41), .t (.pick (.t 34) (.t 40) (.c (.bool false))), none⟩,
  ⟨(some 42), .t (.mv (.t 41)), none⟩,
  ⟨(some 43), .call (.c (.clo 48 [] [])) [(.c (.str [97]))], (some (42, true))⟩,
  ⟨(some 44), .m (.bslice false 32 11 1 [(.t 43)]), (some (42, true))⟩,
  ⟨(some 45), .m (.bslice false 22 1 2 [(.t 44), (.c .nils)]), (some (42, true))⟩,
  ⟨(some 46), .call (.c (.clo 47 [] [])) [(.t 45)], (some (42, true))⟩,
  ⟨(some 47), .call (.c (.clo 12 [] [])) [(.t 46)], (some (42, true))⟩,
  ⟨(some 48), .t (.not (.t 47)), (some (42, true))⟩,
  ⟨(some 49), .t (.pick (.t 42) (.t 48) (.c (.bool false))), none⟩,
  ⟨(some 0), .t (.mv (.t 49)), none⟩]
def F14c : ACode :=
  (.seq (.ops F14o0 [])
  ((.seq (.ops F14o1 [1])
   ((.seq (.ops F14o2 [1, 2])
    ((.seq (.ops F14o3 [0])
     (.ret))))))))
def F14 : AFn := ⟨50, [.tmp 0], F14c⟩
theorem F14_ok : cFn Tryd.prog [] 14 = some F14 := by kernel_rfl

/- manifold/resolve.Finished -/
def F15o0 : List AOper := [
  ⟨(some 2), .t (.mv (.c (.bool false))), none⟩]
def F15o1 : List AOper := [
  ⟨(some 3), .t (.mv (.t 0)), none⟩,
  ⟨(some 4), .t (.len false (.t 3)), none⟩,
  ⟨(some 5), .t (.bin .gtr (.t 4) (.c (.int .i64 0))), none⟩,
  ⟨(some 6), .t (.mv (.t 5)), none⟩,
  ⟨(some 7), .t (.mv (.t 0)), (some (6, true))⟩,
  ⟨(some 8), .t (.mv (.t 0)), (some (6, true))⟩,
  ⟨(some 9), .t (.len false (.t 8)), (some (6, true))⟩,
  ⟨(some 10), .t (.bin .sub (.t 9) (.c (.int .i64 1))), (some (6, true))⟩,
  ⟨(some 11), .t (.iaddr 11 (.t 7) (.t 10)), (some (6, true))⟩,
  ⟨(some 12), .m (.load true 11 (.t 11)), (some (6, true))⟩,
  ⟨(some 13), .call (.c (.clo 12 [] [])) [(.t 12)], (some (6, true))⟩,
  ⟨(some 14), .t (.pick (.t 6) (.t 13) (.c (.bool false))), none⟩,
  ⟨(some 2), .t (.mv (.t 14)), none⟩]
def F15c : ACode :=
  (.seq (.ops F15o0 [0])
  ((.seq (.ops F15o1 [2])
   (.ret))))
def F15 : AFn := ⟨15, [.tmp 2], F15c⟩
theorem F15_ok : cFn Tryd.prog [] 15 = some F15 := by kernel_rfl

/- manifold/resolve.AutoName -/
def F17o0 : List AOper := [
  ⟨(some 4), .t (.mv (.c (.str []))), none⟩]
def F17o1 : List AOper := [
  ⟨(some 5), .t (.mv (.t 0)), none⟩,
  ⟨(some 6), .m (.bslice false 3 1 1 [(.t 5)]), none⟩,
  ⟨(some 7), .t (.mv (.t 1)), none⟩,
  ⟨(some 8), .m (.append false 3 1 8 (.t 6) (.t 7)), none⟩,
  ⟨(some 9), .call (.c (.clo 49 [] [])) [(.t 8), (.c (.str [95]))], none⟩,
  ⟨(some 10), .t (.bin .add (.c (.str [115])) (.t 9)), none⟩,
  ⟨(some 4), .t (.mv (.t 10)), none⟩]
def F17c : ACode :=
  (.seq (.ops F17o0 [0, 1])
  ((.seq (.ops F17o1 [4])
   (.ret))))
def F17 : AFn := ⟨11, [.tmp 4], F17c⟩
theorem F17_ok : cFn Tryd.prog [] 17 = some F17 := by kernel_rfl

/- manifold/manifoldlaw23.Short -/
def F21o0 : List AOper := [
  ⟨(some 1), .m (.cbox 44 (.t 0)), none⟩,
  ⟨(some 2), .m (.alloc 44 [(.int .i64 0), .nils, .nils, .nils, .nils]), none⟩]
def F21o1 : List AOper := [
  ⟨(some 12), .t (.faddr 0 (.t 1)), none⟩,
  ⟨(some 13), .m (.load false 1 (.t 12)), none⟩,
  ⟨(some 14), .t (.build [(.int .i64 0), .nils, .nils, .nils, .nils] [(0, 1, (.t 13))]), none⟩,
  ⟨(some 3), .m (.alloc 44 [(.int .i64 0), .nils, .nils, .nils, .nils]), none⟩,
  ⟨none, .m (.store 5 (.t 3) (.t 14)), none⟩]
def F21o2 : List AOper := [
  ⟨(some 4), .t (.mv (.c (.int .i64 0))), none⟩]
def F21o3 : List AOper := [
  ⟨(some 15), .t (.mv (.t 4)), none⟩,
  ⟨(some 16), .t (.faddr 1 (.t 1)), none⟩,
  ⟨(some 17), .m (.load false 1 (.t 16)), none⟩,
  ⟨(some 18), .t (.len false (.t 17)), none⟩,
  ⟨(some 19), .t (.bin .lss (.t 15) (.t 18)), none⟩,
  ⟨(some 20), .t (.mv (.t 19)), none⟩,
  ⟨(some 21), .t (.mv (.t 4)), (some (20, true))⟩,
  ⟨(some 22), .t (.bin .lss (.t 21) (.c (.int .i64 6))), (some (20, true))⟩,
  ⟨(some 23), .t (.pick (.t 20) (.t 22) (.c (.bool false))), none⟩]
def F21o4 : List AOper := [
  ⟨(some 26), .t (.faddr 1 (.t 1)), none⟩,
  ⟨(some 27), .m (.load false 1 (.t 26)), none⟩,
  ⟨(some 28), .t (.mv (.t 4)), none⟩,
  ⟨(some 29), .t (.iaddr 9 (.t 27) (.t 28)), none⟩,
  ⟨(some 30), .m (.load true 9 (.t 29)), none⟩,
  ⟨(some 5), .m (.alloc 100 [(.str []), (.int .i64 0), (.int .i64 0), (.int .i64 0), (.int .i64 0), (.int .i64 0), .nils, .nils, .nils]), none⟩,
  ⟨none, .m (.store 9 (.t 5) (.t 30)), none⟩]
def F21o5 : List AOper := [
  ⟨(some 31), .t (.faddr 1 (.t 3)), none⟩,
  ⟨(some 32), .m (.load false 1 (.t 31)), none⟩,
  ⟨(some 33), .t (.faddr 0 (.t 5)), none⟩,
  ⟨(some 34), .m (.load false 1 (.t 33)), none⟩,
  ⟨(some 35), .call (.c (.clo 22 [] [])) [(.t 34)], none⟩,
  ⟨(some 36), .t (.faddr 1 (.t 5)), none⟩,
  ⟨(some 37), .m (.load false 1 (.t 36)), none⟩,
  ⟨(some 38), .t (.faddr 2 (.t 5)), none⟩,
  ⟨(some 39), .m (.load true 7 (.t 38)), none⟩,
  ⟨(some 40), .call (.c (.clo 51 [] [])) [(.t 39), (.c (.int .i64 4))], none⟩,
  ⟨(some 41), .t (.build [(.str []), (.int .i64 0), (.int .i64 0), (.int .i64 0), (.int .i64 0), (.int .i64 0), .nils, .nils, .nils] [(0, 1, (.t 35)), (1, 1, (.t 37)), (2, 7, (.t 40))]), none⟩,
  ⟨(some 42), .m (.bslice false 100 9 1 [(.t 41)]), none⟩]
def F21p5 : List AOper := [
  ⟨(some 43), .m (.append false 100 9 128 (.t 32) (.t 42)), none⟩,
  ⟨(some 44), .t (.faddr 1 (.t 3)), none⟩,
  ⟨none, .m (.store 1 (.t 44) (.t 43)), none⟩]
def F21A5 : List (List Nat) := [[], [0], [], [2], [3, 2], [], [5], [], [7], [8, 4, 7, 3, 2], [6, 9, 5, 8, 4, 7, 3, 2], [10, 6, 9, 5, 8, 4, 7, 3, 2], [1, 11, 0, 10, 6, 9, 5, 8, 4, 7, 3, 2], [12, 1, 11, 0, 10, 6, 9, 5, 8, 4, 7, 3, 2], [13, 12, 1, 11, 0, 10, 6, 9, 5, 8, 4, 7, 3, 2]]
def F21o6 : List AOper := [
  ⟨(some 24), .t (.mv (.t 4)), none⟩,
  ⟨(some 25), .t (.bin .add (.t 24) (.c (.int .i64 1))), none⟩,
  ⟨(some 4), .t (.mv (.t 25)), none⟩]
def F21b7 : ACode :=
  (.seq ((.seq (.ops F21o3 [1, 2, 3, 4, 23])
  (.cond (.t 23)
    (.skip)
    (.exit 0))))
  ((.seq (.block 1 ((.seq (.ops F21o4 [1, 2, 3, 4, 5])
    (.draw F21A5 F21o5 F21p5 [1, 2, 3, 4]))))
   (.ops F21o6 [1, 2, 3, 4]))))
def F21o8 : List AOper := [
  ⟨(some 6), .t (.mv (.c (.int .i64 0))), none⟩]
def F21o9 : List AOper := [
  ⟨(some 45), .t (.mv (.t 6)), none⟩,
  ⟨(some 46), .t (.faddr 2 (.t 1)), none⟩,
  ⟨(some 47), .m (.load false 1 (.t 46)), none⟩,
  ⟨(some 48), .t (.len false (.t 47)), none⟩,
  ⟨(some 49), .t (.bin .lss (.t 45) (.t 48)), none⟩,
  ⟨(some 50), .t (.mv (.t 49)), none⟩,
  ⟨(some 51), .t (.mv (.t 6)), (some (50, true))⟩,
  ⟨(some 52), .t (.bin .lss (.t 51) (.c (.int .i64 6))), (some (50, true))⟩,
  ⟨(some 53), .t (.pick (.t 50) (.t 52) (.c (.bool false))), none⟩]
def F21o10 : List AOper := [
  ⟨(some 56), .t (.faddr 2 (.t 1)), none⟩,
  ⟨(some 57), .m (.load false 1 (.t 56)), none⟩,
  ⟨(some 58), .t (.mv (.t 6)), none⟩,
  ⟨(some 59), .t (.iaddr 7 (.t 57) (.t 58)), none⟩,
  ⟨(some 60), .m (.load true 7 (.t 59)), none⟩,
  ⟨(some 7), .m (.alloc 52 [(.str []), (.int .i64 0), (.str []), (.int .i64 0), (.int .i64 0), (.int .i64 0), .nils]), none⟩,
  ⟨none, .m (.store 7 (.t 7) (.t 60)), none⟩]
def F21o11 : List AOper := [
  ⟨(some 61), .t (.faddr 0 (.t 7)), none⟩,
  ⟨(some 62), .m (.load false 1 (.t 61)), none⟩,
  ⟨(some 63), .call (.c (.clo 22 [] [])) [(.t 62)], none⟩,
  ⟨(some 64), .t (.faddr 2 (.t 7)), none⟩,
  ⟨(some 65), .m (.load false 1 (.t 64)), none⟩,
  ⟨(some 66), .call (.c (.clo 22 [] [])) [(.t 65)], none⟩,
  ⟨(some 67), .t (.faddr 4 (.t 7)), none⟩,
  ⟨(some 68), .t (.faddr 2 (.t 67)), none⟩,
  ⟨(some 69), .m (.load false 1 (.t 68)), none⟩,
  ⟨(some 70), .t (.faddr 4 (.t 7)), none⟩,
  ⟨(some 71), .t (.faddr 2 (.t 70)), none⟩,
  ⟨(some 72), .m (.load false 1 (.t 71)), none⟩,
  ⟨(some 73), .t (.len false (.t 72)), none⟩,
  ⟨(some 74), .t (.imin (.t 73) (.c (.int .i64 8))), none⟩,
  ⟨(some 75), .t (.sliceL 1 (.t 69) none (some (.t 74))), none⟩,
  ⟨(some 76), .t (.faddr 0 (.t 7)), none⟩,
  ⟨none, .m (.store 1 (.t 76) (.t 63)), none⟩,
  ⟨(some 77), .t (.faddr 2 (.t 7)), none⟩,
  ⟨none, .m (.store 1 (.t 77) (.t 66)), none⟩]
def F21p11 : List AOper := [
  ⟨(some 78), .t (.faddr 4 (.t 7)), none⟩,
  ⟨(some 79), .t (.faddr 2 (.t 78)), none⟩,
  ⟨none, .m (.store 1 (.t 79) (.t 75)), none⟩]
def F21A11 : List (List Nat) := [[], [0], [1, 0], [], [3], [4, 2, 3, 1, 0], [], [6], [7, 6], [], [9], [10, 9], [11, 10, 9], [12, 11, 10, 9], [8, 13, 7, 6, 12, 11, 10, 9], [2, 4, 8, 11, 1, 0, 3, 7, 6, 10, 9], [15, 5, 8, 11, 4, 2, 1, 0, 3, 7, 6, 10, 9], [16, 15, 5, 8, 11, 4, 2, 1, 0, 3, 7, 6, 10, 9], [17, 16, 15, 5, 8, 11, 4, 2, 1, 0, 3, 7, 6, 10, 9], [14, 18, 13, 12, 17, 16, 15, 5, 8, 11, 4, 2, 1, 0, 3, 7, 6, 10, 9], [19, 14, 18, 13, 12, 17, 16, 15, 5, 8, 11, 4, 2, 1, 0, 3, 7, 6, 10, 9], [20, 19, 14, 18, 13, 12, 17, 16, 15, 5, 8, 11, 4, 2, 1, 0, 3, 7, 6, 10, 9]]
def F21o12 : List AOper := [
  ⟨(some 80), .t (.faddr 2 (.t 3)), none⟩,
  ⟨(some 81), .m (.load false 1 (.t 80)), none⟩,
  ⟨(some 82), .m (.load true 7 (.t 7)), none⟩,
  ⟨(some 83), .m (.bslice false 52 7 1 [(.t 82)]), none⟩,
  ⟨(some 84), .m (.append false 52 7 88 (.t 81) (.t 83)), none⟩,
  ⟨(some 85), .t (.faddr 2 (.t 3)), none⟩,
  ⟨none, .m (.store 1 (.t 85) (.t 84)), none⟩]
def F21o13 : List AOper := [
  ⟨(some 54), .t (.mv (.t 6)), none⟩,
  ⟨(some 55), .t (.bin .add (.t 54) (.c (.int .i64 1))), none⟩,
  ⟨(some 6), .t (.mv (.t 55)), none⟩]
def F21b14 : ACode :=
  (.seq ((.seq (.ops F21o9 [1, 2, 3, 6, 53])
  (.cond (.t 53)
    (.skip)
    (.exit 2))))
  ((.seq (.block 3 ((.seq (.ops F21o10 [1, 2, 3, 6, 7])
    ((.seq (.draw F21A11 F21o11 F21p11 [1, 2, 3, 6, 7])
     (.ops F21o12 [1, 2, 3, 6]))))))
   (.ops F21o13 [1, 2, 3, 6]))))
def F21o15 : List AOper := [
  ⟨(some 8), .t (.mv (.c (.int .i64 0))), none⟩]
def F21o16 : List AOper := [
  ⟨(some 86), .t (.mv (.t 8)), none⟩,
  ⟨(some 87), .t (.faddr 3 (.t 1)), none⟩,
  ⟨(some 88), .m (.load false 1 (.t 87)), none⟩,
  ⟨(some 89), .t (.len false (.t 88)), none⟩,
  ⟨(some 90), .t (.bin .lss (.t 86) (.t 89)), none⟩,
  ⟨(some 91), .t (.mv (.t 90)), none⟩,
  ⟨(some 92), .t (.mv (.t 8)), (some (91, true))⟩,
  ⟨(some 93), .t (.bin .lss (.t 92) (.c (.int .i64 6))), (some (91, true))⟩,
  ⟨(some 94), .t (.pick (.t 91) (.t 93) (.c (.bool false))), none⟩]
def F21o17 : List AOper := [
  ⟨(some 97), .t (.faddr 3 (.t 1)), none⟩,
  ⟨(some 98), .m (.load false 1 (.t 97)), none⟩,
  ⟨(some 99), .t (.mv (.t 8)), none⟩,
  ⟨(some 100), .t (.iaddr 4 (.t 98) (.t 99)), none⟩,
  ⟨(some 101), .m (.load true 4 (.t 100)), none⟩,
  ⟨(some 9), .m (.alloc 54 [(.str []), (.str []), (.str []), (.bool false)]), none⟩,
  ⟨none, .m (.store 4 (.t 9) (.t 101)), none⟩]
def F21o18 : List AOper := [
  ⟨(some 102), .t (.faddr 0 (.t 9)), none⟩,
  ⟨(some 103), .m (.load false 1 (.t 102)), none⟩,
  ⟨(some 104), .call (.c (.clo 22 [] [])) [(.t 103)], none⟩,
  ⟨(some 105), .t (.faddr 1 (.t 9)), none⟩,
  ⟨(some 106), .m (.load false 1 (.t 105)), none⟩,
  ⟨(some 107), .call (.c (.clo 22 [] [])) [(.t 106)], none⟩,
  ⟨(some 108), .t (.faddr 2 (.t 9)), none⟩,
  ⟨(some 109), .m (.load false 1 (.t 108)), none⟩,
  ⟨(some 110), .call (.c (.clo 22 [] [])) [(.t 109)], none⟩,
  ⟨(some 111), .t (.faddr 0 (.t 9)), none⟩]
def F21p18 : List AOper := [
  ⟨none, .m (.store 1 (.t 111) (.t 104)), none⟩,
  ⟨(some 112), .t (.faddr 1 (.t 9)), none⟩,
  ⟨none, .m (.store 1 (.t 112) (.t 107)), none⟩,
  ⟨(some 113), .t (.faddr 2 (.t 9)), none⟩,
  ⟨none, .m (.store 1 (.t 113) (.t 110)), none⟩]
def F21A18 : List (List Nat) := [[], [0], [1, 0], [], [3], [4, 2, 3, 1, 0], [], [6], [7, 5, 6, 4, 2, 3, 1, 0], [2, 4, 7, 1, 0, 3, 6], [9, 8, 7, 5, 4, 2, 1, 0, 3, 6], [10, 9, 8, 7, 5, 4, 2, 1, 0, 3, 6], [11, 10, 9, 8, 7, 5, 4, 2, 1, 0, 3, 6], [12, 11, 10, 9, 8, 7, 5, 4, 2, 1, 0, 3, 6], [13, 12, 11, 10, 9, 8, 7, 5, 4, 2, 1, 0, 3, 6]]
def F21o19 : List AOper := [
  ⟨(some 114), .t (.faddr 3 (.t 3)), none⟩,
  ⟨(some 115), .m (.load false 1 (.t 114)), none⟩,
  ⟨(some 116), .m (.load true 4 (.t 9)), none⟩,
  ⟨(some 117), .m (.bslice false 54 4 1 [(.t 116)]), none⟩,
  ⟨(some 118), .m (.append false 54 4 56 (.t 115) (.t 117)), none⟩,
  ⟨(some 119), .t (.faddr 3 (.t 3)), none⟩,
  ⟨none, .m (.store 1 (.t 119) (.t 118)), none⟩]
def F21o20 : List AOper := [
  ⟨(some 95), .t (.mv (.t 8)), none⟩,
  ⟨(some 96), .t (.bin .add (.t 95) (.c (.int .i64 1))), none⟩,
  ⟨(some 8), .t (.mv (.t 96)), none⟩]
def F21b21 : ACode :=
  (.seq ((.seq (.ops F21o16 [1, 2, 3, 8, 94])
  (.cond (.t 94)
    (.skip)
    (.exit 4))))
  ((.seq (.block 5 ((.seq (.ops F21o17 [1, 2, 3, 8, 9])
    ((.seq (.draw F21A18 F21o18 F21p18 [1, 2, 3, 8, 9])
     (.ops F21o19 [1, 2, 3, 8]))))))
   (.ops F21o20 [1, 2, 3, 8]))))
def F21o22 : List AOper := [
  ⟨(some 10), .t (.mv (.c (.int .i64 0))), none⟩]
def F21o23 : List AOper := [
  ⟨(some 120), .t (.mv (.t 10)), none⟩,
  ⟨(some 121), .t (.faddr 4 (.t 1)), none⟩,
  ⟨(some 122), .m (.load false 1 (.t 121)), none⟩,
  ⟨(some 123), .t (.len false (.t 122)), none⟩,
  ⟨(some 124), .t (.bin .lss (.t 120) (.t 123)), none⟩,
  ⟨(some 125), .t (.mv (.t 124)), none⟩,
  ⟨(some 126), .t (.mv (.t 10)), (some (125, true))⟩,
  ⟨(some 127), .t (.bin .lss (.t 126) (.c (.int .i64 6))), (some (125, true))⟩,
  ⟨(some 128), .t (.pick (.t 125) (.t 127) (.c (.bool false))), none⟩]
def F21o24 : List AOper := [
  ⟨(some 131), .t (.faddr 4 (.t 1)), none⟩,
  ⟨(some 132), .m (.load false 1 (.t 131)), none⟩,
  ⟨(some 133), .t (.mv (.t 10)), none⟩,
  ⟨(some 134), .t (.iaddr 3 (.t 132) (.t 133)), none⟩,
  ⟨(some 135), .m (.load true 3 (.t 134)), none⟩,
  ⟨(some 11), .m (.alloc 56 [(.str []), (.str []), .nils]), none⟩,
  ⟨none, .m (.store 3 (.t 11) (.t 135)), none⟩]
def F21o25 : List AOper := [
  ⟨(some 136), .t (.faddr 4 (.t 3)), none⟩,
  ⟨(some 137), .m (.load false 1 (.t 136)), none⟩,
  ⟨(some 138), .t (.faddr 0 (.t 11)), none⟩,
  ⟨(some 139), .m (.load false 1 (.t 138)), none⟩,
  ⟨(some 140), .call (.c (.clo 22 [] [])) [(.t 139)], none⟩,
  ⟨(some 141), .t (.faddr 1 (.t 11)), none⟩,
  ⟨(some 142), .m (.load false 1 (.t 141)), none⟩,
  ⟨(some 143), .call (.c (.clo 22 [] [])) [(.t 142)], none⟩,
  ⟨(some 144), .t (.faddr 2 (.t 11)), none⟩,
  ⟨(some 145), .m (.load false 1 (.t 144)), none⟩,
  ⟨(some 146), .call (.c (.clo 11 [] [])) [(.t 145), (.c (.int .i64 4))], none⟩,
  ⟨(some 147), .t (.build [(.str []), (.str []), .nils] [(0, 1, (.t 140)), (1, 1, (.t 143)), (2, 1, (.t 146))]), none⟩,
  ⟨(some 148), .m (.bslice false 56 3 1 [(.t 147)]), none⟩]
def F21p25 : List AOper := [
  ⟨(some 149), .m (.append false 56 3 56 (.t 137) (.t 148)), none⟩,
  ⟨(some 150), .t (.faddr 4 (.t 3)), none⟩,
  ⟨none, .m (.store 1 (.t 150) (.t 149)), none⟩]
def F21A25 : List (List Nat) := [[], [0], [], [2], [3, 2], [], [5], [6, 4, 5, 3, 2], [], [8], [9, 7, 8, 6, 4, 5, 3, 2], [10, 9, 7, 8, 6, 4, 5, 3, 2], [11, 10, 9, 7, 8, 6, 4, 5, 3, 2], [1, 12, 0, 11, 10, 9, 7, 8, 6, 4, 5, 3, 2], [13, 1, 12, 0, 11, 10, 9, 7, 8, 6, 4, 5, 3, 2], [14, 13, 1, 12, 0, 11, 10, 9, 7, 8, 6, 4, 5, 3, 2]]
def F21o26 : List AOper := [
  ⟨(some 129), .t (.mv (.t 10)), none⟩,
  ⟨(some 130), .t (.bin .add (.t 129) (.c (.int .i64 1))), none⟩,
  ⟨(some 10), .t (.mv (.t 130)), none⟩]
def F21b27 : ACode :=
  (.seq ((.seq (.ops F21o23 [1, 2, 3, 10, 128])
  (.cond (.t 128)
    (.skip)
    (.exit 6))))
  ((.seq (.block 7 ((.seq (.ops F21o24 [1, 2, 3, 10, 11])
    (.draw F21A25 F21o25 F21p25 [1, 2, 3, 10]))))
   (.ops F21o26 [1, 2, 3, 10]))))
def F21o28 : List AOper := [
  ⟨(some 151), .m (.load true 5 (.t 3)), none⟩,
  ⟨none, .m (.store 5 (.t 2) (.t 151)), none⟩]
def F21c : ACode :=
  (.seq (.ops F21o0 [1, 2])
  ((.seq (.ops F21o1 [1, 2, 3])
   ((.seq ((.seq (.ops F21o2 [1, 2, 3, 4])
    (.block 0 (.loop [1, 2, 3, 4] F21b7))))
    ((.seq ((.seq (.ops F21o8 [1, 2, 3, 6])
     (.block 2 (.loop [1, 2, 3, 6] F21b14))))
     ((.seq ((.seq (.ops F21o15 [1, 2, 3, 8])
      (.block 4 (.loop [1, 2, 3, 8] F21b21))))
      ((.seq ((.seq (.ops F21o22 [1, 2, 3, 10])
       (.block 6 (.loop [1, 2, 3, 10] F21b27))))
       ((.seq (.ops F21o28 [2])
        (.ret))))))))))))))
def F21 : AFn := ⟨152, [.cell 2 true 5], F21c⟩
theorem F21_ok : cFn Tryd.prog [1] 21 = some F21 := by kernel_rfl

/- manifold/manifoldlaw23.cut -/
def F22o0 : List AOper := [
  ⟨(some 2), .t (.mv (.c (.str []))), none⟩]
def F22o1 : List AOper := [
  ⟨(some 3), .t (.mv (.t 0)), none⟩,
  ⟨(some 4), .t (.mv (.t 0)), none⟩,
  ⟨(some 5), .t (.len true (.t 4)), none⟩,
  ⟨(some 6), .t (.imin (.t 5) (.c (.int .i64 70))), none⟩,
  ⟨(some 7), .t (.sliceS (.t 3) none (some (.t 6))), none⟩,
  ⟨(some 2), .t (.mv (.t 7)), none⟩]
def F22c : ACode :=
  (.seq (.ops F22o0 [0])
  ((.seq (.ops F22o1 [2])
   (.ret))))
def F22 : AFn := ⟨8, [.tmp 2], F22c⟩
theorem F22_ok : cFn Tryd.prog [] 22 = some F22 := by kernel_rfl

/- manifold/resolve.Endpoint -/
def F23o0 : List AOper := [
  ⟨(some 2), .m (.cbox 44 (.t 0)), none⟩,
  ⟨(some 3), .m (.cbox 9 (.t 1)), none⟩,
  ⟨(some 4), .t (.mv (.c (.int .i64 0))), none⟩,
  ⟨(some 5), .t (.mv (.c (.bool false))), none⟩]
def F23o1 : List AOper := [
  ⟨(some 6), .t (.faddr 2 (.t 2)), none⟩,
  ⟨(some 7), .m (.load false 1 (.t 6)), none⟩,
  ⟨(some 8), .t (.clo 53 [] [(.t 3)]), none⟩,
  ⟨(some 9), .call (.c (.clo 52 [] [])) [(.t 7), (.t 8)], none⟩,
  ⟨(some 10), .t (.ext (.t 9) 0), none⟩,
  ⟨(some 11), .t (.ext (.t 9) 1), none⟩,
  ⟨(some 4), .t (.mv (.t 10)), none⟩,
  ⟨(some 5), .t (.mv (.t 11)), none⟩]
def F23c : ACode :=
  (.seq (.ops F23o0 [2, 3])
  ((.seq (.ops F23o1 [4, 5])
   (.ret))))
def F23 : AFn := ⟨12, [.tmp 4, .tmp 5], F23c⟩
theorem F23_ok : cFn Tryd.prog [2, 3] 23 = some F23 := by kernel_rfl

/- manifold/resolve.Service -/
def F24o0 : List AOper := [
  ⟨(some 2), .m (.cbox 44 (.t 0)), none⟩,
  ⟨(some 3), .m (.cbox 9 (.t 1)), none⟩,
  ⟨(some 4), .t (.mv (.c (.int .i64 0))), none⟩,
  ⟨(some 5), .t (.mv (.c (.bool false))), none⟩]
def F24o1 : List AOper := [
  ⟨(some 6), .t (.faddr 3 (.t 2)), none⟩,
  ⟨(some 7), .m (.load false 1 (.t 6)), none⟩,
  ⟨(some 8), .t (.clo 55 [] [(.t 3)]), none⟩,
  ⟨(some 9), .call (.c (.clo 54 [] [])) [(.t 7), (.t 8)], none⟩,
  ⟨(some 10), .t (.ext (.t 9) 0), none⟩,
  ⟨(some 11), .t (.ext (.t 9) 1), none⟩,
  ⟨(some 4), .t (.mv (.t 10)), none⟩,
  ⟨(some 5), .t (.mv (.t 11)), none⟩]
def F24c : ACode :=
  (.seq (.ops F24o0 [2, 3])
  ((.seq (.ops F24o1 [4, 5])
   (.ret))))
def F24 : AFn := ⟨12, [.tmp 4, .tmp 5], F24c⟩
theorem F24_ok : cFn Tryd.prog [2, 3] 24 = some F24 := by kernel_rfl

/- manifold/resolve.Route -/
def F25o0 : List AOper := [
  ⟨(some 2), .m (.cbox 44 (.t 0)), none⟩,
  ⟨(some 3), .m (.cbox 9 (.t 1)), none⟩,
  ⟨(some 4), .t (.mv (.c (.int .i64 0))), none⟩,
  ⟨(some 5), .t (.mv (.c (.bool false))), none⟩]
def F25o1 : List AOper := [
  ⟨(some 6), .t (.faddr 4 (.t 2)), none⟩,
  ⟨(some 7), .m (.load false 1 (.t 6)), none⟩,
  ⟨(some 8), .t (.clo 57 [] [(.t 3)]), none⟩,
  ⟨(some 9), .call (.c (.clo 56 [] [])) [(.t 7), (.t 8)], none⟩,
  ⟨(some 10), .t (.ext (.t 9) 0), none⟩,
  ⟨(some 11), .t (.ext (.t 9) 1), none⟩,
  ⟨(some 4), .t (.mv (.t 10)), none⟩,
  ⟨(some 5), .t (.mv (.t 11)), none⟩]
def F25c : ACode :=
  (.seq (.ops F25o0 [2, 3])
  ((.seq (.ops F25o1 [4, 5])
   (.ret))))
def F25 : AFn := ⟨12, [.tmp 4, .tmp 5], F25c⟩
theorem F25_ok : cFn Tryd.prog [2, 3] 25 = some F25 := by kernel_rfl

/- manifold/resolve.Schema -/
def F26o0 : List AOper := [
  ⟨(some 3), .m (.cbox 44 (.t 0)), none⟩,
  ⟨(some 4), .m (.cbox 9 (.t 1)), none⟩,
  ⟨(some 5), .m (.cbox 3 (.t 2)), none⟩,
  ⟨(some 6), .t (.mv (.c (.int .i64 0))), none⟩,
  ⟨(some 7), .t (.mv (.c (.bool false))), none⟩]
def F26o1 : List AOper := [
  ⟨(some 8), .t (.faddr 1 (.t 3)), none⟩,
  ⟨(some 9), .m (.load false 1 (.t 8)), none⟩,
  ⟨(some 10), .t (.clo 59 [] [(.t 4), (.t 5)]), none⟩,
  ⟨(some 11), .call (.c (.clo 58 [] [])) [(.t 9), (.t 10)], none⟩,
  ⟨(some 12), .t (.ext (.t 11) 0), none⟩,
  ⟨(some 13), .t (.ext (.t 11) 1), none⟩,
  ⟨(some 6), .t (.mv (.t 12)), none⟩,
  ⟨(some 7), .t (.mv (.t 13)), none⟩]
def F26c : ACode :=
  (.seq (.ops F26o0 [3, 4, 5])
  ((.seq (.ops F26o1 [6, 7])
   (.ret))))
def F26 : AFn := ⟨14, [.tmp 6, .tmp 7], F26c⟩
theorem F26_ok : cFn Tryd.prog [3, 4, 5] 26 = some F26 := by kernel_rfl

/- manifold/resolve.Latest -/
def F27o0 : List AOper := [
  ⟨(some 2), .m (.cbox 44 (.t 0)), none⟩,
  ⟨(some 4), .t (.mv (.c (.int .i64 0))), none⟩,
  ⟨(some 5), .t (.mv (.c (.bool false))), none⟩]
def F27o1 : List AOper := [
  ⟨(some 6), .t (.mv (.c (.int .i64 0))), none⟩,
  ⟨(some 7), .t (.mv (.c (.bool false))), none⟩]
def F27o2 : List AOper := [
  ⟨(some 10), .t (.faddr 1 (.t 2)), none⟩,
  ⟨(some 11), .m (.load false 1 (.t 10)), none⟩,
  ⟨(some 12), .t (.len false (.t 11)), none⟩,
  ⟨(some 13), .t (.mv (.c (.int .i64 0))), none⟩]
def F27o3 : List AOper := [
  ⟨(some 14), .t (.bin .lss (.t 13) (.t 12)), none⟩]
def F27o4 : List AOper := [
  ⟨(some 15), .t (.mv (.t 13)), none⟩,
  ⟨(some 16), .t (.iaddr 9 (.t 11) (.t 13)), none⟩,
  ⟨(some 17), .m (.load true 9 (.t 16)), none⟩,
  ⟨(some 9), .m (.alloc 100 [(.str []), (.int .i64 0), (.int .i64 0), (.int .i64 0), (.int .i64 0), (.int .i64 0), .nils, .nils, .nils]), none⟩,
  ⟨(some 8), .t (.mv (.t 15)), none⟩,
  ⟨none, .m (.store 9 (.t 9) (.t 17)), none⟩]
def F27o5 : List AOper := [
  ⟨(some 18), .t (.faddr 0 (.t 9)), none⟩,
  ⟨(some 19), .m (.load false 1 (.t 18)), none⟩,
  ⟨(some 20), .t (.mv (.t 1)), none⟩,
  ⟨(some 21), .t (.bin .eql (.t 19) (.t 20)), none⟩,
  ⟨(some 22), .t (.mv (.t 21)), none⟩,
  ⟨(some 23), .t (.mv (.t 7)), (some (22, true))⟩,
  ⟨(some 24), .t (.not (.t 23)), (some (22, true))⟩,
  ⟨(some 25), .t (.mv (.t 24)), (some (22, true))⟩,
  ⟨(some 26), .t (.faddr 1 (.t 9)), (some (25, false))⟩,
  ⟨(some 27), .m (.load false 1 (.t 26)), (some (25, false))⟩,
  ⟨(some 28), .t (.faddr 1 (.t 2)), (some (25, false))⟩,
  ⟨(some 29), .m (.load false 1 (.t 28)), (some (25, false))⟩,
  ⟨(some 30), .t (.mv (.t 6)), (some (25, false))⟩,
  ⟨(some 31), .t (.iaddr 9 (.t 29) (.t 30)), (some (25, false))⟩,
  ⟨(some 32), .t (.faddr 1 (.t 31)), (some (25, false))⟩,
  ⟨(some 33), .m (.load false 1 (.t 32)), (some (25, false))⟩]
def F27p5 : List AOper := [
  ⟨(some 34), .t (.bin .gtr (.t 27) (.t 33)), (some (25, false))⟩,
  ⟨(some 35), .t (.pick (.t 25) (.c (.bool true)) (.t 34)), (some (22, true))⟩,
  ⟨(some 36), .t (.pick (.t 22) (.t 35) (.c (.bool false))), none⟩]
def F27A5 : List (List Nat) := [[], [0], [], [1, 2, 0], [3, 1, 2, 0], [4, 3, 1, 2, 0], [5, 4, 3, 1, 2, 0], [6, 5, 4, 3, 1, 2, 0], [7, 6, 5, 4, 3, 1, 2, 0], [8, 7, 6, 5, 4, 3, 1, 2, 0], [7, 6, 5, 4, 3, 1, 2, 0], [10, 7, 6, 5, 4, 3, 1, 2, 0], [7, 6, 5, 4, 3, 1, 2, 0], [11, 12, 10, 7, 6, 5, 4, 3, 1, 2, 0], [13, 11, 12, 10, 7, 6, 5, 4, 3, 1, 2, 0], [14, 13, 11, 12, 10, 7, 6, 5, 4, 3, 1, 2, 0], [9, 15, 8, 14, 13, 11, 12, 10, 7, 6, 5, 4, 3, 1, 2, 0], [16, 9, 15, 8, 14, 13, 11, 12, 10, 7, 6, 5, 4, 3, 1, 2, 0], [17, 16, 9, 15, 8, 14, 13, 11, 12, 10, 7, 6, 5, 4, 3, 1, 2, 0]]
def F27o6 : List AOper := [
  ⟨(some 37), .t (.mv (.t 8)), none⟩,
  ⟨(some 6), .t (.mv (.t 37)), none⟩,
  ⟨(some 7), .t (.mv (.c (.bool true))), none⟩]
def F27o7 : List AOper := [
  ⟨(some 38), .t (.bin .add (.t 13) (.c (.int .i64 1))), none⟩,
  ⟨(some 13), .t (.mv (.t 38)), none⟩]
def F27b8 : ACode :=
  (.seq (.ops F27o3 [1, 2, 6, 7, 11, 12, 13, 14])
  ((.seq (.cond (.t 14)
    (.skip)
    (.exit 0))
   ((.seq (.block 1 ((.seq (.ops F27o4 [1, 2, 6, 7, 8, 9, 11, 12, 13])
     ((.seq (.draw F27A5 F27o5 F27p5 [1, 2, 6, 7, 8, 11, 12, 13, 36])
      (.cond (.t 36)
        (.ops F27o6 [1, 2, 6, 7, 11, 12, 13])
        (.skip)))))))
    (.ops F27o7 [1, 2, 6, 7, 11, 12, 13]))))))
def F27o9 : List AOper := [
  ⟨(some 39), .t (.mv (.t 6)), none⟩,
  ⟨(some 40), .t (.mv (.t 7)), none⟩,
  ⟨(some 4), .t (.mv (.t 39)), none⟩,
  ⟨(some 5), .t (.mv (.t 40)), none⟩]
def F27c : ACode :=
  (.seq (.ops F27o0 [1, 2])
  ((.seq (.ops F27o1 [1, 2, 6, 7])
   ((.seq ((.seq (.ops F27o2 [1, 2, 6, 7, 11, 12, 13])
    (.block 0 (.loop [1, 2, 6, 7, 11, 12, 13] F27b8))))
    ((.seq (.ops F27o9 [4, 5])
     (.ret))))))))
def F27 : AFn := ⟨41, [.tmp 4, .tmp 5], F27c⟩
theorem F27_ok : cFn Tryd.prog [2] 27 = some F27 := by kernel_rfl

/- manifold/manifoldlaw23.versioned -/
def F28o0 : List AOper := [
  ⟨(some 3), .m (.cbox 44 (.t 0)), none⟩,
  ⟨(some 6), .t (.mv (.c (.int .i64 0))), none⟩]
def F28o1 : List AOper := [
  ⟨(some 7), .t (.mv (.c (.int .i64 0))), none⟩]
def F28o2 : List AOper := [
  ⟨(some 8), .t (.mv (.t 7)), none⟩,
  ⟨(some 9), .t (.faddr 1 (.t 3)), none⟩,
  ⟨(some 10), .m (.load false 1 (.t 9)), none⟩,
  ⟨(some 11), .t (.len false (.t 10)), none⟩,
  ⟨(some 12), .t (.bin .lss (.t 8) (.t 11)), none⟩]
def F28o3 : List AOper := [
  ⟨(some 15), .t (.faddr 1 (.t 3)), none⟩,
  ⟨(some 16), .m (.load false 1 (.t 15)), none⟩,
  ⟨(some 17), .t (.mv (.t 7)), none⟩,
  ⟨(some 18), .t (.iaddr 9 (.t 16) (.t 17)), none⟩,
  ⟨(some 19), .t (.faddr 0 (.t 18)), none⟩,
  ⟨(some 20), .m (.load false 1 (.t 19)), none⟩,
  ⟨(some 21), .t (.mv (.t 1)), none⟩,
  ⟨(some 22), .t (.bin .eql (.t 20) (.t 21)), none⟩,
  ⟨(some 23), .t (.mv (.t 22)), none⟩,
  ⟨(some 24), .t (.faddr 1 (.t 3)), (some (23, true))⟩,
  ⟨(some 25), .m (.load false 1 (.t 24)), (some (23, true))⟩,
  ⟨(some 26), .t (.mv (.t 7)), (some (23, true))⟩,
  ⟨(some 27), .t (.iaddr 9 (.t 25) (.t 26)), (some (23, true))⟩,
  ⟨(some 28), .t (.faddr 1 (.t 27)), (some (23, true))⟩,
  ⟨(some 29), .m (.load false 1 (.t 28)), (some (23, true))⟩,
  ⟨(some 30), .t (.mv (.t 2)), (some (23, true))⟩,
  ⟨(some 31), .t (.bin .eql (.t 29) (.t 30)), (some (23, true))⟩,
  ⟨(some 32), .t (.pick (.t 23) (.t 31) (.c (.bool false))), none⟩]
def F28o4 : List AOper := [
  ⟨(some 33), .t (.mv (.t 7)), none⟩,
  ⟨(some 6), .t (.mv (.t 33)), none⟩]
def F28o5 : List AOper := [
  ⟨(some 13), .t (.mv (.t 7)), none⟩,
  ⟨(some 14), .t (.bin .add (.t 13) (.c (.int .i64 1))), none⟩,
  ⟨(some 7), .t (.mv (.t 14)), none⟩]
def F28b6 : ACode :=
  (.seq ((.seq (.ops F28o2 [1, 2, 3, 7, 12])
  (.cond (.t 12)
    (.skip)
    (.exit 0))))
  ((.seq (.block 1 ((.seq (.ops F28o3 [1, 2, 3, 7, 32])
    (.cond (.t 32)
      ((.seq (.ops F28o4 [6])
       (.ret)))
      (.skip)))))
   (.ops F28o5 [1, 2, 3, 7]))))
def F28o7 : List AOper := [
  ⟨(some 6), .t (.mv (.c (.int .i64 (-1)))), none⟩]
def F28c : ACode :=
  (.seq (.ops F28o0 [1, 2, 3])
  ((.seq ((.seq (.ops F28o1 [1, 2, 3, 7])
   (.block 0 (.loop [1, 2, 3, 7] F28b6))))
   ((.seq (.ops F28o7 [6])
    (.ret))))))
def F28 : AFn := ⟨34, [.tmp 6], F28c⟩
theorem F28_ok : cFn Tryd.prog [3] 28 = some F28 := by kernel_rfl

/- manifold/manifoldlaw23.latest -/
def F29o0 : List AOper := [
  ⟨(some 2), .m (.cbox 44 (.t 0)), none⟩,
  ⟨(some 4), .t (.mv (.c (.int .i64 0))), none⟩]
def F29o1 : List AOper := [
  ⟨(some 5), .t (.mv (.c (.int .i64 (-1)))), none⟩]
def F29o2 : List AOper := [
  ⟨(some 6), .t (.mv (.c (.int .i64 0))), none⟩]
def F29o3 : List AOper := [
  ⟨(some 7), .t (.mv (.t 6)), none⟩,
  ⟨(some 8), .t (.faddr 1 (.t 2)), none⟩,
  ⟨(some 9), .m (.load false 1 (.t 8)), none⟩,
  ⟨(some 10), .t (.len false (.t 9)), none⟩,
  ⟨(some 11), .t (.bin .lss (.t 7) (.t 10)), none⟩]
def F29o4 : List AOper := [
  ⟨(some 14), .t (.faddr 1 (.t 2)), none⟩,
  ⟨(some 15), .m (.load false 1 (.t 14)), none⟩,
  ⟨(some 16), .t (.mv (.t 6)), none⟩,
  ⟨(some 17), .t (.iaddr 9 (.t 15) (.t 16)), none⟩,
  ⟨(some 18), .t (.faddr 0 (.t 17)), none⟩,
  ⟨(some 19), .m (.load false 1 (.t 18)), none⟩,
  ⟨(some 20), .t (.mv (.t 1)), none⟩,
  ⟨(some 21), .t (.bin .eql (.t 19) (.t 20)), none⟩,
  ⟨(some 22), .t (.mv (.t 21)), none⟩,
  ⟨(some 23), .t (.mv (.t 5)), (some (22, true))⟩,
  ⟨(some 24), .t (.bin .lss (.t 23) (.c (.int .i64 0))), (some (22, true))⟩,
  ⟨(some 25), .t (.mv (.t 24)), (some (22, true))⟩,
  ⟨(some 26), .t (.faddr 1 (.t 2)), (some (25, false))⟩,
  ⟨(some 27), .m (.load false 1 (.t 26)), (some (25, false))⟩,
  ⟨(some 28), .t (.mv (.t 6)), (some (25, false))⟩,
  ⟨(some 29), .t (.iaddr 9 (.t 27) (.t 28)), (some (25, false))⟩,
  ⟨(some 30), .t (.faddr 1 (.t 29)), (some (25, false))⟩,
  ⟨(some 31), .m (.load false 1 (.t 30)), (some (25, false))⟩,
  ⟨(some 32), .t (.faddr 1 (.t 2)), (some (25, false))⟩,
  ⟨(some 33), .m (.load false 1 (.t 32)), (some (25, false))⟩,
  ⟨(some 34), .t (.mv (.t 5)), (some (25, false))⟩,
  ⟨(some 35), .t (.iaddr 9 (.t 33) (.t 34)), (some (25, false))⟩,
  ⟨(some 36), .t (.faddr 1 (.t 35)), (some (25, false))⟩,
  ⟨(some 37), .m (.load false 1 (.t 36)), (some (25, false))⟩]
def F29p4 : List AOper := [
  ⟨(some 38), .t (.bin .gtr (.t 31) (.t 37)), (some (25, false))⟩,
  ⟨(some 39), .t (.pick (.t 25) (.c (.bool true)) (.t 38)), (some (22, true))⟩,
  ⟨(some 40), .t (.pick (.t 22) (.t 39) (.c (.bool false))), none⟩]
def F29A4 : List (List Nat) := [[], [0], [], [1, 2, 0], [3, 1, 2, 0], [4, 3, 1, 2, 0], [], [5, 6, 4, 3, 1, 2, 0], [7, 5, 6, 4, 3, 1, 2, 0], [8, 7, 5, 6, 4, 3, 1, 2, 0], [9, 8, 7, 5, 6, 4, 3, 1, 2, 0], [10, 9, 8, 7, 5, 6, 4, 3, 1, 2, 0], [11, 10, 9, 8, 7, 5, 6, 4, 3, 1, 2, 0], [12, 11, 10, 9, 8, 7, 5, 6, 4, 3, 1, 2, 0], [11, 10, 9, 8, 7, 5, 6, 4, 3, 1, 2, 0], [13, 14, 12, 11, 10, 9, 8, 7, 5, 6, 4, 3, 1, 2, 0], [15, 13, 14, 12, 11, 10, 9, 8, 7, 5, 6, 4, 3, 1, 2, 0], [16, 15, 13, 14, 12, 11, 10, 9, 8, 7, 5, 6, 4, 3, 1, 2, 0], [11, 10, 9, 8, 7, 5, 6, 4, 3, 1, 2, 0], [18, 11, 10, 9, 8, 7, 5, 6, 4, 3, 1, 2, 0], [11, 10, 9, 8, 7, 5, 6, 4, 3, 1, 2, 0], [19, 20, 18, 11, 10, 9, 8, 7, 5, 6, 4, 3, 1, 2, 0], [21, 19, 20, 18, 11, 10, 9, 8, 7, 5, 6, 4, 3, 1, 2, 0], [22, 21, 19, 20, 18, 11, 10, 9, 8, 7, 5, 6, 4, 3, 1, 2, 0], [17, 23, 16, 15, 13, 14, 12, 22, 21, 19, 20, 18, 11, 10, 9, 8, 7, 5, 6, 4, 3, 1, 2, 0], [24, 17, 23, 16, 15, 13, 14, 12, 22, 21, 19, 20, 18, 11, 10, 9, 8, 7, 5, 6, 4, 3, 1, 2, 0], [25, 24, 17, 23, 16, 15, 13, 14, 12, 22, 21, 19, 20, 18, 11, 10, 9, 8, 7, 5, 6, 4, 3, 1, 2, 0]]
def F29o5 : List AOper := [
  ⟨(some 41), .t (.mv (.t 6)), none⟩,
  ⟨(some 5), .t (.mv (.t 41)), none⟩]
def F29o6 : List AOper := [
  ⟨(some 12), .t (.mv (.t 6)), none⟩,
  ⟨(some 13), .t (.bin .add (.t 12) (.c (.int .i64 1))), none⟩,
  ⟨(some 6), .t (.mv (.t 13)), none⟩]
def F29b7 : ACode :=
  (.seq ((.seq (.ops F29o3 [1, 2, 5, 6, 11])
  (.cond (.t 11)
    (.skip)
    (.exit 0))))
  ((.seq (.block 1 ((.seq (.draw F29A4 F29o4 F29p4 [1, 2, 5, 6, 40])
    (.cond (.t 40)
      (.ops F29o5 [1, 2, 5, 6])
      (.skip)))))
   (.ops F29o6 [1, 2, 5, 6]))))
def F29o8 : List AOper := [
  ⟨(some 42), .t (.mv (.t 5)), none⟩,
  ⟨(some 4), .t (.mv (.t 42)), none⟩]
def F29c : ACode :=
  (.seq (.ops F29o0 [1, 2])
  ((.seq (.ops F29o1 [1, 2, 5])
   ((.seq ((.seq (.ops F29o2 [1, 2, 5, 6])
    (.block 0 (.loop [1, 2, 5, 6] F29b7))))
    ((.seq (.ops F29o8 [4])
     (.ret))))))))
def F29 : AFn := ⟨43, [.tmp 4], F29c⟩
theorem F29_ok : cFn Tryd.prog [2] 29 = some F29 := by kernel_rfl

/- manifold/resolve.Walk -/
def F37o0 : List AOper := [
  ⟨(some 1), .m (.cbox 44 (.t 0)), none⟩,
  ⟨(some 2), .t (.mv (.c .nils)), none⟩]
def F37o1 : List AOper := [
  ⟨(some 3), .t (.mv (.c .nils)), none⟩]
def F37o2 : List AOper := [
  ⟨(some 5), .t (.faddr 4 (.t 1)), none⟩,
  ⟨(some 6), .m (.load false 1 (.t 5)), none⟩,
  ⟨(some 7), .t (.len false (.t 6)), none⟩,
  ⟨(some 8), .t (.mv (.c (.int .i64 0))), none⟩]
def F37o3 : List AOper := [
  ⟨(some 9), .t (.bin .lss (.t 8) (.t 7)), none⟩]
def F37o4 : List AOper := [
  ⟨(some 10), .t (.mv (.t 8)), none⟩,
  ⟨(some 4), .t (.mv (.t 10)), none⟩]
def F37o5 : List AOper := [
  ⟨(some 11), .t (.mv (.t 3)), none⟩,
  ⟨(some 12), .m (.load true 5 (.t 1)), none⟩,
  ⟨(some 13), .t (.mv (.t 4)), none⟩,
  ⟨(some 14), .call (.c (.clo 68 [] [])) [(.t 12), (.t 13)], none⟩,
  ⟨(some 15), .m (.append false 79 13 208 (.t 11) (.t 14)), none⟩,
  ⟨(some 3), .t (.mv (.t 15)), none⟩]
def F37o6 : List AOper := [
  ⟨(some 16), .t (.bin .add (.t 8) (.c (.int .i64 1))), none⟩,
  ⟨(some 8), .t (.mv (.t 16)), none⟩]
def F37b7 : ACode :=
  (.seq (.ops F37o3 [1, 3, 7, 8, 9])
  ((.seq (.cond (.t 9)
    (.skip)
    (.exit 0))
   ((.seq (.block 1 ((.seq (.ops F37o4 [1, 3, 4, 7, 8])
     (.ops F37o5 [1, 3, 7, 8]))))
    (.ops F37o6 [1, 3, 7, 8]))))))
def F37o8 : List AOper := [
  ⟨(some 17), .t (.mv (.t 3)), none⟩,
  ⟨(some 2), .t (.mv (.t 17)), none⟩]
def F37c : ACode :=
  (.seq (.ops F37o0 [1])
  ((.seq (.ops F37o1 [1, 3])
   ((.seq ((.seq (.ops F37o2 [1, 3, 7, 8])
    (.block 0 (.loop [1, 3, 7, 8] F37b7))))
    ((.seq (.ops F37o8 [2])
     (.ret))))))))
def F37 : AFn := ⟨18, [.tmp 2], F37c⟩
theorem F37_ok : cFn Tryd.prog [1] 37 = some F37 := by kernel_rfl

/- manifold/manifoldlaw23.samePlace -/
def F40o0 : List AOper := [
  ⟨(some 4), .t (.mv (.c (.bool false))), none⟩]
def F40o1 : List AOper := [
  ⟨(some 6), .t (.mv (.t 0)), none⟩,
  ⟨(some 7), .t (.len false (.t 6)), none⟩,
  ⟨(some 8), .t (.mv (.t 1)), none⟩,
  ⟨(some 9), .t (.len false (.t 8)), none⟩,
  ⟨(some 10), .t (.bin .neq (.t 7) (.t 9)), none⟩]
def F40o2 : List AOper := [
  ⟨(some 4), .t (.mv (.c (.bool false))), none⟩]
def F40o3 : List AOper := [
  ⟨(some 5), .t (.mv (.c (.int .i64 0))), none⟩]
def F40o4 : List AOper := [
  ⟨(some 11), .t (.mv (.t 5)), none⟩,
  ⟨(some 12), .t (.mv (.t 0)), none⟩,
  ⟨(some 13), .t (.len false (.t 12)), none⟩,
  ⟨(some 14), .t (.bin .lss (.t 11) (.t 13)), none⟩]
def F40o5 : List AOper := [
  ⟨(some 17), .t (.mv (.t 0)), none⟩,
  ⟨(some 18), .t (.mv (.t 5)), none⟩,
  ⟨(some 19), .t (.iaddr 1 (.t 17) (.t 18)), none⟩,
  ⟨(some 20), .m (.load false 1 (.t 19)), none⟩,
  ⟨(some 21), .t (.mv (.t 1)), none⟩,
  ⟨(some 22), .t (.mv (.t 5)), none⟩,
  ⟨(some 23), .t (.iaddr 1 (.t 21) (.t 22)), none⟩,
  ⟨(some 24), .m (.load false 1 (.t 23)), none⟩]
def F40p5 : List AOper := [
  ⟨(some 25), .t (.bin .neq (.t 20) (.t 24)), none⟩]
def F40A5 : List (List Nat) := [[], [], [0, 1], [2, 0, 1], [], [], [4, 5], [6, 4, 5], [3, 7, 2, 0, 1, 6, 4, 5]]
def F40o6 : List AOper := [
  ⟨(some 4), .t (.mv (.c (.bool false))), none⟩]
def F40o7 : List AOper := [
  ⟨(some 15), .t (.mv (.t 5)), none⟩,
  ⟨(some 16), .t (.bin .add (.t 15) (.c (.int .i64 1))), none⟩,
  ⟨(some 5), .t (.mv (.t 16)), none⟩]
def F40b8 : ACode :=
  (.seq ((.seq (.ops F40o4 [0, 1, 5, 14])
  (.cond (.t 14)
    (.skip)
    (.exit 0))))
  ((.seq (.block 1 ((.seq (.draw F40A5 F40o5 F40p5 [0, 1, 5, 25])
    (.cond (.t 25)
      ((.seq (.ops F40o6 [4])
       (.ret)))
      (.skip)))))
   (.ops F40o7 [0, 1, 5]))))
def F40o9 : List AOper := [
  ⟨(some 4), .t (.mv (.c (.bool true))), none⟩]
def F40c : ACode :=
  (.seq (.ops F40o0 [0, 1])
  ((.seq ((.seq (.ops F40o1 [0, 1, 10])
   (.cond (.t 10)
     ((.seq (.ops F40o2 [4])
      (.ret)))
     (.skip))))
   ((.seq ((.seq (.ops F40o3 [0, 1, 5])
    (.block 0 (.loop [0, 1, 5] F40b8))))
    ((.seq (.ops F40o9 [4])
     (.ret))))))))
def F40 : AFn := ⟨26, [.tmp 4], F40c⟩
theorem F40_ok : cFn Tryd.prog [] 40 = some F40 := by kernel_rfl

/- slices.ContainsFunc[[]manifold/api.Branch,manifold/api.Branch] -/
def F45o0 : List AOper := [
  ⟨(some 4), .t (.mv (.c (.bool false))), none⟩]
def F45o1 : List AOper := [
  ⟨(some 5), .t (.mv (.t 0)), none⟩,
  ⟨(some 6), .t (.mv (.t 1)), none⟩,
  ⟨(some 7), .call (.c (.clo 79 [] [])) [(.t 5), (.t 6)], none⟩,
  ⟨(some 8), .t (.bin .geq (.t 7) (.c (.int .i64 0))), none⟩,
  ⟨(some 4), .t (.mv (.t 8)), none⟩]
def F45c : ACode :=
  (.seq (.ops F45o0 [0, 1])
  ((.seq (.ops F45o1 [4])
   (.ret))))
def F45 : AFn := ⟨9, [.tmp 4], F45c⟩
theorem F45_ok : cFn Tryd.prog [] 45 = some F45 := by kernel_rfl

/- manifold/resolve.Ends$1 -/
def F46o0 : List AOper := [
  ⟨(some 1), .m (.cbox 89 (.t 0)), none⟩,
  ⟨(some 2), .t (.mv (.c (.bool false))), none⟩]
def F46o1 : List AOper := [
  ⟨(some 3), .t (.faddr 1 (.t 1)), none⟩,
  ⟨(some 4), .m (.load false 1 (.t 3)), none⟩,
  ⟨(some 5), .call (.c (.clo 15 [] [])) [(.t 4)], none⟩,
  ⟨(some 6), .t (.not (.t 5)), none⟩,
  ⟨(some 2), .t (.mv (.t 6)), none⟩]
def F46c : ACode :=
  (.seq (.ops F46o0 [1])
  ((.seq (.ops F46o1 [2])
   (.ret))))
def F46 : AFn := ⟨7, [.tmp 2], F46c⟩
theorem F46_ok : cFn Tryd.prog [1] 46 = some F46 := by kernel_rfl

/- manifold/manifoldlaw23.choose -/
def F47o0 : List AOper := [
  ⟨(some 2), .m (.alloc 32 [(.str []), (.int .i64 0), (.int .i64 0), (.int .i64 0), (.int .i64 0), (.str []), (.str []), .nils, .nils, .nils, .nils]), none⟩]
def F47o1 : List AOper := [
  ⟨(some 5), .t (.build [(.str []), (.int .i64 0), (.int .i64 0), (.int .i64 0), (.int .i64 0), (.str []), (.str []), .nils, .nils, .nils, .nils] [(1, 1, (.c (.int .i64 11)))]), none⟩,
  ⟨(some 3), .m (.alloc 32 [(.str []), (.int .i64 0), (.int .i64 0), (.int .i64 0), (.int .i64 0), (.str []), (.str []), .nils, .nils, .nils, .nils]), none⟩,
  ⟨none, .m (.store 11 (.t 3) (.t 5)), none⟩]
def F47o2 : List AOper := [
  ⟨(some 4), .t (.mv (.c (.int .i64 0))), none⟩]
def F47o3 : List AOper := [
  ⟨(some 6), .t (.mv (.t 4)), none⟩,
  ⟨(some 7), .t (.mv (.t 0)), none⟩,
  ⟨(some 8), .t (.len false (.t 7)), none⟩,
  ⟨(some 9), .t (.bin .lss (.t 6) (.t 8)), none⟩]
def F47o4 : List AOper := [
  ⟨(some 12), .t (.faddr 10 (.t 3)), none⟩,
  ⟨(some 13), .m (.load false 1 (.t 12)), none⟩,
  ⟨(some 14), .t (.mv (.t 0)), none⟩,
  ⟨(some 15), .t (.mv (.t 4)), none⟩,
  ⟨(some 16), .t (.iaddr 1 (.t 14) (.t 15)), none⟩,
  ⟨(some 17), .m (.load false 1 (.t 16)), none⟩,
  ⟨(some 18), .t (.build [.nils, .nils] [(1, 1, (.t 17))]), none⟩,
  ⟨(some 19), .m (.bslice false 89 2 1 [(.t 18)]), none⟩]
def F47p4 : List AOper := [
  ⟨(some 20), .m (.append false 89 2 48 (.t 13) (.t 19)), none⟩,
  ⟨(some 21), .t (.faddr 10 (.t 3)), none⟩,
  ⟨none, .m (.store 1 (.t 21) (.t 20)), none⟩]
def F47A4 : List (List Nat) := [[], [0], [], [], [2, 3], [4, 2, 3], [5, 4, 2, 3], [6, 5, 4, 2, 3], [1, 7, 0, 6, 5, 4, 2, 3], [8, 1, 7, 0, 6, 5, 4, 2, 3], [9, 8, 1, 7, 0, 6, 5, 4, 2, 3]]
def F47o5 : List AOper := [
  ⟨(some 10), .t (.mv (.t 4)), none⟩,
  ⟨(some 11), .t (.bin .add (.t 10) (.c (.int .i64 1))), none⟩,
  ⟨(some 4), .t (.mv (.t 11)), none⟩]
def F47b6 : ACode :=
  (.seq ((.seq (.ops F47o3 [0, 2, 3, 4, 9])
  (.cond (.t 9)
    (.skip)
    (.exit 0))))
  ((.seq (.block 1 (.draw F47A4 F47o4 F47p4 [0, 2, 3, 4]))
   (.ops F47o5 [0, 2, 3, 4]))))
def F47o7 : List AOper := [
  ⟨(some 22), .m (.load true 11 (.t 3)), none⟩,
  ⟨none, .m (.store 11 (.t 2) (.t 22)), none⟩]
def F47c : ACode :=
  (.seq (.ops F47o0 [0, 2])
  ((.seq (.ops F47o1 [0, 2, 3])
   ((.seq ((.seq (.ops F47o2 [0, 2, 3, 4])
    (.block 0 (.loop [0, 2, 3, 4] F47b6))))
    ((.seq (.ops F47o7 [2])
     (.ret))))))))
def F47 : AFn := ⟨23, [.cell 2 true 11], F47c⟩
theorem F47_ok : cFn Tryd.prog [] 47 = some F47 := by kernel_rfl

/- manifold/manifoldlaw23.to -/
def F48o0 : List AOper := [
  ⟨(some 2), .m (.alloc 32 [(.str []), (.int .i64 0), (.int .i64 0), (.int .i64 0), (.int .i64 0), (.str []), (.str []), .nils, .nils, .nils, .nils]), none⟩]
def F48o1 : List AOper := [
  ⟨(some 3), .t (.mv (.t 0)), none⟩,
  ⟨(some 4), .t (.build [(.str []), (.int .i64 0), (.int .i64 0), (.int .i64 0), (.int .i64 0), (.str []), (.str []), .nils, .nils, .nils, .nils] [(1, 1, (.c (.int .i64 13))), (5, 1, (.t 3))]), none⟩,
  ⟨none, .m (.store 11 (.t 2) (.t 4)), none⟩]
def F48c : ACode :=
  (.seq (.ops F48o0 [0, 2])
  ((.seq (.ops F48o1 [2])
   (.ret))))
def F48 : AFn := ⟨5, [.cell 2 true 11], F48c⟩
theorem F48_ok : cFn Tryd.prog [] 48 = some F48 := by kernel_rfl

/- manifold/resolve.joined -/
def F49o0 : List AOper := [
  ⟨(some 4), .t (.mv (.c (.str []))), none⟩]
def F49o1 : List AOper := [
  ⟨(some 5), .t (.mv (.c .nils)), none⟩]
def F49o2 : List AOper := [
  ⟨(some 8), .t (.mv (.t 0)), none⟩,
  ⟨(some 9), .t (.len false (.t 8)), none⟩,
  ⟨(some 10), .t (.mv (.c (.int .i64 0))), none⟩]
def F49o3 : List AOper := [
  ⟨(some 11), .t (.bin .lss (.t 10) (.t 9)), none⟩]
def F49o4 : List AOper := [
  ⟨(some 12), .t (.iaddr 1 (.t 8) (.t 10)), none⟩,
  ⟨(some 13), .m (.load false 1 (.t 12)), none⟩,
  ⟨(some 7), .t (.mv (.t 13)), none⟩]
def F49o5 : List AOper := [
  ⟨(some 14), .t (.mv (.t 5)), none⟩,
  ⟨(some 15), .t (.mv (.t 7)), none⟩,
  ⟨(some 16), .call (.c (.clo 80 [] [])) [(.t 15)], none⟩,
  ⟨(some 17), .m (.bslice false 9 1 1 [(.t 16)]), none⟩,
  ⟨(some 18), .m (.append false 9 1 16 (.t 14) (.t 17)), none⟩,
  ⟨(some 5), .t (.mv (.t 18)), none⟩]
def F49o6 : List AOper := [
  ⟨(some 19), .t (.bin .add (.t 10) (.c (.int .i64 1))), none⟩,
  ⟨(some 10), .t (.mv (.t 19)), none⟩]
def F49b7 : ACode :=
  (.seq (.ops F49o3 [1, 5, 8, 9, 10, 11])
  ((.seq (.cond (.t 11)
    (.skip)
    (.exit 0))
   ((.seq (.block 1 ((.seq (.ops F49o4 [1, 5, 7, 8, 9, 10])
     (.ops F49o5 [1, 5, 8, 9, 10]))))
    (.ops F49o6 [1, 5, 8, 9, 10]))))))
def F49o8 : List AOper := [
  ⟨(some 20), .t (.mv (.t 5)), none⟩,
  ⟨(some 21), .t (.mv (.t 1)), none⟩,
  ⟨(some 22), .call (.c (.clo 60 [] [])) [(.t 20), (.t 21)], none⟩,
  ⟨(some 4), .t (.mv (.t 22)), none⟩]
def F49c : ACode :=
  (.seq (.ops F49o0 [0, 1])
  ((.seq (.ops F49o1 [0, 1, 5])
   ((.seq ((.seq (.ops F49o2 [1, 5, 8, 9, 10])
    (.block 0 (.loop [1, 5, 8, 9, 10] F49b7))))
    ((.seq (.ops F49o8 [4])
     (.ret))))))))
def F49 : AFn := ⟨23, [.tmp 4], F49c⟩
theorem F49_ok : cFn Tryd.prog [] 49 = some F49 := by kernel_rfl

/- manifold/manifoldlaw07.ShortType -/
def F51o0 : List AOper := [
  ⟨(some 2), .m (.box 98 (.t 0)), none⟩,
  ⟨(some 4), .m (.alloc 98 [(.int .i64 0), (.int .i64 0), (.int .i64 0), (.int .i64 0), .nils, .nils, .nils]), none⟩]
def F51o1 : List AOper := [
  ⟨(some 5), .t (.mv (.c .nils)), none⟩]
def F51o2 : List AOper := [
  ⟨(some 6), .t (.mv (.c .nils)), none⟩]
def F51o3 : List AOper := [
  ⟨(some 7), .t (.mv (.c .nils)), none⟩]
def F51o4 : List AOper := [
  ⟨(some 8), .t (.mv (.c (.int .i64 0))), none⟩]
def F51o5 : List AOper := [
  ⟨(some 14), .t (.mv (.t 8)), none⟩,
  ⟨(some 15), .t (.faddr 4 (.t 2)), none⟩,
  ⟨(some 16), .m (.load false 1 (.t 15)), none⟩,
  ⟨(some 17), .t (.len false (.t 16)), none⟩,
  ⟨(some 18), .t (.bin .lss (.t 14) (.t 17)), none⟩,
  ⟨(some 19), .t (.mv (.t 18)), none⟩,
  ⟨(some 20), .t (.mv (.t 8)), (some (19, true))⟩,
  ⟨(some 21), .t (.bin .lss (.t 20) (.c (.int .i64 6))), (some (19, true))⟩,
  ⟨(some 22), .t (.pick (.t 19) (.t 21) (.c (.bool false))), none⟩]
def F51o6 : List AOper := [
  ⟨(some 25), .t (.mv (.t 5)), none⟩,
  ⟨(some 26), .t (.faddr 4 (.t 2)), none⟩,
  ⟨(some 27), .m (.load false 1 (.t 26)), none⟩,
  ⟨(some 28), .t (.mv (.t 8)), none⟩,
  ⟨(some 29), .t (.iaddr 1 (.t 27) (.t 28)), none⟩,
  ⟨(some 30), .m (.load false 1 (.t 29)), none⟩,
  ⟨(some 31), .t (.faddr 4 (.t 2)), none⟩,
  ⟨(some 32), .m (.load false 1 (.t 31)), none⟩,
  ⟨(some 33), .t (.mv (.t 8)), none⟩,
  ⟨(some 34), .t (.iaddr 1 (.t 32) (.t 33)), none⟩,
  ⟨(some 35), .m (.load false 1 (.t 34)), none⟩,
  ⟨(some 36), .t (.len true (.t 35)), none⟩,
  ⟨(some 37), .t (.imin (.t 36) (.c (.int .i64 40))), none⟩,
  ⟨(some 38), .t (.sliceS (.t 30) none (some (.t 37))), none⟩,
  ⟨(some 39), .m (.bslice false 9 1 1 [(.t 38)]), none⟩]
def F51p6 : List AOper := [
  ⟨(some 40), .m (.append false 9 1 16 (.t 25) (.t 39)), none⟩,
  ⟨(some 5), .t (.mv (.t 40)), none⟩]
def F51A6 : List (List Nat) := [[], [], [1], [], [2, 3, 1], [4, 2, 3, 1], [], [6], [], [7, 8, 6], [9, 7, 8, 6], [10, 9, 7, 8, 6], [11, 10, 9, 7, 8, 6], [5, 12, 4, 2, 3, 1, 11, 10, 9, 7, 8, 6], [13, 5, 12, 4, 2, 3, 1, 11, 10, 9, 7, 8, 6], [0, 14, 13, 5, 12, 4, 2, 3, 1, 11, 10, 9, 7, 8, 6], [15, 0, 14, 13, 5, 12, 4, 2, 3, 1, 11, 10, 9, 7, 8, 6]]
def F51o7 : List AOper := [
  ⟨(some 23), .t (.mv (.t 8)), none⟩,
  ⟨(some 24), .t (.bin .add (.t 23) (.c (.int .i64 1))), none⟩,
  ⟨(some 8), .t (.mv (.t 24)), none⟩]
def F51b8 : ACode :=
  (.seq ((.seq (.ops F51o5 [1, 2, 4, 5, 6, 7, 8, 22])
  (.cond (.t 22)
    (.skip)
    (.exit 0))))
  ((.seq (.block 1 (.draw F51A6 F51o6 F51p6 [1, 2, 4, 5, 6, 7, 8]))
   (.ops F51o7 [1, 2, 4, 5, 6, 7, 8]))))
def F51o9 : List AOper := [
  ⟨(some 9), .t (.mv (.c (.int .i64 0))), none⟩]
def F51o10 : List AOper := [
  ⟨(some 41), .t (.mv (.t 9)), none⟩,
  ⟨(some 42), .t (.faddr 5 (.t 2)), none⟩,
  ⟨(some 43), .m (.load false 1 (.t 42)), none⟩,
  ⟨(some 44), .t (.len false (.t 43)), none⟩,
  ⟨(some 45), .t (.bin .lss (.t 41) (.t 44)), none⟩,
  ⟨(some 46), .t (.mv (.t 45)), none⟩,
  ⟨(some 47), .t (.mv (.t 9)), (some (46, true))⟩,
  ⟨(some 48), .t (.bin .lss (.t 47) (.c (.int .i64 2))), (some (46, true))⟩,
  ⟨(some 49), .t (.pick (.t 46) (.t 48) (.c (.bool false))), none⟩,
  ⟨(some 50), .t (.mv (.t 49)), none⟩,
  ⟨(some 51), .t (.mv (.t 1)), (some (50, true))⟩,
  ⟨(some 52), .t (.bin .gtr (.t 51) (.c (.int .i64 1))), (some (50, true))⟩,
  ⟨(some 53), .t (.pick (.t 50) (.t 52) (.c (.bool false))), none⟩]
def F51o11 : List AOper := [
  ⟨(some 56), .t (.mv (.t 6)), none⟩,
  ⟨(some 57), .t (.faddr 5 (.t 2)), none⟩,
  ⟨(some 58), .m (.load false 1 (.t 57)), none⟩,
  ⟨(some 59), .t (.mv (.t 9)), none⟩,
  ⟨(some 60), .t (.iaddr 7 (.t 58) (.t 59)), none⟩,
  ⟨(some 61), .m (.load true 7 (.t 60)), none⟩,
  ⟨(some 62), .t (.mv (.t 1)), none⟩,
  ⟨(some 63), .t (.bin .sub (.t 62) (.c (.int .i64 1))), none⟩,
  ⟨(some 64), .call (.c (.clo 51 [] [])) [(.t 61), (.t 63)], none⟩,
  ⟨(some 65), .m (.bslice false 98 7 1 [(.t 64)]), none⟩,
  ⟨(some 66), .m (.append false 98 7 104 (.t 56) (.t 65)), none⟩,
  ⟨(some 6), .t (.mv (.t 66)), none⟩]
def F51o12 : List AOper := [
  ⟨(some 54), .t (.mv (.t 9)), none⟩,
  ⟨(some 55), .t (.bin .add (.t 54) (.c (.int .i64 1))), none⟩,
  ⟨(some 9), .t (.mv (.t 55)), none⟩]
def F51b13 : ACode :=
  (.seq ((.seq (.ops F51o10 [1, 2, 4, 5, 6, 7, 9, 53])
  (.cond (.t 53)
    (.skip)
    (.exit 2))))
  ((.seq (.block 3 (.ops F51o11 [1, 2, 4, 5, 6, 7, 9]))
   (.ops F51o12 [1, 2, 4, 5, 6, 7, 9]))))
def F51o14 : List AOper := [
  ⟨(some 10), .t (.mv (.c (.int .i64 0))), none⟩]
def F51o15 : List AOper := [
  ⟨(some 67), .t (.mv (.t 10)), none⟩,
  ⟨(some 68), .t (.faddr 6 (.t 2)), none⟩,
  ⟨(some 69), .m (.load false 1 (.t 68)), none⟩,
  ⟨(some 70), .t (.len false (.t 69)), none⟩,
  ⟨(some 71), .t (.bin .lss (.t 67) (.t 70)), none⟩,
  ⟨(some 72), .t (.mv (.t 71)), none⟩,
  ⟨(some 73), .t (.mv (.t 10)), (some (72, true))⟩,
  ⟨(some 74), .t (.bin .lss (.t 73) (.c (.int .i64 6))), (some (72, true))⟩,
  ⟨(some 75), .t (.pick (.t 72) (.t 74) (.c (.bool false))), none⟩,
  ⟨(some 76), .t (.mv (.t 75)), none⟩,
  ⟨(some 77), .t (.mv (.t 1)), (some (76, true))⟩,
  ⟨(some 78), .t (.bin .gtr (.t 77) (.c (.int .i64 1))), (some (76, true))⟩,
  ⟨(some 79), .t (.pick (.t 76) (.t 78) (.c (.bool false))), none⟩]
def F51o16 : List AOper := [
  ⟨(some 82), .t (.faddr 6 (.t 2)), none⟩,
  ⟨(some 83), .m (.load false 1 (.t 82)), none⟩,
  ⟨(some 84), .t (.mv (.t 10)), none⟩,
  ⟨(some 85), .t (.iaddr 11 (.t 83) (.t 84)), none⟩,
  ⟨(some 86), .m (.load true 11 (.t 85)), none⟩,
  ⟨(some 11), .m (.alloc 134 [(.int .i64 0), (.str []), (.int .i64 0), (.int .i64 0), (.int .i64 0), (.int .i64 0), (.int .i64 0), .nils, .nils, .nils, .nils]), none⟩,
  ⟨none, .m (.store 11 (.t 11) (.t 86)), none⟩]
def F51o17 : List AOper := [
  ⟨(some 12), .t (.mv (.c .nils)), none⟩]
def F51o18 : List AOper := [
  ⟨(some 13), .t (.mv (.c (.int .i64 0))), none⟩]
def F51o19 : List AOper := [
  ⟨(some 87), .t (.mv (.t 13)), none⟩,
  ⟨(some 88), .t (.faddr 10 (.t 11)), none⟩,
  ⟨(some 89), .m (.load false 1 (.t 88)), none⟩,
  ⟨(some 90), .t (.len false (.t 89)), none⟩,
  ⟨(some 91), .t (.bin .lss (.t 87) (.t 90)), none⟩,
  ⟨(some 92), .t (.mv (.t 91)), none⟩,
  ⟨(some 93), .t (.mv (.t 13)), (some (92, true))⟩,
  ⟨(some 94), .t (.bin .lss (.t 93) (.c (.int .i64 2))), (some (92, true))⟩,
  ⟨(some 95), .t (.pick (.t 92) (.t 94) (.c (.bool false))), none⟩]
def F51o20 : List AOper := [
  ⟨(some 98), .t (.mv (.t 12)), none⟩,
  ⟨(some 99), .t (.faddr 10 (.t 11)), none⟩,
  ⟨(some 100), .m (.load false 1 (.t 99)), none⟩,
  ⟨(some 101), .t (.mv (.t 13)), none⟩,
  ⟨(some 102), .t (.iaddr 6 (.t 100) (.t 101)), none⟩,
  ⟨(some 103), .m (.load true 6 (.t 102)), none⟩,
  ⟨(some 104), .call (.c (.clo 81 [] [])) [(.t 103), (.c (.int .i64 3))], none⟩,
  ⟨(some 105), .m (.bslice false 137 6 1 [(.t 104)]), none⟩,
  ⟨(some 106), .m (.append false 137 6 88 (.t 98) (.t 105)), none⟩,
  ⟨(some 12), .t (.mv (.t 106)), none⟩]
def F51o21 : List AOper := [
  ⟨(some 96), .t (.mv (.t 13)), none⟩,
  ⟨(some 97), .t (.bin .add (.t 96) (.c (.int .i64 1))), none⟩,
  ⟨(some 13), .t (.mv (.t 97)), none⟩]
def F51b22 : ACode :=
  (.seq ((.seq (.ops F51o19 [1, 2, 4, 5, 6, 7, 10, 11, 12, 13, 95])
  (.cond (.t 95)
    (.skip)
    (.exit 6))))
  ((.seq (.block 7 (.ops F51o20 [1, 2, 4, 5, 6, 7, 10, 11, 12, 13]))
   (.ops F51o21 [1, 2, 4, 5, 6, 7, 10, 11, 12, 13]))))
def F51o23 : List AOper := [
  ⟨(some 107), .t (.faddr 1 (.t 11)), none⟩,
  ⟨(some 108), .m (.load false 1 (.t 107)), none⟩,
  ⟨(some 109), .t (.faddr 1 (.t 11)), none⟩,
  ⟨(some 110), .m (.load false 1 (.t 109)), none⟩,
  ⟨(some 111), .t (.len true (.t 110)), none⟩,
  ⟨(some 112), .t (.imin (.t 111) (.c (.int .i64 40))), none⟩,
  ⟨(some 113), .t (.sliceS (.t 108) none (some (.t 112))), none⟩,
  ⟨(some 114), .t (.faddr 3 (.t 11)), none⟩,
  ⟨(some 115), .m (.load true 7 (.t 114)), none⟩,
  ⟨(some 116), .t (.mv (.t 1)), none⟩,
  ⟨(some 117), .t (.bin .sub (.t 116) (.c (.int .i64 1))), none⟩,
  ⟨(some 118), .call (.c (.clo 51 [] [])) [(.t 115), (.t 117)], none⟩,
  ⟨(some 119), .t (.mv (.t 12)), none⟩,
  ⟨(some 120), .t (.faddr 1 (.t 11)), none⟩,
  ⟨none, .m (.store 1 (.t 120) (.t 113)), none⟩,
  ⟨(some 121), .t (.faddr 3 (.t 11)), none⟩,
  ⟨none, .m (.store 7 (.t 121) (.t 118)), none⟩]
def F51p23 : List AOper := [
  ⟨(some 122), .t (.faddr 10 (.t 11)), none⟩,
  ⟨none, .m (.store 1 (.t 122) (.t 119)), none⟩]
def F51A23 : List (List Nat) := [[], [0], [], [2], [3, 2], [4, 3, 2], [1, 5, 0, 4, 3, 2], [], [7], [], [9], [8, 10, 7, 9], [], [6, 8, 1, 5, 0, 4, 3, 2, 7], [13, 11, 6, 8, 10, 9, 1, 5, 0, 4, 3, 2, 7], [14, 13, 11, 6, 8, 10, 9, 1, 5, 0, 4, 3, 2, 7], [15, 14, 13, 11, 6, 8, 10, 9, 1, 5, 0, 4, 3, 2, 7], [12, 16, 15, 14, 13, 11, 6, 8, 10, 9, 1, 5, 0, 4, 3, 2, 7], [17, 12, 16, 15, 14, 13, 11, 6, 8, 10, 9, 1, 5, 0, 4, 3, 2, 7]]
def F51o24 : List AOper := [
  ⟨(some 123), .t (.mv (.t 7)), none⟩,
  ⟨(some 124), .m (.load true 11 (.t 11)), none⟩,
  ⟨(some 125), .m (.bslice false 134 11 1 [(.t 124)]), none⟩,
  ⟨(some 126), .m (.append false 134 11 160 (.t 123) (.t 125)), none⟩,
  ⟨(some 7), .t (.mv (.t 126)), none⟩]
def F51o25 : List AOper := [
  ⟨(some 80), .t (.mv (.t 10)), none⟩,
  ⟨(some 81), .t (.bin .add (.t 80) (.c (.int .i64 1))), none⟩,
  ⟨(some 10), .t (.mv (.t 81)), none⟩]
def F51b26 : ACode :=
  (.seq ((.seq (.ops F51o15 [1, 2, 4, 5, 6, 7, 10, 79])
  (.cond (.t 79)
    (.skip)
    (.exit 4))))
  ((.seq (.block 5 ((.seq (.ops F51o16 [1, 2, 4, 5, 6, 7, 10, 11])
    ((.seq (.ops F51o17 [1, 2, 4, 5, 6, 7, 10, 11, 12])
     ((.seq ((.seq (.ops F51o18 [1, 2, 4, 5, 6, 7, 10, 11, 12, 13])
      (.block 6 (.loop [1, 2, 4, 5, 6, 7, 10, 11, 12, 13] F51b22))))
      ((.seq (.draw F51A23 F51o23 F51p23 [1, 2, 4, 5, 6, 7, 10, 11])
       (.ops F51o24 [1, 2, 4, 5, 6, 7, 10]))))))))))
   (.ops F51o25 [1, 2, 4, 5, 6, 7, 10]))))
def F51o27 : List AOper := [
  ⟨(some 127), .t (.mv (.t 5)), none⟩,
  ⟨(some 128), .t (.mv (.t 6)), none⟩,
  ⟨(some 129), .t (.mv (.t 7)), none⟩,
  ⟨(some 130), .t (.faddr 4 (.t 2)), none⟩,
  ⟨none, .m (.store 1 (.t 130) (.t 127)), none⟩,
  ⟨(some 131), .t (.faddr 5 (.t 2)), none⟩,
  ⟨none, .m (.store 1 (.t 131) (.t 128)), none⟩,
  ⟨(some 132), .t (.faddr 6 (.t 2)), none⟩,
  ⟨none, .m (.store 1 (.t 132) (.t 129)), none⟩]
def F51o28 : List AOper := [
  ⟨(some 133), .m (.load true 7 (.t 2)), none⟩,
  ⟨none, .m (.store 7 (.t 4) (.t 133)), none⟩]
def F51c : ACode :=
  (.seq (.ops F51o0 [1, 2, 4])
  ((.seq (.ops F51o1 [1, 2, 4, 5])
   ((.seq (.ops F51o2 [1, 2, 4, 5, 6])
    ((.seq (.ops F51o3 [1, 2, 4, 5, 6, 7])
     ((.seq ((.seq (.ops F51o4 [1, 2, 4, 5, 6, 7, 8])
      (.block 0 (.loop [1, 2, 4, 5, 6, 7, 8] F51b8))))
      ((.seq ((.seq (.ops F51o9 [1, 2, 4, 5, 6, 7, 9])
       (.block 2 (.loop [1, 2, 4, 5, 6, 7, 9] F51b13))))
       ((.seq ((.seq (.ops F51o14 [1, 2, 4, 5, 6, 7, 10])
        (.block 4 (.loop [1, 2, 4, 5, 6, 7, 10] F51b26))))
        ((.seq (.ops F51o27 [2, 4])
         ((.seq (.ops F51o28 [4])
          (.ret))))))))))))))))))
def F51 : AFn := ⟨134, [.cell 4 true 7], F51c⟩
theorem F51_ok : cFn Tryd.prog [] 51 = some F51 := by kernel_rfl

/- manifold/resolve.index[manifold/api.Endpoint] -/
def F52o0 : List AOper := [
  ⟨(some 4), .t (.mv (.c (.int .i64 0))), none⟩,
  ⟨(some 5), .t (.mv (.c (.bool false))), none⟩]
def F52o1 : List AOper := [
  ⟨(some 7), .t (.mv (.t 0)), none⟩,
  ⟨(some 8), .t (.mv (.t 1)), none⟩,
  ⟨(some 9), .call (.c (.clo 82 [] [])) [(.t 7), (.t 8)], none⟩,
  ⟨(some 6), .t (.mv (.t 9)), none⟩]
def F52o2 : List AOper := [
  ⟨(some 10), .t (.mv (.t 6)), none⟩,
  ⟨(some 11), .t (.imax (.t 10) (.c (.int .i64 0))), none⟩,
  ⟨(some 12), .t (.mv (.t 6)), none⟩,
  ⟨(some 13), .t (.bin .geq (.t 12) (.c (.int .i64 0))), none⟩,
  ⟨(some 4), .t (.mv (.t 11)), none⟩,
  ⟨(some 5), .t (.mv (.t 13)), none⟩]
def F52c : ACode :=
  (.seq (.ops F52o0 [0, 1])
  ((.seq (.ops F52o1 [6])
   ((.seq (.ops F52o2 [4, 5])
    (.ret))))))
def F52 : AFn := ⟨14, [.tmp 4, .tmp 5], F52c⟩
theorem F52_ok : cFn Tryd.prog [] 52 = some F52 := by kernel_rfl

/- manifold/resolve.Endpoint$1 -/
def F53o0 : List AOper := [
  ⟨(some 2), .m (.cbox 52 (.t 0)), none⟩,
  ⟨(some 3), .t (.mv (.c (.bool false))), none⟩]
def F53o1 : List AOper := [
  ⟨(some 4), .t (.faddr 0 (.t 2)), none⟩,
  ⟨(some 5), .m (.load false 1 (.t 4)), none⟩,
  ⟨(some 6), .m (.load false 1 (.t 1)), none⟩,
  ⟨(some 7), .t (.bin .eql (.t 5) (.t 6)), none⟩,
  ⟨(some 3), .t (.mv (.t 7)), none⟩]
def F53c : ACode :=
  (.seq (.ops F53o0 [1, 2])
  ((.seq (.ops F53o1 [3])
   (.ret))))
def F53 : AFn := ⟨8, [.tmp 3], F53c⟩
theorem F53_ok : cFn Tryd.prog [2] 53 = some F53 := by kernel_rfl

/- manifold/resolve.index[manifold/api.Service] -/
def F54o0 : List AOper := [
  ⟨(some 4), .t (.mv (.c (.int .i64 0))), none⟩,
  ⟨(some 5), .t (.mv (.c (.bool false))), none⟩]
def F54o1 : List AOper := [
  ⟨(some 7), .t (.mv (.t 0)), none⟩,
  ⟨(some 8), .t (.mv (.t 1)), none⟩,
  ⟨(some 9), .call (.c (.clo 83 [] [])) [(.t 7), (.t 8)], none⟩,
  ⟨(some 6), .t (.mv (.t 9)), none⟩]
def F54o2 : List AOper := [
  ⟨(some 10), .t (.mv (.t 6)), none⟩,
  ⟨(some 11), .t (.imax (.t 10) (.c (.int .i64 0))), none⟩,
  ⟨(some 12), .t (.mv (.t 6)), none⟩,
  ⟨(some 13), .t (.bin .geq (.t 12) (.c (.int .i64 0))), none⟩,
  ⟨(some 4), .t (.mv (.t 11)), none⟩,
  ⟨(some 5), .t (.mv (.t 13)), none⟩]
def F54c : ACode :=
  (.seq (.ops F54o0 [0, 1])
  ((.seq (.ops F54o1 [6])
   ((.seq (.ops F54o2 [4, 5])
    (.ret))))))
def F54 : AFn := ⟨14, [.tmp 4, .tmp 5], F54c⟩
theorem F54_ok : cFn Tryd.prog [] 54 = some F54 := by kernel_rfl

/- manifold/resolve.Service$1 -/
def F55o0 : List AOper := [
  ⟨(some 2), .m (.cbox 54 (.t 0)), none⟩,
  ⟨(some 3), .t (.mv (.c (.bool false))), none⟩]
def F55o1 : List AOper := [
  ⟨(some 4), .t (.faddr 0 (.t 2)), none⟩,
  ⟨(some 5), .m (.load false 1 (.t 4)), none⟩,
  ⟨(some 6), .m (.load false 1 (.t 1)), none⟩,
  ⟨(some 7), .t (.bin .eql (.t 5) (.t 6)), none⟩,
  ⟨(some 3), .t (.mv (.t 7)), none⟩]
def F55c : ACode :=
  (.seq (.ops F55o0 [1, 2])
  ((.seq (.ops F55o1 [3])
   (.ret))))
def F55 : AFn := ⟨8, [.tmp 3], F55c⟩
theorem F55_ok : cFn Tryd.prog [2] 55 = some F55 := by kernel_rfl

/- manifold/resolve.index[manifold/api.Route] -/
def F56o0 : List AOper := [
  ⟨(some 4), .t (.mv (.c (.int .i64 0))), none⟩,
  ⟨(some 5), .t (.mv (.c (.bool false))), none⟩]
def F56o1 : List AOper := [
  ⟨(some 7), .t (.mv (.t 0)), none⟩,
  ⟨(some 8), .t (.mv (.t 1)), none⟩,
  ⟨(some 9), .call (.c (.clo 84 [] [])) [(.t 7), (.t 8)], none⟩,
  ⟨(some 6), .t (.mv (.t 9)), none⟩]
def F56o2 : List AOper := [
  ⟨(some 10), .t (.mv (.t 6)), none⟩,
  ⟨(some 11), .t (.imax (.t 10) (.c (.int .i64 0))), none⟩,
  ⟨(some 12), .t (.mv (.t 6)), none⟩,
  ⟨(some 13), .t (.bin .geq (.t 12) (.c (.int .i64 0))), none⟩,
  ⟨(some 4), .t (.mv (.t 11)), none⟩,
  ⟨(some 5), .t (.mv (.t 13)), none⟩]
def F56c : ACode :=
  (.seq (.ops F56o0 [0, 1])
  ((.seq (.ops F56o1 [6])
   ((.seq (.ops F56o2 [4, 5])
    (.ret))))))
def F56 : AFn := ⟨14, [.tmp 4, .tmp 5], F56c⟩
theorem F56_ok : cFn Tryd.prog [] 56 = some F56 := by kernel_rfl

/- manifold/resolve.Route$1 -/
def F57o0 : List AOper := [
  ⟨(some 2), .m (.cbox 56 (.t 0)), none⟩,
  ⟨(some 3), .t (.mv (.c (.bool false))), none⟩]
def F57o1 : List AOper := [
  ⟨(some 4), .t (.faddr 1 (.t 2)), none⟩,
  ⟨(some 5), .m (.load false 1 (.t 4)), none⟩,
  ⟨(some 6), .m (.load false 1 (.t 1)), none⟩,
  ⟨(some 7), .t (.bin .eql (.t 5) (.t 6)), none⟩,
  ⟨(some 3), .t (.mv (.t 7)), none⟩]
def F57c : ACode :=
  (.seq (.ops F57o0 [1, 2])
  ((.seq (.ops F57o1 [3])
   (.ret))))
def F57 : AFn := ⟨8, [.tmp 3], F57c⟩
theorem F57_ok : cFn Tryd.prog [2] 57 = some F57 := by kernel_rfl

/- manifold/resolve.index[manifold/api.Schema] -/
def F58o0 : List AOper := [
  ⟨(some 4), .t (.mv (.c (.int .i64 0))), none⟩,
  ⟨(some 5), .t (.mv (.c (.bool false))), none⟩]
def F58o1 : List AOper := [
  ⟨(some 7), .t (.mv (.t 0)), none⟩,
  ⟨(some 8), .t (.mv (.t 1)), none⟩,
  ⟨(some 9), .call (.c (.clo 85 [] [])) [(.t 7), (.t 8)], none⟩,
  ⟨(some 6), .t (.mv (.t 9)), none⟩]
def F58o2 : List AOper := [
  ⟨(some 10), .t (.mv (.t 6)), none⟩,
  ⟨(some 11), .t (.imax (.t 10) (.c (.int .i64 0))), none⟩,
  ⟨(some 12), .t (.mv (.t 6)), none⟩,
  ⟨(some 13), .t (.bin .geq (.t 12) (.c (.int .i64 0))), none⟩,
  ⟨(some 4), .t (.mv (.t 11)), none⟩,
  ⟨(some 5), .t (.mv (.t 13)), none⟩]
def F58c : ACode :=
  (.seq (.ops F58o0 [0, 1])
  ((.seq (.ops F58o1 [6])
   ((.seq (.ops F58o2 [4, 5])
    (.ret))))))
def F58 : AFn := ⟨14, [.tmp 4, .tmp 5], F58c⟩
theorem F58_ok : cFn Tryd.prog [] 58 = some F58 := by kernel_rfl

/- manifold/resolve.Schema$1 -/
def F59o0 : List AOper := [
  ⟨(some 3), .m (.cbox 100 (.t 0)), none⟩,
  ⟨(some 4), .t (.mv (.c (.bool false))), none⟩]
def F59o1 : List AOper := [
  ⟨(some 5), .t (.faddr 0 (.t 3)), none⟩,
  ⟨(some 6), .m (.load false 1 (.t 5)), none⟩,
  ⟨(some 7), .m (.load false 1 (.t 1)), none⟩,
  ⟨(some 8), .t (.bin .eql (.t 6) (.t 7)), none⟩,
  ⟨(some 9), .t (.mv (.t 8)), none⟩,
  ⟨(some 10), .t (.faddr 1 (.t 3)), (some (9, true))⟩,
  ⟨(some 11), .m (.load false 1 (.t 10)), (some (9, true))⟩,
  ⟨(some 12), .m (.load false 1 (.t 2)), (some (9, true))⟩,
  ⟨(some 13), .t (.bin .eql (.t 11) (.t 12)), (some (9, true))⟩,
  ⟨(some 14), .t (.pick (.t 9) (.t 13) (.c (.bool false))), none⟩,
  ⟨(some 4), .t (.mv (.t 14)), none⟩]
def F59c : ACode :=
  (.seq (.ops F59o0 [1, 2, 3])
  ((.seq (.ops F59o1 [4])
   (.ret))))
def F59 : AFn := ⟨15, [.tmp 4], F59c⟩
theorem F59_ok : cFn Tryd.prog [3] 59 = some F59 := by kernel_rfl

/- manifold/resolve.walk -/
def F68o0 : List AOper := [
  ⟨(some 2), .m (.cbox 44 (.t 0)), none⟩,
  ⟨(some 3), .m (.cbox 3 (.t 1)), none⟩,
  ⟨(some 4), .t (.mv (.c .nils)), none⟩]
def F68o1 : List AOper := [
  ⟨(some 5), .m (.alloc 73 [.nils]), none⟩]
def F68o2 : List AOper := [
  ⟨(some 6), .t (.faddr 4 (.t 2)), none⟩,
  ⟨(some 7), .m (.load false 1 (.t 6)), none⟩,
  ⟨(some 8), .m (.load false 1 (.t 3)), none⟩,
  ⟨(some 9), .t (.iaddr 3 (.t 7) (.t 8)), none⟩,
  ⟨(some 10), .t (.faddr 2 (.t 9)), none⟩,
  ⟨(some 11), .m (.load false 1 (.t 10)), none⟩,
  ⟨(some 12), .t (.clo 92 [] [(.t 5), (.t 3)]), none⟩,
  ⟨(some 13), .call (.c (.clo 75 [] [])) [(.t 11), (.t 12)], none⟩]
def F68o3 : List AOper := [
  ⟨(some 14), .m (.load false 1 (.t 5)), none⟩,
  ⟨(some 4), .t (.mv (.t 14)), none⟩]
def F68c : ACode :=
  (.seq (.ops F68o0 [2, 3])
  ((.seq (.ops F68o1 [2, 3, 5])
   ((.seq (.ops F68o2 [5])
    ((.seq (.ops F68o3 [4])
     (.ret))))))))
def F68 : AFn := ⟨15, [.tmp 4], F68c⟩
theorem F68_ok : cFn Tryd.prog [2, 3] 68 = some F68 := by kernel_rfl

/- manifold/resolve.cloned -/
def F70o0 : List AOper := [
  ⟨(some 1), .m (.box 32 (.t 0)), none⟩,
  ⟨(some 2), .m (.alloc 32 [(.str []), (.int .i64 0), (.int .i64 0), (.int .i64 0), (.int .i64 0), (.str []), (.str []), .nils, .nils, .nils, .nils]), none⟩]
def F70o1 : List AOper := [
  ⟨(some 3), .t (.faddr 7 (.t 1)), none⟩,
  ⟨(some 4), .m (.load false 1 (.t 3)), none⟩,
  ⟨(some 5), .call (.c (.clo 94 [] [])) [(.t 4), (.c (.clo 95 [] []))], none⟩,
  ⟨(some 6), .t (.faddr 7 (.t 1)), none⟩,
  ⟨none, .m (.store 1 (.t 6) (.t 5)), none⟩]
def F70o2 : List AOper := [
  ⟨(some 7), .t (.faddr 8 (.t 1)), none⟩,
  ⟨(some 8), .m (.load true 1 (.t 7)), none⟩,
  ⟨(some 9), .call (.c (.clo 96 [] [])) [(.t 8)], none⟩,
  ⟨(some 10), .t (.faddr 8 (.t 1)), none⟩,
  ⟨none, .m (.store 1 (.t 10) (.t 9)), none⟩]
def F70o3 : List AOper := [
  ⟨(some 11), .t (.faddr 9 (.t 1)), none⟩,
  ⟨(some 12), .m (.load false 1 (.t 11)), none⟩,
  ⟨(some 13), .call (.c (.clo 97 [] [])) [(.t 12), (.c (.clo 98 [] []))], none⟩,
  ⟨(some 14), .t (.faddr 9 (.t 1)), none⟩,
  ⟨none, .m (.store 1 (.t 14) (.t 13)), none⟩]
def F70o4 : List AOper := [
  ⟨(some 15), .t (.faddr 10 (.t 1)), none⟩,
  ⟨(some 16), .m (.load false 1 (.t 15)), none⟩,
  ⟨(some 17), .call (.c (.clo 99 [] [])) [(.t 16), (.c (.clo 100 [] []))], none⟩,
  ⟨(some 18), .t (.faddr 10 (.t 1)), none⟩,
  ⟨none, .m (.store 1 (.t 18) (.t 17)), none⟩]
def F70o5 : List AOper := [
  ⟨(some 19), .m (.load true 11 (.t 1)), none⟩,
  ⟨none, .m (.store 11 (.t 2) (.t 19)), none⟩]
def F70c : ACode :=
  (.seq (.ops F70o0 [1, 2])
  ((.seq (.ops F70o1 [1, 2])
   ((.seq (.ops F70o2 [1, 2])
    ((.seq (.ops F70o3 [1, 2])
     ((.seq (.ops F70o4 [1, 2])
      ((.seq (.ops F70o5 [2])
       (.ret))))))))))))
def F70 : AFn := ⟨20, [.cell 2 true 11], F70c⟩
theorem F70_ok : cFn Tryd.prog [] 70 = some F70 := by kernel_rfl

/- manifold/resolve.each[manifold/api.Step] -/
def F74o0 : List AOper := [
  ⟨(some 4), .t (.mv (.c .nils)), none⟩]
def F74o1 : List AOper := [
  ⟨(some 5), .t (.mv (.c .nils)), none⟩]
def F74o2 : List AOper := [
  ⟨(some 8), .t (.mv (.t 0)), none⟩,
  ⟨(some 9), .t (.len false (.t 8)), none⟩,
  ⟨(some 10), .t (.mv (.c (.int .i64 0))), none⟩]
def F74o3 : List AOper := [
  ⟨(some 11), .t (.bin .lss (.t 10) (.t 9)), none⟩]
def F74o4 : List AOper := [
  ⟨(some 12), .t (.iaddr 11 (.t 8) (.t 10)), none⟩,
  ⟨(some 13), .m (.load true 11 (.t 12)), none⟩,
  ⟨(some 7), .m (.alloc 32 [(.str []), (.int .i64 0), (.int .i64 0), (.int .i64 0), (.int .i64 0), (.str []), (.str []), .nils, .nils, .nils, .nils]), none⟩,
  ⟨none, .m (.store 11 (.t 7) (.t 13)), none⟩]
def F74o5 : List AOper := [
  ⟨(some 14), .t (.mv (.t 5)), none⟩,
  ⟨(some 15), .t (.mv (.t 1)), none⟩,
  ⟨(some 16), .m (.load true 11 (.t 7)), none⟩,
  ⟨(some 17), .call (.t 15) [(.t 16)], none⟩,
  ⟨(some 18), .m (.bslice false 32 11 1 [(.t 17)]), none⟩,
  ⟨(some 19), .m (.append false 32 11 176 (.t 14) (.t 18)), none⟩,
  ⟨(some 5), .t (.mv (.t 19)), none⟩]
def F74o6 : List AOper := [
  ⟨(some 20), .t (.bin .add (.t 10) (.c (.int .i64 1))), none⟩,
  ⟨(some 10), .t (.mv (.t 20)), none⟩]
def F74b7 : ACode :=
  (.seq (.ops F74o3 [1, 5, 8, 9, 10, 11])
  ((.seq (.cond (.t 11)
    (.skip)
    (.exit 0))
   ((.seq (.block 1 ((.seq (.ops F74o4 [1, 5, 7, 8, 9, 10])
     (.ops F74o5 [1, 5, 8, 9, 10]))))
    (.ops F74o6 [1, 5, 8, 9, 10]))))))
def F74o8 : List AOper := [
  ⟨(some 21), .t (.mv (.t 5)), none⟩,
  ⟨(some 4), .t (.mv (.t 21)), none⟩]
def F74c : ACode :=
  (.seq (.ops F74o0 [0, 1])
  ((.seq (.ops F74o1 [0, 1, 5])
   ((.seq ((.seq (.ops F74o2 [1, 5, 8, 9, 10])
    (.block 0 (.loop [1, 5, 8, 9, 10] F74b7))))
    ((.seq (.ops F74o8 [4])
     (.ret))))))))
def F74 : AFn := ⟨22, [.tmp 4], F74c⟩
theorem F74_ok : cFn Tryd.prog [] 74 = some F74 := by kernel_rfl

/- manifold/resolve.visit -/
def F75o0 : List AOper := [
  ⟨(some 3), .m (.box 129 (.t 1)), none⟩]
def F75o1 : List AOper := [
  ⟨(some 4), .m (.alloc 35 [.nils]), none⟩]
def F75o2 : List AOper := [
  ⟨(some 5), .m (.alloc 168 [.nilf]), none⟩]
def F75o3 : List AOper := [
  ⟨(some 6), .t (.clo 102 [] [(.t 4), (.t 3), (.t 5)]), none⟩,
  ⟨none, .m (.store 1 (.t 5) (.t 6)), none⟩]
def F75o4 : List AOper := [
  ⟨(some 7), .m (.load false 1 (.t 5)), none⟩,
  ⟨(some 8), .t (.mv (.t 0)), none⟩,
  ⟨(some 9), .call (.t 7) [(.t 8)], none⟩]
def F75c : ACode :=
  (.seq (.ops F75o0 [0, 3])
  ((.seq (.ops F75o1 [0, 3, 4])
   ((.seq (.ops F75o2 [0, 3, 4, 5])
    ((.seq (.ops F75o3 [0, 5])
     (.ops F75o4 []))))))))
def F75 : AFn := ⟨10, [], F75c⟩
theorem F75_ok : cFn Tryd.prog [] 75 = some F75 := by kernel_rfl

/- slices.IndexFunc[[]manifold/api.Branch,manifold/api.Branch] -/
def F79o0 : List AOper := [
  ⟨(some 4), .t (.mv (.c (.int .i64 0))), none⟩]
def F79o1 : List AOper := [
  ⟨(some 6), .t (.mv (.t 0)), none⟩,
  ⟨(some 7), .t (.len false (.t 6)), none⟩,
  ⟨(some 8), .t (.mv (.c (.int .i64 0))), none⟩]
def F79o2 : List AOper := [
  ⟨(some 9), .t (.bin .lss (.t 8) (.t 7)), none⟩]
def F79o3 : List AOper := [
  ⟨(some 10), .t (.mv (.t 8)), none⟩,
  ⟨(some 5), .t (.mv (.t 10)), none⟩]
def F79o4 : List AOper := [
  ⟨(some 11), .t (.mv (.t 1)), none⟩,
  ⟨(some 12), .t (.mv (.t 0)), none⟩,
  ⟨(some 13), .t (.mv (.t 5)), none⟩,
  ⟨(some 14), .t (.iaddr 2 (.t 12) (.t 13)), none⟩,
  ⟨(some 15), .m (.load true 2 (.t 14)), none⟩,
  ⟨(some 16), .call (.t 11) [(.t 15)], none⟩]
def F79o5 : List AOper := [
  ⟨(some 17), .t (.mv (.t 5)), none⟩,
  ⟨(some 4), .t (.mv (.t 17)), none⟩]
def F79o6 : List AOper := [
  ⟨(some 18), .t (.bin .add (.t 8) (.c (.int .i64 1))), none⟩,
  ⟨(some 8), .t (.mv (.t 18)), none⟩]
def F79b7 : ACode :=
  (.seq (.ops F79o2 [0, 1, 7, 8, 9])
  ((.seq (.cond (.t 9)
    (.skip)
    (.exit 0))
   ((.seq (.block 1 ((.seq (.ops F79o3 [0, 1, 5, 7, 8])
     ((.seq (.ops F79o4 [0, 1, 5, 7, 8, 16])
      (.cond (.t 16)
        ((.seq (.ops F79o5 [4])
         (.ret)))
        (.skip)))))))
    (.ops F79o6 [0, 1, 7, 8]))))))
def F79o8 : List AOper := [
  ⟨(some 4), .t (.mv (.c (.int .i64 (-1)))), none⟩]
def F79c : ACode :=
  (.seq (.ops F79o0 [0, 1])
  ((.seq ((.seq (.ops F79o1 [0, 1, 7, 8])
   (.block 0 (.loop [0, 1, 7, 8] F79b7))))
   ((.seq (.ops F79o8 [4])
    (.ret))))))
def F79 : AFn := ⟨19, [.tmp 4], F79c⟩
theorem F79_ok : cFn Tryd.prog [] 79 = some F79 := by kernel_rfl

/- manifold/manifoldlaw07.ShortValue -/
def F81o0 : List AOper := [
  ⟨(some 2), .m (.box 137 (.t 0)), none⟩,
  ⟨(some 4), .m (.alloc 137 [(.int .i64 0), (.int .i64 0), (.int .i64 0), (.str []), .nils, .nils]), none⟩]
def F81o1 : List AOper := [
  ⟨(some 9), .t (.faddr 3 (.t 2)), none⟩,
  ⟨(some 10), .m (.load false 1 (.t 9)), none⟩,
  ⟨(some 11), .t (.faddr 3 (.t 2)), none⟩,
  ⟨(some 12), .m (.load false 1 (.t 11)), none⟩,
  ⟨(some 13), .t (.len true (.t 12)), none⟩,
  ⟨(some 14), .t (.imin (.t 13) (.c (.int .i64 40))), none⟩,
  ⟨(some 15), .t (.sliceS (.t 10) none (some (.t 14))), none⟩,
  ⟨(some 16), .t (.faddr 3 (.t 2)), none⟩,
  ⟨none, .m (.store 1 (.t 16) (.t 15)), none⟩]
def F81o2 : List AOper := [
  ⟨(some 5), .t (.mv (.c .nils)), none⟩]
def F81o3 : List AOper := [
  ⟨(some 6), .t (.mv (.c .nils)), none⟩]
def F81o4 : List AOper := [
  ⟨(some 7), .t (.mv (.c (.int .i64 0))), none⟩]
def F81o5 : List AOper := [
  ⟨(some 17), .t (.mv (.t 7)), none⟩,
  ⟨(some 18), .t (.faddr 4 (.t 2)), none⟩,
  ⟨(some 19), .m (.load false 1 (.t 18)), none⟩,
  ⟨(some 20), .t (.len false (.t 19)), none⟩,
  ⟨(some 21), .t (.bin .lss (.t 17) (.t 20)), none⟩,
  ⟨(some 22), .t (.mv (.t 21)), none⟩,
  ⟨(some 23), .t (.mv (.t 7)), (some (22, true))⟩,
  ⟨(some 24), .t (.bin .lss (.t 23) (.c (.int .i64 6))), (some (22, true))⟩,
  ⟨(some 25), .t (.pick (.t 22) (.t 24) (.c (.bool false))), none⟩,
  ⟨(some 26), .t (.mv (.t 25)), none⟩,
  ⟨(some 27), .t (.mv (.t 1)), (some (26, true))⟩,
  ⟨(some 28), .t (.bin .gtr (.t 27) (.c (.int .i64 1))), (some (26, true))⟩,
  ⟨(some 29), .t (.pick (.t 26) (.t 28) (.c (.bool false))), none⟩]
def F81o6 : List AOper := [
  ⟨(some 32), .t (.mv (.t 5)), none⟩,
  ⟨(some 33), .t (.faddr 4 (.t 2)), none⟩,
  ⟨(some 34), .m (.load false 1 (.t 33)), none⟩,
  ⟨(some 35), .t (.mv (.t 7)), none⟩,
  ⟨(some 36), .t (.iaddr 6 (.t 34) (.t 35)), none⟩,
  ⟨(some 37), .m (.load true 6 (.t 36)), none⟩,
  ⟨(some 38), .t (.mv (.t 1)), none⟩,
  ⟨(some 39), .t (.bin .sub (.t 38) (.c (.int .i64 1))), none⟩,
  ⟨(some 40), .call (.c (.clo 81 [] [])) [(.t 37), (.t 39)], none⟩,
  ⟨(some 41), .m (.bslice false 137 6 1 [(.t 40)]), none⟩,
  ⟨(some 42), .m (.append false 137 6 88 (.t 32) (.t 41)), none⟩,
  ⟨(some 5), .t (.mv (.t 42)), none⟩]
def F81o7 : List AOper := [
  ⟨(some 30), .t (.mv (.t 7)), none⟩,
  ⟨(some 31), .t (.bin .add (.t 30) (.c (.int .i64 1))), none⟩,
  ⟨(some 7), .t (.mv (.t 31)), none⟩]
def F81b8 : ACode :=
  (.seq ((.seq (.ops F81o5 [1, 2, 4, 5, 6, 7, 29])
  (.cond (.t 29)
    (.skip)
    (.exit 0))))
  ((.seq (.block 1 (.ops F81o6 [1, 2, 4, 5, 6, 7]))
   (.ops F81o7 [1, 2, 4, 5, 6, 7]))))
def F81o9 : List AOper := [
  ⟨(some 8), .t (.mv (.c (.int .i64 0))), none⟩]
def F81o10 : List AOper := [
  ⟨(some 43), .t (.mv (.t 8)), none⟩,
  ⟨(some 44), .t (.faddr 5 (.t 2)), none⟩,
  ⟨(some 45), .m (.load false 1 (.t 44)), none⟩,
  ⟨(some 46), .t (.len false (.t 45)), none⟩,
  ⟨(some 47), .t (.bin .lss (.t 43) (.t 46)), none⟩,
  ⟨(some 48), .t (.mv (.t 47)), none⟩,
  ⟨(some 49), .t (.mv (.t 8)), (some (48, true))⟩,
  ⟨(some 50), .t (.bin .lss (.t 49) (.c (.int .i64 6))), (some (48, true))⟩,
  ⟨(some 51), .t (.pick (.t 48) (.t 50) (.c (.bool false))), none⟩,
  ⟨(some 52), .t (.mv (.t 51)), none⟩,
  ⟨(some 53), .t (.mv (.t 1)), (some (52, true))⟩,
  ⟨(some 54), .t (.bin .gtr (.t 53) (.c (.int .i64 1))), (some (52, true))⟩,
  ⟨(some 55), .t (.pick (.t 52) (.t 54) (.c (.bool false))), none⟩]
def F81o11 : List AOper := [
  ⟨(some 58), .t (.mv (.t 6)), none⟩,
  ⟨(some 59), .t (.faddr 5 (.t 2)), none⟩,
  ⟨(some 60), .m (.load false 1 (.t 59)), none⟩,
  ⟨(some 61), .t (.mv (.t 8)), none⟩,
  ⟨(some 62), .t (.iaddr 7 (.t 60) (.t 61)), none⟩,
  ⟨(some 63), .t (.faddr 0 (.t 62)), none⟩,
  ⟨(some 64), .m (.load false 1 (.t 63)), none⟩,
  ⟨(some 65), .t (.faddr 5 (.t 2)), none⟩,
  ⟨(some 66), .m (.load false 1 (.t 65)), none⟩,
  ⟨(some 67), .t (.mv (.t 8)), none⟩,
  ⟨(some 68), .t (.iaddr 7 (.t 66) (.t 67)), none⟩,
  ⟨(some 69), .t (.faddr 0 (.t 68)), none⟩,
  ⟨(some 70), .m (.load false 1 (.t 69)), none⟩,
  ⟨(some 71), .t (.len true (.t 70)), none⟩,
  ⟨(some 72), .t (.imin (.t 71) (.c (.int .i64 40))), none⟩,
  ⟨(some 73), .t (.sliceS (.t 64) none (some (.t 72))), none⟩,
  ⟨(some 74), .t (.faddr 5 (.t 2)), none⟩,
  ⟨(some 75), .m (.load false 1 (.t 74)), none⟩,
  ⟨(some 76), .t (.mv (.t 8)), none⟩,
  ⟨(some 77), .t (.iaddr 7 (.t 75) (.t 76)), none⟩,
  ⟨(some 78), .t (.faddr 1 (.t 77)), none⟩,
  ⟨(some 79), .m (.load true 6 (.t 78)), none⟩,
  ⟨(some 80), .t (.mv (.t 1)), none⟩,
  ⟨(some 81), .t (.bin .sub (.t 80) (.c (.int .i64 1))), none⟩,
  ⟨(some 82), .call (.c (.clo 81 [] [])) [(.t 79), (.t 81)], none⟩,
  ⟨(some 83), .t (.build [(.str []), (.int .i64 0), (.int .i64 0), (.int .i64 0), (.str []), .nils, .nils] [(0, 1, (.t 73)), (1, 6, (.t 82))]), none⟩,
  ⟨(some 84), .m (.bslice false 170 7 1 [(.t 83)]), none⟩]
def F81p11 : List AOper := [
  ⟨(some 85), .m (.append false 170 7 104 (.t 58) (.t 84)), none⟩,
  ⟨(some 6), .t (.mv (.t 85)), none⟩]
def F81A11 : List (List Nat) := [[], [], [1], [], [2, 3, 1], [4, 2, 3, 1], [5, 4, 2, 3, 1], [], [7], [], [8, 9, 7], [10, 8, 9, 7], [11, 10, 8, 9, 7], [12, 11, 10, 8, 9, 7], [13, 12, 11, 10, 8, 9, 7], [6, 14, 5, 4, 2, 3, 1, 13, 12, 11, 10, 8, 9, 7], [], [16], [], [17, 18, 16], [19, 17, 18, 16], [20, 19, 17, 18, 16], [], [22], [21, 23, 20, 19, 17, 18, 16, 22], [15, 24, 6, 14, 5, 4, 2, 3, 1, 13, 12, 11, 10, 8, 9, 7, 21, 23, 20, 19, 17, 18, 16, 22], [25, 15, 24, 6, 14, 5, 4, 2, 3, 1, 13, 12, 11, 10, 8, 9, 7, 21, 23, 20, 19, 17, 18, 16, 22], [0, 26, 25, 15, 24, 6, 14, 5, 4, 2, 3, 1, 13, 12, 11, 10, 8, 9, 7, 21, 23, 20, 19, 17, 18, 16, 22], [27, 0, 26, 25, 15, 24, 6, 14, 5, 4, 2, 3, 1, 13, 12, 11, 10, 8, 9, 7, 21, 23, 20, 19, 17, 18, 16, 22]]
def F81o12 : List AOper := [
  ⟨(some 56), .t (.mv (.t 8)), none⟩,
  ⟨(some 57), .t (.bin .add (.t 56) (.c (.int .i64 1))), none⟩,
  ⟨(some 8), .t (.mv (.t 57)), none⟩]
def F81b13 : ACode :=
  (.seq ((.seq (.ops F81o10 [1, 2, 4, 5, 6, 8, 55])
  (.cond (.t 55)
    (.skip)
    (.exit 2))))
  ((.seq (.block 3 (.draw F81A11 F81o11 F81p11 [1, 2, 4, 5, 6, 8]))
   (.ops F81o12 [1, 2, 4, 5, 6, 8]))))
def F81o14 : List AOper := [
  ⟨(some 86), .t (.mv (.t 5)), none⟩,
  ⟨(some 87), .t (.mv (.t 6)), none⟩,
  ⟨(some 88), .t (.faddr 4 (.t 2)), none⟩,
  ⟨none, .m (.store 1 (.t 88) (.t 86)), none⟩,
  ⟨(some 89), .t (.faddr 5 (.t 2)), none⟩,
  ⟨none, .m (.store 1 (.t 89) (.t 87)), none⟩]
def F81o15 : List AOper := [
  ⟨(some 90), .m (.load true 6 (.t 2)), none⟩,
  ⟨none, .m (.store 6 (.t 4) (.t 90)), none⟩]
def F81c : ACode :=
  (.seq (.ops F81o0 [1, 2, 4])
  ((.seq (.ops F81o1 [1, 2, 4])
   ((.seq (.ops F81o2 [1, 2, 4, 5])
    ((.seq (.ops F81o3 [1, 2, 4, 5, 6])
     ((.seq ((.seq (.ops F81o4 [1, 2, 4, 5, 6, 7])
      (.block 0 (.loop [1, 2, 4, 5, 6, 7] F81b8))))
      ((.seq ((.seq (.ops F81o9 [1, 2, 4, 5, 6, 8])
       (.block 2 (.loop [1, 2, 4, 5, 6, 8] F81b13))))
       ((.seq (.ops F81o14 [2, 4])
        ((.seq (.ops F81o15 [4])
         (.ret))))))))))))))))
def F81 : AFn := ⟨91, [.cell 4 true 6], F81c⟩
theorem F81_ok : cFn Tryd.prog [] 81 = some F81 := by kernel_rfl

/- slices.IndexFunc[[]manifold/api.Endpoint,manifold/api.Endpoint] -/
def F82o0 : List AOper := [
  ⟨(some 4), .t (.mv (.c (.int .i64 0))), none⟩]
def F82o1 : List AOper := [
  ⟨(some 6), .t (.mv (.t 0)), none⟩,
  ⟨(some 7), .t (.len false (.t 6)), none⟩,
  ⟨(some 8), .t (.mv (.c (.int .i64 0))), none⟩]
def F82o2 : List AOper := [
  ⟨(some 9), .t (.bin .lss (.t 8) (.t 7)), none⟩]
def F82o3 : List AOper := [
  ⟨(some 10), .t (.mv (.t 8)), none⟩,
  ⟨(some 5), .t (.mv (.t 10)), none⟩]
def F82o4 : List AOper := [
  ⟨(some 11), .t (.mv (.t 1)), none⟩,
  ⟨(some 12), .t (.mv (.t 0)), none⟩,
  ⟨(some 13), .t (.mv (.t 5)), none⟩,
  ⟨(some 14), .t (.iaddr 7 (.t 12) (.t 13)), none⟩,
  ⟨(some 15), .m (.load true 7 (.t 14)), none⟩,
  ⟨(some 16), .call (.t 11) [(.t 15)], none⟩]
def F82o5 : List AOper := [
  ⟨(some 17), .t (.mv (.t 5)), none⟩,
  ⟨(some 4), .t (.mv (.t 17)), none⟩]
def F82o6 : List AOper := [
  ⟨(some 18), .t (.bin .add (.t 8) (.c (.int .i64 1))), none⟩,
  ⟨(some 8), .t (.mv (.t 18)), none⟩]
def F82b7 : ACode :=
  (.seq (.ops F82o2 [0, 1, 7, 8, 9])
  ((.seq (.cond (.t 9)
    (.skip)
    (.exit 0))
   ((.seq (.block 1 ((.seq (.ops F82o3 [0, 1, 5, 7, 8])
     ((.seq (.ops F82o4 [0, 1, 5, 7, 8, 16])
      (.cond (.t 16)
        ((.seq (.ops F82o5 [4])
         (.ret)))
        (.skip)))))))
    (.ops F82o6 [0, 1, 7, 8]))))))
def F82o8 : List AOper := [
  ⟨(some 4), .t (.mv (.c (.int .i64 (-1)))), none⟩]
def F82c : ACode :=
  (.seq (.ops F82o0 [0, 1])
  ((.seq ((.seq (.ops F82o1 [0, 1, 7, 8])
   (.block 0 (.loop [0, 1, 7, 8] F82b7))))
   ((.seq (.ops F82o8 [4])
    (.ret))))))
def F82 : AFn := ⟨19, [.tmp 4], F82c⟩
theorem F82_ok : cFn Tryd.prog [] 82 = some F82 := by kernel_rfl

/- slices.IndexFunc[[]manifold/api.Service,manifold/api.Service] -/
def F83o0 : List AOper := [
  ⟨(some 4), .t (.mv (.c (.int .i64 0))), none⟩]
def F83o1 : List AOper := [
  ⟨(some 6), .t (.mv (.t 0)), none⟩,
  ⟨(some 7), .t (.len false (.t 6)), none⟩,
  ⟨(some 8), .t (.mv (.c (.int .i64 0))), none⟩]
def F83o2 : List AOper := [
  ⟨(some 9), .t (.bin .lss (.t 8) (.t 7)), none⟩]
def F83o3 : List AOper := [
  ⟨(some 10), .t (.mv (.t 8)), none⟩,
  ⟨(some 5), .t (.mv (.t 10)), none⟩]
def F83o4 : List AOper := [
  ⟨(some 11), .t (.mv (.t 1)), none⟩,
  ⟨(some 12), .t (.mv (.t 0)), none⟩,
  ⟨(some 13), .t (.mv (.t 5)), none⟩,
  ⟨(some 14), .t (.iaddr 4 (.t 12) (.t 13)), none⟩,
  ⟨(some 15), .m (.load true 4 (.t 14)), none⟩,
  ⟨(some 16), .call (.t 11) [(.t 15)], none⟩]
def F83o5 : List AOper := [
  ⟨(some 17), .t (.mv (.t 5)), none⟩,
  ⟨(some 4), .t (.mv (.t 17)), none⟩]
def F83o6 : List AOper := [
  ⟨(some 18), .t (.bin .add (.t 8) (.c (.int .i64 1))), none⟩,
  ⟨(some 8), .t (.mv (.t 18)), none⟩]
def F83b7 : ACode :=
  (.seq (.ops F83o2 [0, 1, 7, 8, 9])
  ((.seq (.cond (.t 9)
    (.skip)
    (.exit 0))
   ((.seq (.block 1 ((.seq (.ops F83o3 [0, 1, 5, 7, 8])
     ((.seq (.ops F83o4 [0, 1, 5, 7, 8, 16])
      (.cond (.t 16)
        ((.seq (.ops F83o5 [4])
         (.ret)))
        (.skip)))))))
    (.ops F83o6 [0, 1, 7, 8]))))))
def F83o8 : List AOper := [
  ⟨(some 4), .t (.mv (.c (.int .i64 (-1)))), none⟩]
def F83c : ACode :=
  (.seq (.ops F83o0 [0, 1])
  ((.seq ((.seq (.ops F83o1 [0, 1, 7, 8])
   (.block 0 (.loop [0, 1, 7, 8] F83b7))))
   ((.seq (.ops F83o8 [4])
    (.ret))))))
def F83 : AFn := ⟨19, [.tmp 4], F83c⟩
theorem F83_ok : cFn Tryd.prog [] 83 = some F83 := by kernel_rfl

/- slices.IndexFunc[[]manifold/api.Route,manifold/api.Route] -/
def F84o0 : List AOper := [
  ⟨(some 4), .t (.mv (.c (.int .i64 0))), none⟩]
def F84o1 : List AOper := [
  ⟨(some 6), .t (.mv (.t 0)), none⟩,
  ⟨(some 7), .t (.len false (.t 6)), none⟩,
  ⟨(some 8), .t (.mv (.c (.int .i64 0))), none⟩]
def F84o2 : List AOper := [
  ⟨(some 9), .t (.bin .lss (.t 8) (.t 7)), none⟩]
def F84o3 : List AOper := [
  ⟨(some 10), .t (.mv (.t 8)), none⟩,
  ⟨(some 5), .t (.mv (.t 10)), none⟩]
def F84o4 : List AOper := [
  ⟨(some 11), .t (.mv (.t 1)), none⟩,
  ⟨(some 12), .t (.mv (.t 0)), none⟩,
  ⟨(some 13), .t (.mv (.t 5)), none⟩,
  ⟨(some 14), .t (.iaddr 3 (.t 12) (.t 13)), none⟩,
  ⟨(some 15), .m (.load true 3 (.t 14)), none⟩,
  ⟨(some 16), .call (.t 11) [(.t 15)], none⟩]
def F84o5 : List AOper := [
  ⟨(some 17), .t (.mv (.t 5)), none⟩,
  ⟨(some 4), .t (.mv (.t 17)), none⟩]
def F84o6 : List AOper := [
  ⟨(some 18), .t (.bin .add (.t 8) (.c (.int .i64 1))), none⟩,
  ⟨(some 8), .t (.mv (.t 18)), none⟩]
def F84b7 : ACode :=
  (.seq (.ops F84o2 [0, 1, 7, 8, 9])
  ((.seq (.cond (.t 9)
    (.skip)
    (.exit 0))
   ((.seq (.block 1 ((.seq (.ops F84o3 [0, 1, 5, 7, 8])
     ((.seq (.ops F84o4 [0, 1, 5, 7, 8, 16])
      (.cond (.t 16)
        ((.seq (.ops F84o5 [4])
         (.ret)))
        (.skip)))))))
    (.ops F84o6 [0, 1, 7, 8]))))))
def F84o8 : List AOper := [
  ⟨(some 4), .t (.mv (.c (.int .i64 (-1)))), none⟩]
def F84c : ACode :=
  (.seq (.ops F84o0 [0, 1])
  ((.seq ((.seq (.ops F84o1 [0, 1, 7, 8])
   (.block 0 (.loop [0, 1, 7, 8] F84b7))))
   ((.seq (.ops F84o8 [4])
    (.ret))))))
def F84 : AFn := ⟨19, [.tmp 4], F84c⟩
theorem F84_ok : cFn Tryd.prog [] 84 = some F84 := by kernel_rfl

/- slices.IndexFunc[[]manifold/api.Schema,manifold/api.Schema] -/
def F85o0 : List AOper := [
  ⟨(some 4), .t (.mv (.c (.int .i64 0))), none⟩]
def F85o1 : List AOper := [
  ⟨(some 6), .t (.mv (.t 0)), none⟩,
  ⟨(some 7), .t (.len false (.t 6)), none⟩,
  ⟨(some 8), .t (.mv (.c (.int .i64 0))), none⟩]
def F85o2 : List AOper := [
  ⟨(some 9), .t (.bin .lss (.t 8) (.t 7)), none⟩]
def F85o3 : List AOper := [
  ⟨(some 10), .t (.mv (.t 8)), none⟩,
  ⟨(some 5), .t (.mv (.t 10)), none⟩]
def F85o4 : List AOper := [
  ⟨(some 11), .t (.mv (.t 1)), none⟩,
  ⟨(some 12), .t (.mv (.t 0)), none⟩,
  ⟨(some 13), .t (.mv (.t 5)), none⟩,
  ⟨(some 14), .t (.iaddr 9 (.t 12) (.t 13)), none⟩,
  ⟨(some 15), .m (.load true 9 (.t 14)), none⟩,
  ⟨(some 16), .call (.t 11) [(.t 15)], none⟩]
def F85o5 : List AOper := [
  ⟨(some 17), .t (.mv (.t 5)), none⟩,
  ⟨(some 4), .t (.mv (.t 17)), none⟩]
def F85o6 : List AOper := [
  ⟨(some 18), .t (.bin .add (.t 8) (.c (.int .i64 1))), none⟩,
  ⟨(some 8), .t (.mv (.t 18)), none⟩]
def F85b7 : ACode :=
  (.seq (.ops F85o2 [0, 1, 7, 8, 9])
  ((.seq (.cond (.t 9)
    (.skip)
    (.exit 0))
   ((.seq (.block 1 ((.seq (.ops F85o3 [0, 1, 5, 7, 8])
     ((.seq (.ops F85o4 [0, 1, 5, 7, 8, 16])
      (.cond (.t 16)
        ((.seq (.ops F85o5 [4])
         (.ret)))
        (.skip)))))))
    (.ops F85o6 [0, 1, 7, 8]))))))
def F85o8 : List AOper := [
  ⟨(some 4), .t (.mv (.c (.int .i64 (-1)))), none⟩]
def F85c : ACode :=
  (.seq (.ops F85o0 [0, 1])
  ((.seq ((.seq (.ops F85o1 [0, 1, 7, 8])
   (.block 0 (.loop [0, 1, 7, 8] F85b7))))
   ((.seq (.ops F85o8 [4])
    (.ret))))))
def F85 : AFn := ⟨19, [.tmp 4], F85c⟩
theorem F85_ok : cFn Tryd.prog [] 85 = some F85 := by kernel_rfl

/- manifold/resolve.walk$1 -/
def F92o0 : List AOper := [
  ⟨(some 6), .m (.load false 1 (.t 2)), none⟩,
  ⟨(some 7), .m (.load false 1 (.t 3)), none⟩,
  ⟨(some 8), .t (.mv (.t 0)), none⟩,
  ⟨(some 9), .call (.c (.clo 93 [] [])) [(.t 8)], none⟩,
  ⟨(some 10), .t (.mv (.t 1)), none⟩,
  ⟨(some 11), .t (.nilck (.t 10)), none⟩,
  ⟨(some 12), .m (.load true 11 (.t 11)), none⟩,
  ⟨(some 13), .call (.c (.clo 70 [] [])) [(.t 12)], none⟩,
  ⟨(some 14), .t (.build [(.int .i64 0), .nils, (.str []), (.int .i64 0), (.int .i64 0), (.int .i64 0), (.int .i64 0), (.str []), (.str []), .nils, .nils, .nils, .nils] [(0, 1, (.t 7)), (1, 1, (.t 9)), (2, 11, (.t 13))]), none⟩,
  ⟨(some 15), .m (.bslice false 79 13 1 [(.t 14)]), none⟩]
def F92p0 : List AOper := [
  ⟨(some 16), .m (.append false 79 13 208 (.t 6) (.t 15)), none⟩,
  ⟨none, .m (.store 1 (.t 2) (.t 16)), none⟩]
def F92A0 : List (List Nat) := [[], [], [], [2], [], [4], [5, 4], [6, 3, 5, 4, 2], [1, 7, 6, 3, 5, 4, 2], [8, 1, 7, 6, 3, 5, 4, 2], [0, 9, 8, 1, 7, 6, 3, 5, 4, 2], [10, 0, 9, 8, 1, 7, 6, 3, 5, 4, 2]]
def F92c : ACode :=
  .draw F92A0 F92o0 F92p0 []
def F92 : AFn := ⟨17, [], F92c⟩
theorem F92_ok : cFn Tryd.prog [] 92 = some F92 := by kernel_rfl

/- slices.Clone[[]int,int] -/
def F93o0 : List AOper := [
  ⟨(some 2), .t (.mv (.c .nils)), none⟩]
def F93o1 : List AOper := [
  ⟨(some 3), .t (.mv (.t 0)), none⟩,
  ⟨(some 4), .t (.beq 2 false (.t 3) (.c .nils)), none⟩]
def F93o2 : List AOper := [
  ⟨(some 2), .t (.mv (.c .nils)), none⟩]
def F93o3 : List AOper := [
  ⟨(some 5), .m (.bslice false 3 1 0 []), none⟩,
  ⟨(some 6), .t (.mv (.t 0)), none⟩,
  ⟨(some 7), .m (.append false 3 1 8 (.t 5) (.t 6)), none⟩,
  ⟨(some 2), .t (.mv (.t 7)), none⟩]
def F93c : ACode :=
  (.seq (.ops F93o0 [0])
  ((.seq ((.seq (.ops F93o1 [0, 4])
   (.cond (.t 4)
     ((.seq (.ops F93o2 [2])
      (.ret)))
     (.skip))))
   ((.seq (.ops F93o3 [2])
    (.ret))))))
def F93 : AFn := ⟨8, [.tmp 2], F93c⟩
theorem F93_ok : cFn Tryd.prog [] 93 = some F93 := by kernel_rfl

/- manifold/resolve.each[manifold/api.Expr] -/
def F94o0 : List AOper := [
  ⟨(some 4), .t (.mv (.c .nils)), none⟩]
def F94o1 : List AOper := [
  ⟨(some 5), .t (.mv (.c .nils)), none⟩]
def F94o2 : List AOper := [
  ⟨(some 8), .t (.mv (.t 0)), none⟩,
  ⟨(some 9), .t (.len false (.t 8)), none⟩,
  ⟨(some 10), .t (.mv (.c (.int .i64 0))), none⟩]
def F94o3 : List AOper := [
  ⟨(some 11), .t (.bin .lss (.t 10) (.t 9)), none⟩]
def F94o4 : List AOper := [
  ⟨(some 12), .t (.iaddr 5 (.t 8) (.t 10)), none⟩,
  ⟨(some 13), .m (.load true 5 (.t 12)), none⟩,
  ⟨(some 7), .m (.alloc 158 [(.int .i64 0), (.int .i64 0), (.str []), .nils, .nils]), none⟩,
  ⟨none, .m (.store 5 (.t 7) (.t 13)), none⟩]
def F94o5 : List AOper := [
  ⟨(some 14), .t (.mv (.t 5)), none⟩,
  ⟨(some 15), .t (.mv (.t 1)), none⟩,
  ⟨(some 16), .m (.load true 5 (.t 7)), none⟩,
  ⟨(some 17), .call (.t 15) [(.t 16)], none⟩,
  ⟨(some 18), .m (.bslice false 158 5 1 [(.t 17)]), none⟩,
  ⟨(some 19), .m (.append false 158 5 80 (.t 14) (.t 18)), none⟩,
  ⟨(some 5), .t (.mv (.t 19)), none⟩]
def F94o6 : List AOper := [
  ⟨(some 20), .t (.bin .add (.t 10) (.c (.int .i64 1))), none⟩,
  ⟨(some 10), .t (.mv (.t 20)), none⟩]
def F94b7 : ACode :=
  (.seq (.ops F94o3 [1, 5, 8, 9, 10, 11])
  ((.seq (.cond (.t 11)
    (.skip)
    (.exit 0))
   ((.seq (.block 1 ((.seq (.ops F94o4 [1, 5, 7, 8, 9, 10])
     (.ops F94o5 [1, 5, 8, 9, 10]))))
    (.ops F94o6 [1, 5, 8, 9, 10]))))))
def F94o8 : List AOper := [
  ⟨(some 21), .t (.mv (.t 5)), none⟩,
  ⟨(some 4), .t (.mv (.t 21)), none⟩]
def F94c : ACode :=
  (.seq (.ops F94o0 [0, 1])
  ((.seq (.ops F94o1 [0, 1, 5])
   ((.seq ((.seq (.ops F94o2 [1, 5, 8, 9, 10])
    (.block 0 (.loop [1, 5, 8, 9, 10] F94b7))))
    ((.seq (.ops F94o8 [4])
     (.ret))))))))
def F94 : AFn := ⟨22, [.tmp 4], F94c⟩
theorem F94_ok : cFn Tryd.prog [] 94 = some F94 := by kernel_rfl

/- manifold/expr.Clone -/
def F95o0 : List AOper := [
  ⟨(some 1), .m (.cbox 158 (.t 0)), none⟩,
  ⟨(some 2), .m (.alloc 158 [(.int .i64 0), (.int .i64 0), (.str []), .nils, .nils]), none⟩]
def F95o1 : List AOper := [
  ⟨(some 8), .t (.faddr 0 (.t 1)), none⟩,
  ⟨(some 9), .m (.load false 1 (.t 8)), none⟩,
  ⟨(some 10), .t (.faddr 1 (.t 1)), none⟩,
  ⟨(some 11), .m (.load false 1 (.t 10)), none⟩,
  ⟨(some 12), .t (.faddr 2 (.t 1)), none⟩,
  ⟨(some 13), .m (.load false 1 (.t 12)), none⟩,
  ⟨(some 14), .t (.build [(.int .i64 0), (.int .i64 0), (.str []), .nils, .nils] [(0, 1, (.t 9)), (1, 1, (.t 11)), (2, 1, (.t 13))]), none⟩,
  ⟨(some 3), .m (.alloc 158 [(.int .i64 0), (.int .i64 0), (.str []), .nils, .nils]), none⟩,
  ⟨none, .m (.store 5 (.t 3) (.t 14)), none⟩]
def F95o2 : List AOper := [
  ⟨(some 15), .t (.faddr 3 (.t 1)), none⟩,
  ⟨(some 16), .m (.load false 1 (.t 15)), none⟩,
  ⟨(some 17), .t (.len false (.t 16)), none⟩,
  ⟨(some 18), .t (.mv (.c (.int .i64 0))), none⟩]
def F95o3 : List AOper := [
  ⟨(some 19), .t (.bin .lss (.t 18) (.t 17)), none⟩]
def F95o4 : List AOper := [
  ⟨(some 20), .t (.iaddr 6 (.t 16) (.t 18)), none⟩,
  ⟨(some 21), .m (.load true 6 (.t 20)), none⟩,
  ⟨(some 5), .m (.alloc 137 [(.int .i64 0), (.int .i64 0), (.int .i64 0), (.str []), .nils, .nils]), none⟩,
  ⟨none, .m (.store 6 (.t 5) (.t 21)), none⟩]
def F95o5 : List AOper := [
  ⟨(some 22), .t (.faddr 3 (.t 3)), none⟩,
  ⟨(some 23), .m (.load false 1 (.t 22)), none⟩,
  ⟨(some 24), .m (.load true 6 (.t 5)), none⟩,
  ⟨(some 25), .call (.c (.clo 107 [] [])) [(.t 24)], none⟩,
  ⟨(some 26), .m (.bslice false 137 6 1 [(.t 25)]), none⟩]
def F95p5 : List AOper := [
  ⟨(some 27), .m (.append false 137 6 88 (.t 23) (.t 26)), none⟩,
  ⟨(some 28), .t (.faddr 3 (.t 3)), none⟩,
  ⟨none, .m (.store 1 (.t 28) (.t 27)), none⟩]
def F95A5 : List (List Nat) := [[], [0], [], [2], [3, 2], [1, 4, 0, 3, 2], [5, 1, 4, 0, 3, 2], [6, 5, 1, 4, 0, 3, 2]]
def F95o6 : List AOper := [
  ⟨(some 29), .t (.bin .add (.t 18) (.c (.int .i64 1))), none⟩,
  ⟨(some 18), .t (.mv (.t 29)), none⟩]
def F95b7 : ACode :=
  (.seq (.ops F95o3 [1, 2, 3, 16, 17, 18, 19])
  ((.seq (.cond (.t 19)
    (.skip)
    (.exit 0))
   ((.seq (.block 1 ((.seq (.ops F95o4 [1, 2, 3, 5, 16, 17, 18])
     (.draw F95A5 F95o5 F95p5 [1, 2, 3, 16, 17, 18]))))
    (.ops F95o6 [1, 2, 3, 16, 17, 18]))))))
def F95o8 : List AOper := [
  ⟨(some 30), .t (.faddr 4 (.t 1)), none⟩,
  ⟨(some 31), .m (.load false 1 (.t 30)), none⟩,
  ⟨(some 32), .t (.len false (.t 31)), none⟩,
  ⟨(some 33), .t (.mv (.c (.int .i64 0))), none⟩]
def F95o9 : List AOper := [
  ⟨(some 34), .t (.bin .lss (.t 33) (.t 32)), none⟩]
def F95o10 : List AOper := [
  ⟨(some 35), .t (.iaddr 5 (.t 31) (.t 33)), none⟩,
  ⟨(some 36), .m (.load true 5 (.t 35)), none⟩,
  ⟨(some 7), .m (.alloc 158 [(.int .i64 0), (.int .i64 0), (.str []), .nils, .nils]), none⟩,
  ⟨none, .m (.store 5 (.t 7) (.t 36)), none⟩]
def F95o11 : List AOper := [
  ⟨(some 37), .t (.faddr 4 (.t 3)), none⟩,
  ⟨(some 38), .m (.load false 1 (.t 37)), none⟩,
  ⟨(some 39), .m (.load true 5 (.t 7)), none⟩,
  ⟨(some 40), .call (.c (.clo 95 [] [])) [(.t 39)], none⟩,
  ⟨(some 41), .m (.bslice false 158 5 1 [(.t 40)]), none⟩]
def F95p11 : List AOper := [
  ⟨(some 42), .m (.append false 158 5 80 (.t 38) (.t 41)), none⟩,
  ⟨(some 43), .t (.faddr 4 (.t 3)), none⟩,
  ⟨none, .m (.store 1 (.t 43) (.t 42)), none⟩]
def F95A11 : List (List Nat) := [[], [0], [], [2], [3, 2], [1, 4, 0, 3, 2], [5, 1, 4, 0, 3, 2], [6, 5, 1, 4, 0, 3, 2]]
def F95o12 : List AOper := [
  ⟨(some 44), .t (.bin .add (.t 33) (.c (.int .i64 1))), none⟩,
  ⟨(some 33), .t (.mv (.t 44)), none⟩]
def F95b13 : ACode :=
  (.seq (.ops F95o9 [2, 3, 31, 32, 33, 34])
  ((.seq (.cond (.t 34)
    (.skip)
    (.exit 2))
   ((.seq (.block 3 ((.seq (.ops F95o10 [2, 3, 7, 31, 32, 33])
     (.draw F95A11 F95o11 F95p11 [2, 3, 31, 32, 33]))))
    (.ops F95o12 [2, 3, 31, 32, 33]))))))
def F95o14 : List AOper := [
  ⟨(some 45), .m (.load true 5 (.t 3)), none⟩,
  ⟨none, .m (.store 5 (.t 2) (.t 45)), none⟩]
def F95c : ACode :=
  (.seq (.ops F95o0 [1, 2])
  ((.seq (.ops F95o1 [1, 2, 3])
   ((.seq ((.seq (.ops F95o2 [1, 2, 3, 16, 17, 18])
    (.block 0 (.loop [1, 2, 3, 16, 17, 18] F95b7))))
    ((.seq ((.seq (.ops F95o8 [2, 3, 31, 32, 33])
     (.block 2 (.loop [2, 3, 31, 32, 33] F95b13))))
     ((.seq (.ops F95o14 [2])
      (.ret))))))))))
def F95 : AFn := ⟨46, [.cell 2 true 5], F95c⟩
theorem F95_ok : cFn Tryd.prog [1] 95 = some F95 := by kernel_rfl

/- manifold/mapping.Clone -/
def F96o0 : List AOper := [
  ⟨(some 1), .m (.cbox 28 (.t 0)), none⟩,
  ⟨(some 2), .m (.alloc 28 [.nils]), none⟩]
def F96o1 : List AOper := [
  ⟨(some 6), .t (.faddr 0 (.t 1)), none⟩,
  ⟨(some 7), .m (.load false 1 (.t 6)), none⟩,
  ⟨(some 8), .t (.len false (.t 7)), none⟩,
  ⟨(some 9), .m (.mk false 167 6 96 [(.str []), (.int .i64 0), (.int .i64 0), (.str []), .nils, .nils] (.c (.int .i64 0)) (.t 8)), none⟩,
  ⟨(some 3), .t (.mv (.t 9)), none⟩]
def F96o2 : List AOper := [
  ⟨(some 10), .t (.faddr 0 (.t 1)), none⟩,
  ⟨(some 11), .m (.load false 1 (.t 10)), none⟩,
  ⟨(some 12), .t (.len false (.t 11)), none⟩,
  ⟨(some 13), .t (.mv (.c (.int .i64 0))), none⟩]
def F96o3 : List AOper := [
  ⟨(some 14), .t (.bin .lss (.t 13) (.t 12)), none⟩]
def F96o4 : List AOper := [
  ⟨(some 15), .t (.iaddr 6 (.t 11) (.t 13)), none⟩,
  ⟨(some 16), .m (.load true 6 (.t 15)), none⟩,
  ⟨(some 5), .m (.alloc 167 [(.str []), (.int .i64 0), (.int .i64 0), (.str []), .nils, .nils]), none⟩,
  ⟨none, .m (.store 6 (.t 5) (.t 16)), none⟩]
def F96o5 : List AOper := [
  ⟨(some 17), .t (.mv (.t 3)), none⟩,
  ⟨(some 18), .t (.faddr 0 (.t 5)), none⟩,
  ⟨(some 19), .m (.load false 1 (.t 18)), none⟩,
  ⟨(some 20), .t (.faddr 1 (.t 5)), none⟩,
  ⟨(some 21), .m (.load true 5 (.t 20)), none⟩,
  ⟨(some 22), .call (.c (.clo 95 [] [])) [(.t 21)], none⟩,
  ⟨(some 23), .t (.build [(.str []), (.int .i64 0), (.int .i64 0), (.str []), .nils, .nils] [(0, 1, (.t 19)), (1, 5, (.t 22))]), none⟩,
  ⟨(some 24), .m (.bslice false 167 6 1 [(.t 23)]), none⟩]
def F96p5 : List AOper := [
  ⟨(some 25), .m (.append false 167 6 96 (.t 17) (.t 24)), none⟩,
  ⟨(some 3), .t (.mv (.t 25)), none⟩]
def F96A5 : List (List Nat) := [[], [], [1], [], [3], [4, 3], [2, 5, 1, 4, 3], [6, 2, 5, 1, 4, 3], [0, 7, 6, 2, 5, 1, 4, 3], [8, 0, 7, 6, 2, 5, 1, 4, 3]]
def F96o6 : List AOper := [
  ⟨(some 26), .t (.bin .add (.t 13) (.c (.int .i64 1))), none⟩,
  ⟨(some 13), .t (.mv (.t 26)), none⟩]
def F96b7 : ACode :=
  (.seq (.ops F96o3 [2, 3, 11, 12, 13, 14])
  ((.seq (.cond (.t 14)
    (.skip)
    (.exit 0))
   ((.seq (.block 1 ((.seq (.ops F96o4 [2, 3, 5, 11, 12, 13])
     (.draw F96A5 F96o5 F96p5 [2, 3, 11, 12, 13]))))
    (.ops F96o6 [2, 3, 11, 12, 13]))))))
def F96o8 : List AOper := [
  ⟨(some 27), .t (.mv (.t 3)), none⟩,
  ⟨(some 28), .t (.build [.nils] [(0, 1, (.t 27))]), none⟩,
  ⟨none, .m (.store 1 (.t 2) (.t 28)), none⟩]
def F96c : ACode :=
  (.seq (.ops F96o0 [1, 2])
  ((.seq (.ops F96o1 [1, 2, 3])
   ((.seq ((.seq (.ops F96o2 [2, 3, 11, 12, 13])
    (.block 0 (.loop [2, 3, 11, 12, 13] F96b7))))
    ((.seq (.ops F96o8 [2])
     (.ret))))))))
def F96 : AFn := ⟨29, [.cell 2 true 1], F96c⟩
theorem F96_ok : cFn Tryd.prog [1] 96 = some F96 := by kernel_rfl

/- manifold/resolve.each[manifold/api.Call] -/
def F97o0 : List AOper := [
  ⟨(some 4), .t (.mv (.c .nils)), none⟩]
def F97o1 : List AOper := [
  ⟨(some 5), .t (.mv (.c .nils)), none⟩]
def F97o2 : List AOper := [
  ⟨(some 8), .t (.mv (.t 0)), none⟩,
  ⟨(some 9), .t (.len false (.t 8)), none⟩,
  ⟨(some 10), .t (.mv (.c (.int .i64 0))), none⟩]
def F97o3 : List AOper := [
  ⟨(some 11), .t (.bin .lss (.t 10) (.t 9)), none⟩]
def F97o4 : List AOper := [
  ⟨(some 12), .t (.iaddr 2 (.t 8) (.t 10)), none⟩,
  ⟨(some 13), .m (.load true 2 (.t 12)), none⟩,
  ⟨(some 7), .m (.alloc 87 [(.str []), .nils]), none⟩,
  ⟨none, .m (.store 2 (.t 7) (.t 13)), none⟩]
def F97o5 : List AOper := [
  ⟨(some 14), .t (.mv (.t 5)), none⟩,
  ⟨(some 15), .t (.mv (.t 1)), none⟩,
  ⟨(some 16), .m (.load true 2 (.t 7)), none⟩,
  ⟨(some 17), .call (.t 15) [(.t 16)], none⟩,
  ⟨(some 18), .m (.bslice false 87 2 1 [(.t 17)]), none⟩,
  ⟨(some 19), .m (.append false 87 2 40 (.t 14) (.t 18)), none⟩,
  ⟨(some 5), .t (.mv (.t 19)), none⟩]
def F97o6 : List AOper := [
  ⟨(some 20), .t (.bin .add (.t 10) (.c (.int .i64 1))), none⟩,
  ⟨(some 10), .t (.mv (.t 20)), none⟩]
def F97b7 : ACode :=
  (.seq (.ops F97o3 [1, 5, 8, 9, 10, 11])
  ((.seq (.cond (.t 11)
    (.skip)
    (.exit 0))
   ((.seq (.block 1 ((.seq (.ops F97o4 [1, 5, 7, 8, 9, 10])
     (.ops F97o5 [1, 5, 8, 9, 10]))))
    (.ops F97o6 [1, 5, 8, 9, 10]))))))
def F97o8 : List AOper := [
  ⟨(some 21), .t (.mv (.t 5)), none⟩,
  ⟨(some 4), .t (.mv (.t 21)), none⟩]
def F97c : ACode :=
  (.seq (.ops F97o0 [0, 1])
  ((.seq (.ops F97o1 [0, 1, 5])
   ((.seq ((.seq (.ops F97o2 [1, 5, 8, 9, 10])
    (.block 0 (.loop [1, 5, 8, 9, 10] F97b7))))
    ((.seq (.ops F97o8 [4])
     (.ret))))))))
def F97 : AFn := ⟨22, [.tmp 4], F97c⟩
theorem F97_ok : cFn Tryd.prog [] 97 = some F97 := by kernel_rfl

/- manifold/resolve.cloned$1 -/
def F98o0 : List AOper := [
  ⟨(some 1), .m (.box 87 (.t 0)), none⟩,
  ⟨(some 2), .m (.alloc 87 [(.str []), .nils]), none⟩]
def F98o1 : List AOper := [
  ⟨(some 3), .t (.faddr 1 (.t 1)), none⟩,
  ⟨(some 4), .m (.load true 1 (.t 3)), none⟩,
  ⟨(some 5), .call (.c (.clo 96 [] [])) [(.t 4)], none⟩,
  ⟨(some 6), .t (.faddr 1 (.t 1)), none⟩,
  ⟨none, .m (.store 1 (.t 6) (.t 5)), none⟩]
def F98o2 : List AOper := [
  ⟨(some 7), .m (.load true 2 (.t 1)), none⟩,
  ⟨none, .m (.store 2 (.t 2) (.t 7)), none⟩]
def F98c : ACode :=
  (.seq (.ops F98o0 [1, 2])
  ((.seq (.ops F98o1 [1, 2])
   ((.seq (.ops F98o2 [2])
    (.ret))))))
def F98 : AFn := ⟨8, [.cell 2 true 2], F98c⟩
theorem F98_ok : cFn Tryd.prog [] 98 = some F98 := by kernel_rfl

/- manifold/resolve.each[manifold/api.Branch] -/
def F99o0 : List AOper := [
  ⟨(some 4), .t (.mv (.c .nils)), none⟩]
def F99o1 : List AOper := [
  ⟨(some 5), .t (.mv (.c .nils)), none⟩]
def F99o2 : List AOper := [
  ⟨(some 8), .t (.mv (.t 0)), none⟩,
  ⟨(some 9), .t (.len false (.t 8)), none⟩,
  ⟨(some 10), .t (.mv (.c (.int .i64 0))), none⟩]
def F99o3 : List AOper := [
  ⟨(some 11), .t (.bin .lss (.t 10) (.t 9)), none⟩]
def F99o4 : List AOper := [
  ⟨(some 12), .t (.iaddr 2 (.t 8) (.t 10)), none⟩,
  ⟨(some 13), .m (.load true 2 (.t 12)), none⟩,
  ⟨(some 7), .m (.alloc 89 [.nils, .nils]), none⟩,
  ⟨none, .m (.store 2 (.t 7) (.t 13)), none⟩]
def F99o5 : List AOper := [
  ⟨(some 14), .t (.mv (.t 5)), none⟩,
  ⟨(some 15), .t (.mv (.t 1)), none⟩,
  ⟨(some 16), .m (.load true 2 (.t 7)), none⟩,
  ⟨(some 17), .call (.t 15) [(.t 16)], none⟩,
  ⟨(some 18), .m (.bslice false 89 2 1 [(.t 17)]), none⟩,
  ⟨(some 19), .m (.append false 89 2 48 (.t 14) (.t 18)), none⟩,
  ⟨(some 5), .t (.mv (.t 19)), none⟩]
def F99o6 : List AOper := [
  ⟨(some 20), .t (.bin .add (.t 10) (.c (.int .i64 1))), none⟩,
  ⟨(some 10), .t (.mv (.t 20)), none⟩]
def F99b7 : ACode :=
  (.seq (.ops F99o3 [1, 5, 8, 9, 10, 11])
  ((.seq (.cond (.t 11)
    (.skip)
    (.exit 0))
   ((.seq (.block 1 ((.seq (.ops F99o4 [1, 5, 7, 8, 9, 10])
     (.ops F99o5 [1, 5, 8, 9, 10]))))
    (.ops F99o6 [1, 5, 8, 9, 10]))))))
def F99o8 : List AOper := [
  ⟨(some 21), .t (.mv (.t 5)), none⟩,
  ⟨(some 4), .t (.mv (.t 21)), none⟩]
def F99c : ACode :=
  (.seq (.ops F99o0 [0, 1])
  ((.seq (.ops F99o1 [0, 1, 5])
   ((.seq ((.seq (.ops F99o2 [1, 5, 8, 9, 10])
    (.block 0 (.loop [1, 5, 8, 9, 10] F99b7))))
    ((.seq (.ops F99o8 [4])
     (.ret))))))))
def F99 : AFn := ⟨22, [.tmp 4], F99c⟩
theorem F99_ok : cFn Tryd.prog [] 99 = some F99 := by kernel_rfl

/- manifold/resolve.cloned$2 -/
def F100o0 : List AOper := [
  ⟨(some 1), .m (.cbox 89 (.t 0)), none⟩,
  ⟨(some 2), .m (.alloc 89 [.nils, .nils]), none⟩]
def F100o1 : List AOper := [
  ⟨(some 3), .t (.faddr 0 (.t 1)), none⟩,
  ⟨(some 4), .m (.load false 1 (.t 3)), none⟩,
  ⟨(some 5), .call (.c (.clo 94 [] [])) [(.t 4), (.c (.clo 95 [] []))], none⟩,
  ⟨(some 6), .t (.faddr 1 (.t 1)), none⟩,
  ⟨(some 7), .m (.load false 1 (.t 6)), none⟩]
def F100p1 : List AOper := [
  ⟨(some 8), .call (.c (.clo 74 [] [])) [(.t 7), (.c (.clo 70 [] []))], none⟩,
  ⟨(some 9), .t (.build [.nils, .nils] [(0, 1, (.t 5)), (1, 1, (.t 8))]), none⟩,
  ⟨none, .m (.store 2 (.t 2) (.t 9)), none⟩]
def F100A1 : List (List Nat) := [[], [0], [1, 0], [], [3], [4, 2, 3, 1, 0], [5, 4, 2, 3, 1, 0], [6, 5, 4, 2, 3, 1, 0]]
def F100c : ACode :=
  (.seq (.ops F100o0 [1, 2])
  ((.seq (.draw F100A1 F100o1 F100p1 [2])
   (.ret))))
def F100 : AFn := ⟨10, [.cell 2 true 2], F100c⟩
theorem F100_ok : cFn Tryd.prog [1] 100 = some F100 := by kernel_rfl

/- manifold/resolve.visit$1 -/
def F102o0 : List AOper := [
  ⟨(some 7), .t (.mv (.t 0)), none⟩,
  ⟨(some 8), .t (.len false (.t 7)), none⟩,
  ⟨(some 9), .t (.mv (.c (.int .i64 0))), none⟩]
def F102o1 : List AOper := [
  ⟨(some 10), .t (.bin .lss (.t 9) (.t 8)), none⟩]
def F102o2 : List AOper := [
  ⟨(some 11), .t (.mv (.t 9)), none⟩,
  ⟨(some 5), .t (.mv (.t 11)), none⟩]
def F102o3 : List AOper := [
  ⟨(some 12), .m (.load false 1 (.t 1)), none⟩,
  ⟨(some 13), .t (.mv (.t 5)), none⟩,
  ⟨(some 14), .m (.bslice false 3 1 1 [(.t 13)]), none⟩,
  ⟨(some 15), .m (.append true 3 1 8 (.t 12) (.t 14)), none⟩,
  ⟨none, .m (.store 1 (.t 1) (.t 15)), none⟩]
def F102o4 : List AOper := [
  ⟨(some 16), .m (.load false 1 (.t 2)), none⟩,
  ⟨(some 17), .m (.load false 1 (.t 1)), none⟩,
  ⟨(some 18), .t (.mv (.t 0)), none⟩,
  ⟨(some 19), .t (.mv (.t 5)), none⟩,
  ⟨(some 20), .t (.iaddr 11 (.t 18) (.t 19)), none⟩]
def F102p4 : List AOper := [
  ⟨(some 21), .call (.t 16) [(.t 17), (.t 20)], none⟩]
def F102A4 : List (List Nat) := [[], [], [], [], [2, 3], [0, 1, 4, 2, 3]]
def F102o5 : List AOper := [
  ⟨(some 22), .t (.mv (.t 0)), none⟩,
  ⟨(some 23), .t (.mv (.t 5)), none⟩,
  ⟨(some 24), .t (.iaddr 11 (.t 22) (.t 23)), none⟩,
  ⟨(some 25), .t (.faddr 10 (.t 24)), none⟩,
  ⟨(some 26), .m (.load false 1 (.t 25)), none⟩,
  ⟨(some 27), .t (.len false (.t 26)), none⟩,
  ⟨(some 28), .t (.mv (.c (.int .i64 0))), none⟩]
def F102o6 : List AOper := [
  ⟨(some 29), .t (.bin .lss (.t 28) (.t 27)), none⟩]
def F102o7 : List AOper := [
  ⟨(some 30), .t (.mv (.t 28)), none⟩,
  ⟨(some 6), .t (.mv (.t 30)), none⟩]
def F102o8 : List AOper := [
  ⟨(some 31), .m (.load false 1 (.t 1)), none⟩,
  ⟨(some 32), .t (.mv (.t 6)), none⟩,
  ⟨(some 33), .m (.bslice false 3 1 1 [(.t 32)]), none⟩,
  ⟨(some 34), .m (.append true 3 1 8 (.t 31) (.t 33)), none⟩,
  ⟨none, .m (.store 1 (.t 1) (.t 34)), none⟩]
def F102o9 : List AOper := [
  ⟨(some 35), .m (.load false 1 (.t 3)), none⟩,
  ⟨(some 36), .t (.mv (.t 0)), none⟩,
  ⟨(some 37), .t (.mv (.t 5)), none⟩,
  ⟨(some 38), .t (.iaddr 11 (.t 36) (.t 37)), none⟩,
  ⟨(some 39), .t (.faddr 10 (.t 38)), none⟩,
  ⟨(some 40), .m (.load false 1 (.t 39)), none⟩,
  ⟨(some 41), .t (.mv (.t 6)), none⟩,
  ⟨(some 42), .t (.iaddr 2 (.t 40) (.t 41)), none⟩,
  ⟨(some 43), .t (.faddr 1 (.t 42)), none⟩,
  ⟨(some 44), .m (.load false 1 (.t 43)), none⟩]
def F102p9 : List AOper := [
  ⟨(some 45), .call (.t 35) [(.t 44)], none⟩]
def F102A9 : List (List Nat) := [[], [], [], [1, 2], [3, 1, 2], [4, 3, 1, 2], [], [5, 6, 4, 3, 1, 2], [7, 5, 6, 4, 3, 1, 2], [8, 7, 5, 6, 4, 3, 1, 2], [0, 9, 8, 7, 5, 6, 4, 3, 1, 2]]
def F102o10 : List AOper := [
  ⟨(some 46), .m (.load false 1 (.t 1)), none⟩,
  ⟨(some 47), .m (.load false 1 (.t 1)), none⟩,
  ⟨(some 48), .t (.len false (.t 47)), none⟩,
  ⟨(some 49), .t (.bin .sub (.t 48) (.c (.int .i64 1))), none⟩,
  ⟨(some 50), .t (.sliceL 1 (.t 46) none (some (.t 49))), none⟩,
  ⟨none, .m (.store 1 (.t 1) (.t 50)), none⟩]
def F102o11 : List AOper := [
  ⟨(some 51), .t (.bin .add (.t 28) (.c (.int .i64 1))), none⟩,
  ⟨(some 28), .t (.mv (.t 51)), none⟩]
def F102b12 : ACode :=
  (.seq (.ops F102o6 [0, 1, 2, 3, 5, 8, 9, 27, 28, 29])
  ((.seq (.cond (.t 29)
    (.skip)
    (.exit 2))
   ((.seq (.block 3 ((.seq (.ops F102o7 [0, 1, 2, 3, 5, 6, 8, 9, 27, 28])
     ((.seq (.ops F102o8 [0, 1, 2, 3, 5, 6, 8, 9, 27, 28])
      ((.seq (.draw F102A9 F102o9 F102p9 [0, 1, 2, 3, 5, 8, 9, 27, 28])
       (.ops F102o10 [0, 1, 2, 3, 5, 8, 9, 27, 28]))))))))
    (.ops F102o11 [0, 1, 2, 3, 5, 8, 9, 27, 28]))))))
def F102o13 : List AOper := [
  ⟨(some 52), .m (.load false 1 (.t 1)), none⟩,
  ⟨(some 53), .m (.load false 1 (.t 1)), none⟩,
  ⟨(some 54), .t (.len false (.t 53)), none⟩,
  ⟨(some 55), .t (.bin .sub (.t 54) (.c (.int .i64 1))), none⟩,
  ⟨(some 56), .t (.sliceL 1 (.t 52) none (some (.t 55))), none⟩,
  ⟨none, .m (.store 1 (.t 1) (.t 56)), none⟩]
def F102o14 : List AOper := [
  ⟨(some 57), .t (.bin .add (.t 9) (.c (.int .i64 1))), none⟩,
  ⟨(some 9), .t (.mv (.t 57)), none⟩]
def F102b15 : ACode :=
  (.seq (.ops F102o1 [0, 1, 2, 3, 8, 9, 10])
  ((.seq (.cond (.t 10)
    (.skip)
    (.exit 0))
   ((.seq (.block 1 ((.seq (.ops F102o2 [0, 1, 2, 3, 5, 8, 9])
     ((.seq (.ops F102o3 [0, 1, 2, 3, 5, 8, 9])
      ((.seq (.draw F102A4 F102o4 F102p4 [0, 1, 2, 3, 5, 8, 9])
       ((.seq ((.seq (.ops F102o5 [0, 1, 2, 3, 5, 8, 9, 27, 28])
        (.block 2 (.loop [0, 1, 2, 3, 5, 8, 9, 27, 28] F102b12))))
        (.ops F102o13 [0, 1, 2, 3, 8, 9]))))))))))
    (.ops F102o14 [0, 1, 2, 3, 8, 9]))))))
def F102c : ACode :=
  (.seq (.ops F102o0 [0, 1, 2, 3, 8, 9])
  (.block 0 (.loop [0, 1, 2, 3, 8, 9] F102b15)))
def F102 : AFn := ⟨58, [], F102c⟩
theorem F102_ok : cFn Tryd.prog [15, 34] 102 = some F102 := by kernel_rfl

end Go.Proofs.YtfbakipopjoghaaDoor
