/- Functions of the program as the logic reads them, each with the proof that it is so read. -/
import Derived.Test.YtfbakipopjoghaaDoorProg
import Derived.Test.YtfbakipopjoghaaDoorCore3
import Derived.KernelRfl
set_option maxRecDepth 100000
namespace Go.Proofs.YtfbakipopjoghaaDoor
open Go Go.Ab
/- manifold/manifoldlaw23.ResolveAutomatic -/
def F4o0 : List AOper := [
  ⟨(some 4), .t (.mv (.c (.bool false))), none⟩]
def F4o1 : List AOper := [
  ⟨(some 5), .t (.mv (.t 1)), none⟩,
  ⟨(some 6), .t (.mv (.t 1)), none⟩,
  ⟨(some 7), .t (.len false (.t 6)), none⟩,
  ⟨(some 8), .t (.imin (.t 7) (.c (.int .i64 20))), none⟩,
  ⟨(some 9), .t (.sliceL 1 (.t 5) none (some (.t 8))), none⟩,
  ⟨(some 1), .t (.mv (.t 9)), none⟩]
def F4o2 : List AOper := [
  ⟨(some 10), .call (.c (.clo 14 [] [])) [], none⟩,
  ⟨(some 11), .t (.mv (.t 10)), none⟩,
  ⟨(some 12), .t (.mv (.t 0)), (some (11, true))⟩,
  ⟨(some 13), .t (.mv (.t 1)), (some (11, true))⟩,
  ⟨(some 14), .call (.c (.clo 17 [] [])) [(.t 12), (.t 13)], (some (11, true))⟩,
  ⟨(some 15), .t (.mv (.t 0)), (some (11, true))⟩,
  ⟨(some 16), .t (.mv (.t 1)), (some (11, true))⟩,
  ⟨(some 17), .call (.c (.clo 18 [] [])) [(.t 15), (.t 16)], (some (11, true))⟩,
  ⟨(some 18), .t (.bin .eql (.t 14) (.t 17)), (some (11, true))⟩,
  ⟨(some 19), .t (.pick (.t 11) (.t 18) (.c (.bool false))), none⟩,
  ⟨(some 20), .t (.mv (.t 19)), none⟩,
  ⟨(some 21), .t (.mv (.t 1)), (some (20, true))⟩,
  ⟨(some 22), .call (.c (.clo 19 [] [])) [(.t 21)], (some (20, true))⟩,
  ⟨(some 23), .t (.mv (.t 1)), (some (20, true))⟩,
  ⟨(some 24), .call (.c (.clo 20 [] [])) [(.t 23)], (some (20, true))⟩,
  ⟨(some 25), .t (.bin .eql (.t 22) (.t 24)), (some (20, true))⟩,
  ⟨(some 26), .t (.pick (.t 20) (.t 25) (.c (.bool false))), none⟩,
  ⟨(some 4), .t (.mv (.t 26)), none⟩]
def F4c : ACode :=
  (.seq (.ops F4o0 [0, 1])
  ((.seq (.ops F4o1 [0, 1])
   ((.seq (.ops F4o2 [4])
    (.ret))))))
def F4 : AFn := ⟨27, [.tmp 4], F4c⟩
theorem F4_ok : cFn Tryd.prog [] 4 = some F4 := by kernel_rfl

/- manifold/resolve.Ends -/
def F12o0 : List AOper := [
  ⟨(some 1), .m (.box 32 (.t 0)), none⟩,
  ⟨(some 2), .t (.mv (.c (.bool false))), none⟩]
def F12o1 : List AOper := [
  ⟨(some 3), .t (.faddr 1 (.t 1)), none⟩,
  ⟨(some 4), .m (.load false 1 (.t 3)), none⟩]
def F12o2 : List AOper := [
  ⟨(some 6), .t (.bin .eql (.t 4) (.c (.int .i64 13))), none⟩,
  ⟨(some 5), .t (.mv (.t 6)), none⟩]
def F12o3 : List AOper := [
  ⟨(some 7), .t (.bin .eql (.t 4) (.c (.int .i64 14))), none⟩,
  ⟨(some 5), .t (.mv (.t 7)), none⟩]
def F12o4 : List AOper := [
  ⟨(some 2), .t (.mv (.c (.bool true))), none⟩]
def F12o5 : List AOper := [
  ⟨(some 9), .t (.bin .eql (.t 4) (.c (.int .i64 11))), none⟩,
  ⟨(some 8), .t (.mv (.t 9)), none⟩]
def F12o6 : List AOper := [
  ⟨(some 10), .t (.bin .eql (.t 4) (.c (.int .i64 12))), none⟩,
  ⟨(some 8), .t (.mv (.t 10)), none⟩]
def F12o7 : List AOper := [
  ⟨(some 11), .t (.faddr 10 (.t 1)), none⟩,
  ⟨(some 12), .m (.load false 1 (.t 11)), none⟩,
  ⟨(some 13), .t (.len false (.t 12)), none⟩,
  ⟨(some 14), .t (.bin .gtr (.t 13) (.c (.int .i64 0))), none⟩,
  ⟨(some 15), .t (.mv (.t 14)), none⟩,
  ⟨(some 16), .t (.faddr 10 (.t 1)), (some (15, true))⟩,
  ⟨(some 17), .m (.load false 1 (.t 16)), (some (15, true))⟩,
  ⟨(some 18), .call (.c (.clo 45 [] [])) [(.t 17), (.c (.clo 46 [] []))], (some (15, true))⟩,
  ⟨(some 19), .t (.not (.t 18)), (some (15, true))⟩,
  ⟨(some 20), .t (.pick (.t 15) (.t 19) (.c (.bool false))), none⟩,
  ⟨(some 2), .t (.mv (.t 20)), none⟩]
def F12o8 : List AOper := [
  ⟨(some 2), .t (.mv (.c (.bool false))), none⟩]
def F12c : ACode :=
  (.seq (.ops F12o0 [1])
  ((.seq ((.seq (.ops F12o1 [1, 4])
   (.block 0 ((.seq ((.seq (.ops F12o2 [1, 4, 5])
     (.cond (.t 5)
       (.skip)
       (.ops F12o3 [1, 4, 5]))))
     (.cond (.t 5)
       ((.seq (.ops F12o4 [2])
        (.ret)))
       ((.seq ((.seq (.ops F12o5 [1, 4, 8])
        (.cond (.t 8)
          (.skip)
          (.ops F12o6 [1, 8]))))
        (.cond (.t 8)
          ((.seq (.ops F12o7 [2])
           (.ret)))
          (.skip))))))))))
   ((.seq (.ops F12o8 [2])
    (.ret))))))
def F12 : AFn := ⟨21, [.tmp 2], F12c⟩
theorem F12_ok : cFn Tryd.prog [] 12 = some F12 := by kernel_rfl

/- manifold/manifoldlaw23.known -/
def F14o0 : List AOper := [
  ⟨(some 0), .t (.mv (.c (.bool false))), none⟩]
def F14o1 : List AOper := [
  ⟨(some 3), .call (.c (.clo 48 [] [])) [(.c (.str [97]))], none⟩,
  ⟨(some 4), .m (.bslice false 32 11 1 [(.t 3)]), none⟩,
  ⟨(some 5), .call (.c (.clo 48 [] [])) [(.c (.str [98]))], none⟩,
  ⟨(some 6), .m (.bslice false 32 11 1 [(.t 5)]), none⟩,
  ⟨(some 7), .m (.bslice false 22 1 2 [(.t 4), (.t 6)]), none⟩,
  ⟨(some 8), .call (.c (.clo 47 [] [])) [(.t 7)], none⟩,
  ⟨(some 9), .m (.bslice false 32 11 1 [(.t 8)]), none⟩,
  ⟨(some 10), .t (.build [(.str []), (.str []), .nils] [(0, 1, (.c (.str [114]))), (2, 1, (.t 9))]), none⟩,
  ⟨(some 11), .m (.bslice false 56 3 1 [(.t 10)]), none⟩,
  ⟨(some 12), .t (.build [(.int .i64 0), .nils, .nils, .nils, .nils] [(4, 1, (.t 11))]), none⟩,
  ⟨(some 1), .m (.alloc 44 [(.int .i64 0), .nils, .nils, .nils, .nils]), none⟩,
  ⟨none, .m (.store 5 (.t 1) (.t 12)), none⟩]
def F14o2 : List AOper := [
  ⟨(some 13), .m (.load true 5 (.t 1)), none⟩,
  ⟨(some 14), .call (.c (.clo 37 [] [])) [(.t 13)], none⟩,
  ⟨(some 2), .t (.mv (.t 14)), none⟩]
def F14o3 : List AOper := [
  ⟨(some 15), .t (.mv (.t 2)), none⟩,
  ⟨(some 16), .t (.len false (.t 15)), none⟩,
  ⟨(some 17), .t (.bin .eql (.t 16) (.c (.int .i64 3))), none⟩,
  ⟨(some 18), .t (.mv (.t 17)), none⟩,
  ⟨(some 19), .t (.mv (.t 2)), (some (18, true))⟩,
  ⟨(some 20), .t (.iaddr 13 (.t 19) (.c (.int .i64 2))), (some (18, true))⟩,
  ⟨(some 21), .t (.faddr 1 (.t 20)), (some (18, true))⟩,
  ⟨(some 22), .m (.load false 1 (.t 21)), (some (18, true))⟩,
  ⟨(some 23), .m (.bslice false 3 1 3 [(.c (.int .i64 0)), (.c (.int .i64 1)), (.c (.int .i64 0))]), (some (18, true))⟩,
  ⟨(some 24), .call (.c (.clo 40 [] [])) [(.t 22), (.t 23)], (some (18, true))⟩,
  ⟨(some 25), .t (.pick (.t 18) (.t 24) (.c (.bool false))), none⟩,
  ⟨(some 26), .t (.mv (.t 25)), none⟩,
  ⟨(some 27), .t (.mv (.t 2)), (some (26, true))⟩,
  ⟨(some 28), .t (.iaddr 13 (.t 27) (.c (.int .i64 2))), (some (26, true))⟩,
  ⟨(some 29), .t (.faddr 1 (.t 28)), (some (26, true))⟩,
  ⟨(some 30), .m (.load false 1 (.t 29)), (some (26, true))⟩,
  ⟨(some 31), .call (.c (.clo 17 [] [])) [(.c (.int .i64 0)), (.t 30)], (some (26, true))⟩,
  ⟨(some 32), .t (.bin .eql (.t 31) (.c (.str [115, 48, 95, 48, 95, 49, 95, 48]))), (some (26, true))⟩,
  ⟨(some 33), .t (.pick (.t 26) (.t 32) (.c (.bool false))), none⟩,
  ⟨(some 34), .t (.mv (.t 33)), none⟩,
  ⟨(some 35), .t (.faddr 4 (.t 1)), (some (34, true))⟩,
  ⟨(some 36), .m (.load false 1 (.t 35)), (some (34, true))⟩,
  ⟨(some 37), .t (.iaddr 3 (.t 36) (.c (.int .i64 0))), (some (34, true))⟩,
  ⟨(some 38), .t (.faddr 2 (.t 37)), (some (34, true))⟩,
  ⟨(some 39), .m (.load false 1 (.t 38)), (some (34, true))⟩,
  ⟨(some 40), .call (.c (.clo 15 [] [])) [(.t 39)], (some (34, true))⟩,
  ⟨(some 41), .t (.pick (.t 34) (.t 40) (.c (.bool false))), none⟩,
  ⟨(some 42), .t (.mv (.t 41)), none⟩,
  ⟨(some 43), .call (.c (.clo 48 [] [])) [(.c (.str [97]))], (some (42, true))⟩,
  ⟨(some 44), .m (.bslice false 32 11 1 [(.t 43)]), (some (42, true))⟩,
  ⟨(some 45), .m (.bslice false 22 1 2 [(.t 44), (.c .nils)]), (some (42, true))⟩,
  ⟨(some 46), .call (.c (.clo 47 [] [])) [(.t 45)], (some (42, true))⟩,
  ⟨(some 47), .call (.c (.clo 12 [] [])) [(.t 46)], (some (42, true))⟩,
  ⟨(some 48), .t (.not (.t 47)), (some (42, true))⟩,
  ⟨(some 49), .t (.pick (.t 42) (.t 48) (.c (.bool false))), none⟩,
  ⟨(some 0), .t (.mv (.t 49)), none⟩]
def F14c : ACode :=
  (.seq (.ops F14o0 [])
  ((.seq (.ops F14o1 [1])
   ((.seq (.ops F14o2 [1, 2])
    ((.seq (.ops F14o3 [0])
     (.ret))))))))
def F14 : AFn := ⟨50, [.tmp 0], F14c⟩
theorem F14_ok : cFn Tryd.prog [] 14 = some F14 := by kernel_rfl

/- manifold/resolve.Finished -/
def F15o0 : List AOper := [
  ⟨(some 2), .t (.mv (.c (.bool false))), none⟩]
def F15o1 : List AOper := [
  ⟨(some 3), .t (.mv (.t 0)), none⟩,
  ⟨(some 4), .t (.len false (.t 3)), none⟩,
  ⟨(some 5), .t (.bin .gtr (.t 4) (.c (.int .i64 0))), none⟩,
  ⟨(some 6), .t (.mv (.t 5)), none⟩,
  ⟨(some 7), .t (.mv (.t 0)), (some (6, true))⟩,
  ⟨(some 8), .t (.mv (.t 0)), (some (6, true))⟩,
  ⟨(some 9), .t (.len false (.t 8)), (some (6, true))⟩,
  ⟨(some 10), .t (.bin .sub (.t 9) (.c (.int .i64 1))), (some (6, true))⟩,
  ⟨(some 11), .t (.iaddr 11 (.t 7) (.t 10)), (some (6, true))⟩,
  ⟨(some 12), .m (.load true 11 (.t 11)), (some (6, true))⟩,
  ⟨(some 13), .call (.c (.clo 12 [] [])) [(.t 12)], (some (6, true))⟩,
  ⟨(some 14), .t (.pick (.t 6) (.t 13) (.c (.bool false))), none⟩,
  ⟨(some 2), .t (.mv (.t 14)), none⟩]
def F15c : ACode :=
  (.seq (.ops F15o0 [0])
  ((.seq (.ops F15o1 [2])
   (.ret))))
def F15 : AFn := ⟨15, [.tmp 2], F15c⟩
theorem F15_ok : cFn Tryd.prog [] 15 = some F15 := by kernel_rfl

/- manifold/resolve.AutoName -/
def F17o0 : List AOper := [
  ⟨(some 4), .t (.mv (.c (.str []))), none⟩]
def F17o1 : List AOper := [
  ⟨(some 5), .t (.mv (.t 0)), none⟩,
  ⟨(some 6), .m (.bslice false 3 1 1 [(.t 5)]), none⟩,
  ⟨(some 7), .t (.mv (.t 1)), none⟩,
  ⟨(some 8), .m (.append false 3 1 8 (.t 6) (.t 7)), none⟩,
  ⟨(some 9), .call (.c (.clo 49 [] [])) [(.t 8), (.c (.str [95]))], none⟩,
  ⟨(some 10), .t (.bin .add (.c (.str [115])) (.t 9)), none⟩,
  ⟨(some 4), .t (.mv (.t 10)), none⟩]
def F17c : ACode :=
  (.seq (.ops F17o0 [0, 1])
  ((.seq (.ops F17o1 [4])
   (.ret))))
def F17 : AFn := ⟨11, [.tmp 4], F17c⟩
theorem F17_ok : cFn Tryd.prog [] 17 = some F17 := by kernel_rfl

/- manifold/manifoldlaw23.auto -/
def F18o0 : List AOper := [
  ⟨(some 4), .t (.mv (.c (.str []))), none⟩]
def F18o1 : List AOper := [
  ⟨(some 7), .t (.mv (.t 0)), none⟩,
  ⟨(some 8), .call (.c (.clo 50 [] [])) [(.t 7)], none⟩,
  ⟨(some 9), .t (.bin .add (.c (.str [115])) (.t 8)), none⟩,
  ⟨(some 5), .t (.mv (.t 9)), none⟩]
def F18o2 : List AOper := [
  ⟨(some 6), .t (.mv (.c (.int .i64 0))), none⟩]
def F18o3 : List AOper := [
  ⟨(some 10), .t (.mv (.t 6)), none⟩,
  ⟨(some 11), .t (.mv (.t 1)), none⟩,
  ⟨(some 12), .t (.len false (.t 11)), none⟩,
  ⟨(some 13), .t (.bin .lss (.t 10) (.t 12)), none⟩]
def F18o4 : List AOper := [
  ⟨(some 16), .t (.mv (.t 5)), none⟩,
  ⟨(some 17), .t (.bin .add (.t 16) (.c (.str [95]))), none⟩,
  ⟨(some 18), .t (.mv (.t 1)), none⟩,
  ⟨(some 19), .t (.mv (.t 6)), none⟩,
  ⟨(some 20), .t (.iaddr 1 (.t 18) (.t 19)), none⟩,
  ⟨(some 21), .m (.load false 1 (.t 20)), none⟩,
  ⟨(some 22), .call (.c (.clo 50 [] [])) [(.t 21)], none⟩,
  ⟨(some 23), .t (.bin .add (.t 17) (.t 22)), none⟩,
  ⟨(some 5), .t (.mv (.t 23)), none⟩]
def F18o5 : List AOper := [
  ⟨(some 14), .t (.mv (.t 6)), none⟩,
  ⟨(some 15), .t (.bin .add (.t 14) (.c (.int .i64 1))), none⟩,
  ⟨(some 6), .t (.mv (.t 15)), none⟩]
def F18b6 : ACode :=
  (.seq ((.seq (.ops F18o3 [1, 5, 6, 13])
  (.cond (.t 13)
    (.skip)
    (.exit 0))))
  ((.seq (.block 1 (.ops F18o4 [1, 5, 6]))
   (.ops F18o5 [1, 5, 6]))))
def F18o7 : List AOper := [
  ⟨(some 24), .t (.mv (.t 5)), none⟩,
  ⟨(some 4), .t (.mv (.t 24)), none⟩]
def F18c : ACode :=
  (.seq (.ops F18o0 [0, 1])
  ((.seq (.ops F18o1 [1, 5])
   ((.seq ((.seq (.ops F18o2 [1, 5, 6])
    (.block 0 (.loop [1, 5, 6] F18b6))))
    ((.seq (.ops F18o7 [4])
     (.ret))))))))
def F18 : AFn := ⟨25, [.tmp 4], F18c⟩
theorem F18_ok : cFn Tryd.prog [] 18 = some F18 := by kernel_rfl

/- manifold/resolve.PlaceText -/
def F19o0 : List AOper := [
  ⟨(some 2), .t (.mv (.c (.str []))), none⟩]
def F19o1 : List AOper := [
  ⟨(some 3), .t (.mv (.t 0)), none⟩,
  ⟨(some 4), .call (.c (.clo 49 [] [])) [(.t 3), (.c (.str [46]))], none⟩,
  ⟨(some 2), .t (.mv (.t 4)), none⟩]
def F19c : ACode :=
  (.seq (.ops F19o0 [0])
  ((.seq (.ops F19o1 [2])
   (.ret))))
def F19 : AFn := ⟨5, [.tmp 2], F19c⟩
theorem F19_ok : cFn Tryd.prog [] 19 = some F19 := by kernel_rfl

/- manifold/manifoldlaw23.placeText -/
def F20o0 : List AOper := [
  ⟨(some 2), .t (.mv (.c (.str []))), none⟩]
def F20o1 : List AOper := [
  ⟨(some 3), .t (.mv (.c (.str []))), none⟩]
def F20o2 : List AOper := [
  ⟨(some 4), .t (.mv (.c (.int .i64 0))), none⟩]
def F20o3 : List AOper := [
  ⟨(some 5), .t (.mv (.t 4)), none⟩,
  ⟨(some 6), .t (.mv (.t 0)), none⟩,
  ⟨(some 7), .t (.len false (.t 6)), none⟩,
  ⟨(some 8), .t (.bin .lss (.t 5) (.t 7)), none⟩]
def F20o4 : List AOper := [
  ⟨(some 11), .t (.mv (.t 4)), none⟩,
  ⟨(some 12), .t (.bin .gtr (.t 11) (.c (.int .i64 0))), none⟩]
def F20o5 : List AOper := [
  ⟨(some 13), .t (.mv (.t 3)), none⟩,
  ⟨(some 14), .t (.bin .add (.t 13) (.c (.str [46]))), none⟩,
  ⟨(some 3), .t (.mv (.t 14)), none⟩]
def F20o6 : List AOper := [
  ⟨(some 15), .t (.mv (.t 3)), none⟩,
  ⟨(some 16), .t (.mv (.t 0)), none⟩,
  ⟨(some 17), .t (.mv (.t 4)), none⟩,
  ⟨(some 18), .t (.iaddr 1 (.t 16) (.t 17)), none⟩,
  ⟨(some 19), .m (.load false 1 (.t 18)), none⟩,
  ⟨(some 20), .call (.c (.clo 50 [] [])) [(.t 19)], none⟩,
  ⟨(some 21), .t (.bin .add (.t 15) (.t 20)), none⟩,
  ⟨(some 3), .t (.mv (.t 21)), none⟩]
def F20o7 : List AOper := [
  ⟨(some 9), .t (.mv (.t 4)), none⟩,
  ⟨(some 10), .t (.bin .add (.t 9) (.c (.int .i64 1))), none⟩,
  ⟨(some 4), .t (.mv (.t 10)), none⟩]
def F20b8 : ACode :=
  (.seq ((.seq (.ops F20o3 [0, 3, 4, 8])
  (.cond (.t 8)
    (.skip)
    (.exit 0))))
  ((.seq (.block 1 ((.seq ((.seq (.ops F20o4 [0, 3, 4, 12])
    (.cond (.t 12)
      (.ops F20o5 [0, 3, 4])
      (.skip))))
    (.ops F20o6 [0, 3, 4]))))
   (.ops F20o7 [0, 3, 4]))))
def F20o9 : List AOper := [
  ⟨(some 22), .t (.mv (.t 3)), none⟩,
  ⟨(some 2), .t (.mv (.t 22)), none⟩]
def F20c : ACode :=
  (.seq (.ops F20o0 [0])
  ((.seq (.ops F20o1 [0, 3])
   ((.seq ((.seq (.ops F20o2 [0, 3, 4])
    (.block 0 (.loop [0, 3, 4] F20b8))))
    ((.seq (.ops F20o9 [2])
     (.ret))))))))
def F20 : AFn := ⟨23, [.tmp 2], F20c⟩
theorem F20_ok : cFn Tryd.prog [] 20 = some F20 := by kernel_rfl

/- manifold/resolve.Walk -/
def F37o0 : List AOper := [
  ⟨(some 1), .m (.box 44 (.t 0)), none⟩,
  ⟨(some 2), .t (.mv (.c .nils)), none⟩]
def F37o1 : List AOper := [
  ⟨(some 3), .t (.mv (.c .nils)), none⟩]
def F37o2 : List AOper := [
  ⟨(some 5), .t (.faddr 4 (.t 1)), none⟩,
  ⟨(some 6), .m (.load false 1 (.t 5)), none⟩,
  ⟨(some 7), .t (.len false (.t 6)), none⟩,
  ⟨(some 8), .t (.mv (.c (.int .i64 0))), none⟩]
def F37o3 : List AOper := [
  ⟨(some 9), .t (.bin .lss (.t 8) (.t 7)), none⟩]
def F37o4 : List AOper := [
  ⟨(some 10), .t (.mv (.t 8)), none⟩,
  ⟨(some 4), .t (.mv (.t 10)), none⟩]
def F37o5 : List AOper := [
  ⟨(some 11), .t (.mv (.t 3)), none⟩,
  ⟨(some 12), .m (.load true 5 (.t 1)), none⟩,
  ⟨(some 13), .t (.mv (.t 4)), none⟩,
  ⟨(some 14), .call (.c (.clo 68 [] [])) [(.t 12), (.t 13)], none⟩,
  ⟨(some 15), .m (.append false 79 13 208 (.t 11) (.t 14)), none⟩,
  ⟨(some 3), .t (.mv (.t 15)), none⟩]
def F37o6 : List AOper := [
  ⟨(some 16), .t (.bin .add (.t 8) (.c (.int .i64 1))), none⟩,
  ⟨(some 8), .t (.mv (.t 16)), none⟩]
def F37b7 : ACode :=
  (.seq (.ops F37o3 [1, 3, 7, 8, 9])
  ((.seq (.cond (.t 9)
    (.skip)
    (.exit 0))
   ((.seq (.block 1 ((.seq (.ops F37o4 [1, 3, 4, 7, 8])
     (.ops F37o5 [1, 3, 7, 8]))))
    (.ops F37o6 [1, 3, 7, 8]))))))
def F37o8 : List AOper := [
  ⟨(some 17), .t (.mv (.t 3)), none⟩,
  ⟨(some 2), .t (.mv (.t 17)), none⟩]
def F37c : ACode :=
  (.seq (.ops F37o0 [1])
  ((.seq (.ops F37o1 [1, 3])
   ((.seq ((.seq (.ops F37o2 [1, 3, 7, 8])
    (.block 0 (.loop [1, 3, 7, 8] F37b7))))
    ((.seq (.ops F37o8 [2])
     (.ret))))))))
def F37 : AFn := ⟨18, [.tmp 2], F37c⟩
theorem F37_ok : cFn Tryd.prog [] 37 = some F37 := by kernel_rfl

/- manifold/manifoldlaw23.samePlace -/
def F40o0 : List AOper := [
  ⟨(some 4), .t (.mv (.c (.bool false))), none⟩]
def F40o1 : List AOper := [
  ⟨(some 6), .t (.mv (.t 0)), none⟩,
  ⟨(some 7), .t (.len false (.t 6)), none⟩,
  ⟨(some 8), .t (.mv (.t 1)), none⟩,
  ⟨(some 9), .t (.len false (.t 8)), none⟩,
  ⟨(some 10), .t (.bin .neq (.t 7) (.t 9)), none⟩]
def F40o2 : List AOper := [
  ⟨(some 4), .t (.mv (.c (.bool false))), none⟩]
def F40o3 : List AOper := [
  ⟨(some 5), .t (.mv (.c (.int .i64 0))), none⟩]
def F40o4 : List AOper := [
  ⟨(some 11), .t (.mv (.t 5)), none⟩,
  ⟨(some 12), .t (.mv (.t 0)), none⟩,
  ⟨(some 13), .t (.len false (.t 12)), none⟩,
  ⟨(some 14), .t (.bin .lss (.t 11) (.t 13)), none⟩]
def F40o5 : List AOper := [
  ⟨(some 17), .t (.mv (.t 0)), none⟩,
  ⟨(some 18), .t (.mv (.t 5)), none⟩,
  ⟨(some 19), .t (.iaddr 1 (.t 17) (.t 18)), none⟩,
  ⟨(some 20), .m (.load false 1 (.t 19)), none⟩,
  ⟨(some 21), .t (.mv (.t 1)), none⟩,
  ⟨(some 22), .t (.mv (.t 5)), none⟩,
  ⟨(some 23), .t (.iaddr 1 (.t 21) (.t 22)), none⟩,
  ⟨(some 24), .m (.load false 1 (.t 23)), none⟩]
def F40p5 : List AOper := [
  ⟨(some 25), .t (.bin .neq (.t 20) (.t 24)), none⟩]
def F40A5 : List (List Nat) := [[], [], [0, 1], [2, 0, 1], [], [], [4, 5], [6, 4, 5], [3, 7, 2, 0, 1, 6, 4, 5]]
def F40o6 : List AOper := [
  ⟨(some 4), .t (.mv (.c (.bool false))), none⟩]
def F40o7 : List AOper := [
  ⟨(some 15), .t (.mv (.t 5)), none⟩,
  ⟨(some 16), .t (.bin .add (.t 15) (.c (.int .i64 1))), none⟩,
  ⟨(some 5), .t (.mv (.t 16)), none⟩]
def F40b8 : ACode :=
  (.seq ((.seq (.ops F40o4 [0, 1, 5, 14])
  (.cond (.t 14)
    (.skip)
    (.exit 0))))
  ((.seq (.block 1 ((.seq (.draw F40A5 F40o5 F40p5 [0, 1, 5, 25])
    (.cond (.t 25)
      ((.seq (.ops F40o6 [4])
       (.ret)))
      (.skip)))))
   (.ops F40o7 [0, 1, 5]))))
def F40o9 : List AOper := [
  ⟨(some 4), .t (.mv (.c (.bool true))), none⟩]
def F40c : ACode :=
  (.seq (.ops F40o0 [0, 1])
  ((.seq ((.seq (.ops F40o1 [0, 1, 10])
   (.cond (.t 10)
     ((.seq (.ops F40o2 [4])
      (.ret)))
     (.skip))))
   ((.seq ((.seq (.ops F40o3 [0, 1, 5])
    (.block 0 (.loop [0, 1, 5] F40b8))))
    ((.seq (.ops F40o9 [4])
     (.ret))))))))
def F40 : AFn := ⟨26, [.tmp 4], F40c⟩
theorem F40_ok : cFn Tryd.prog [] 40 = some F40 := by kernel_rfl

/- slices.ContainsFunc[[]manifold/api.Branch,manifold/api.Branch] -/
def F45o0 : List AOper := [
  ⟨(some 4), .t (.mv (.c (.bool false))), none⟩]
def F45o1 : List AOper := [
  ⟨(some 5), .t (.mv (.t 0)), none⟩,
  ⟨(some 6), .t (.mv (.t 1)), none⟩,
  ⟨(some 7), .call (.c (.clo 79 [] [])) [(.t 5), (.t 6)], none⟩,
  ⟨(some 8), .t (.bin .geq (.t 7) (.c (.int .i64 0))), none⟩,
  ⟨(some 4), .t (.mv (.t 8)), none⟩]
def F45c : ACode :=
  (.seq (.ops F45o0 [0, 1])
  ((.seq (.ops F45o1 [4])
   (.ret))))
def F45 : AFn := ⟨9, [.tmp 4], F45c⟩
theorem F45_ok : cFn Tryd.prog [] 45 = some F45 := by kernel_rfl

/- manifold/resolve.Ends$1 -/
def F46o0 : List AOper := [
  ⟨(some 1), .m (.box 89 (.t 0)), none⟩,
  ⟨(some 2), .t (.mv (.c (.bool false))), none⟩]
def F46o1 : List AOper := [
  ⟨(some 3), .t (.faddr 1 (.t 1)), none⟩,
  ⟨(some 4), .m (.load false 1 (.t 3)), none⟩,
  ⟨(some 5), .call (.c (.clo 15 [] [])) [(.t 4)], none⟩,
  ⟨(some 6), .t (.not (.t 5)), none⟩,
  ⟨(some 2), .t (.mv (.t 6)), none⟩]
def F46c : ACode :=
  (.seq (.ops F46o0 [1])
  ((.seq (.ops F46o1 [2])
   (.ret))))
def F46 : AFn := ⟨7, [.tmp 2], F46c⟩
theorem F46_ok : cFn Tryd.prog [] 46 = some F46 := by kernel_rfl

/- manifold/manifoldlaw23.choose -/
def F47o0 : List AOper := [
  ⟨(some 2), .m (.alloc 32 [(.str []), (.int .i64 0), (.int .i64 0), (.int .i64 0), (.int .i64 0), (.str []), (.str []), .nils, .nils, .nils, .nils]), none⟩]
def F47o1 : List AOper := [
  ⟨(some 5), .t (.build [(.str []), (.int .i64 0), (.int .i64 0), (.int .i64 0), (.int .i64 0), (.str []), (.str []), .nils, .nils, .nils, .nils] [(1, 1, (.c (.int .i64 11)))]), none⟩,
  ⟨(some 3), .m (.alloc 32 [(.str []), (.int .i64 0), (.int .i64 0), (.int .i64 0), (.int .i64 0), (.str []), (.str []), .nils, .nils, .nils, .nils]), none⟩,
  ⟨none, .m (.store 11 (.t 3) (.t 5)), none⟩]
def F47o2 : List AOper := [
  ⟨(some 4), .t (.mv (.c (.int .i64 0))), none⟩]
def F47o3 : List AOper := [
  ⟨(some 6), .t (.mv (.t 4)), none⟩,
  ⟨(some 7), .t (.mv (.t 0)), none⟩,
  ⟨(some 8), .t (.len false (.t 7)), none⟩,
  ⟨(some 9), .t (.bin .lss (.t 6) (.t 8)), none⟩]
def F47o4 : List AOper := [
  ⟨(some 12), .t (.faddr 10 (.t 3)), none⟩,
  ⟨(some 13), .m (.load false 1 (.t 12)), none⟩,
  ⟨(some 14), .t (.mv (.t 0)), none⟩,
  ⟨(some 15), .t (.mv (.t 4)), none⟩,
  ⟨(some 16), .t (.iaddr 1 (.t 14) (.t 15)), none⟩,
  ⟨(some 17), .m (.load false 1 (.t 16)), none⟩,
  ⟨(some 18), .t (.build [.nils, .nils] [(1, 1, (.t 17))]), none⟩,
  ⟨(some 19), .m (.bslice false 89 2 1 [(.t 18)]), none⟩]
def F47p4 : List AOper := [
  ⟨(some 20), .m (.append false 89 2 48 (.t 13) (.t 19)), none⟩,
  ⟨(some 21), .t (.faddr 10 (.t 3)), none⟩,
  ⟨none, .m (.store 1 (.t 21) (.t 20)), none⟩]
def F47A4 : List (List Nat) := [[], [0], [], [], [2, 3], [4, 2, 3], [5, 4, 2, 3], [6, 5, 4, 2, 3], [1, 7, 0, 6, 5, 4, 2, 3], [8, 1, 7, 0, 6, 5, 4, 2, 3], [9, 8, 1, 7, 0, 6, 5, 4, 2, 3]]
def F47o5 : List AOper := [
  ⟨(some 10), .t (.mv (.t 4)), none⟩,
  ⟨(some 11), .t (.bin .add (.t 10) (.c (.int .i64 1))), none⟩,
  ⟨(some 4), .t (.mv (.t 11)), none⟩]
def F47b6 : ACode :=
  (.seq ((.seq (.ops F47o3 [0, 2, 3, 4, 9])
  (.cond (.t 9)
    (.skip)
    (.exit 0))))
  ((.seq (.block 1 (.draw F47A4 F47o4 F47p4 [0, 2, 3, 4]))
   (.ops F47o5 [0, 2, 3, 4]))))
def F47o7 : List AOper := [
  ⟨(some 22), .m (.load true 11 (.t 3)), none⟩,
  ⟨none, .m (.store 11 (.t 2) (.t 22)), none⟩]
def F47c : ACode :=
  (.seq (.ops F47o0 [0, 2])
  ((.seq (.ops F47o1 [0, 2, 3])
   ((.seq ((.seq (.ops F47o2 [0, 2, 3, 4])
    (.block 0 (.loop [0, 2, 3, 4] F47b6))))
    ((.seq (.ops F47o7 [2])
     (.ret))))))))
def F47 : AFn := ⟨23, [.cell 2 true 11], F47c⟩
theorem F47_ok : cFn Tryd.prog [] 47 = some F47 := by kernel_rfl

/- manifold/manifoldlaw23.to -/
def F48o0 : List AOper := [
  ⟨(some 2), .m (.alloc 32 [(.str []), (.int .i64 0), (.int .i64 0), (.int .i64 0), (.int .i64 0), (.str []), (.str []), .nils, .nils, .nils, .nils]), none⟩]
def F48o1 : List AOper := [
  ⟨(some 3), .t (.mv (.t 0)), none⟩,
  ⟨(some 4), .t (.build [(.str []), (.int .i64 0), (.int .i64 0), (.int .i64 0), (.int .i64 0), (.str []), (.str []), .nils, .nils, .nils, .nils] [(1, 1, (.c (.int .i64 13))), (5, 1, (.t 3))]), none⟩,
  ⟨none, .m (.store 11 (.t 2) (.t 4)), none⟩]
def F48c : ACode :=
  (.seq (.ops F48o0 [0, 2])
  ((.seq (.ops F48o1 [2])
   (.ret))))
def F48 : AFn := ⟨5, [.cell 2 true 11], F48c⟩
theorem F48_ok : cFn Tryd.prog [] 48 = some F48 := by kernel_rfl

/- manifold/resolve.joined -/
def F49o0 : List AOper := [
  ⟨(some 4), .t (.mv (.c (.str []))), none⟩]
def F49o1 : List AOper := [
  ⟨(some 5), .t (.mv (.c .nils)), none⟩]
def F49o2 : List AOper := [
  ⟨(some 8), .t (.mv (.t 0)), none⟩,
  ⟨(some 9), .t (.len false (.t 8)), none⟩,
  ⟨(some 10), .t (.mv (.c (.int .i64 0))), none⟩]
def F49o3 : List AOper := [
  ⟨(some 11), .t (.bin .lss (.t 10) (.t 9)), none⟩]
def F49o4 : List AOper := [
  ⟨(some 12), .t (.iaddr 1 (.t 8) (.t 10)), none⟩,
  ⟨(some 13), .m (.load false 1 (.t 12)), none⟩,
  ⟨(some 7), .t (.mv (.t 13)), none⟩]
def F49o5 : List AOper := [
  ⟨(some 14), .t (.mv (.t 5)), none⟩,
  ⟨(some 15), .t (.mv (.t 7)), none⟩,
  ⟨(some 16), .call (.c (.clo 80 [] [])) [(.t 15)], none⟩,
  ⟨(some 17), .m (.bslice false 9 1 1 [(.t 16)]), none⟩,
  ⟨(some 18), .m (.append false 9 1 16 (.t 14) (.t 17)), none⟩,
  ⟨(some 5), .t (.mv (.t 18)), none⟩]
def F49o6 : List AOper := [
  ⟨(some 19), .t (.bin .add (.t 10) (.c (.int .i64 1))), none⟩,
  ⟨(some 10), .t (.mv (.t 19)), none⟩]
def F49b7 : ACode :=
  (.seq (.ops F49o3 [1, 5, 8, 9, 10, 11])
  ((.seq (.cond (.t 11)
    (.skip)
    (.exit 0))
   ((.seq (.block 1 ((.seq (.ops F49o4 [1, 5, 7, 8, 9, 10])
     (.ops F49o5 [1, 5, 8, 9, 10]))))
    (.ops F49o6 [1, 5, 8, 9, 10]))))))
def F49o8 : List AOper := [
  ⟨(some 20), .t (.mv (.t 5)), none⟩,
  ⟨(some 21), .t (.mv (.t 1)), none⟩,
  ⟨(some 22), .call (.c (.clo 60 [] [])) [(.t 20), (.t 21)], none⟩,
  ⟨(some 4), .t (.mv (.t 22)), none⟩]
def F49c : ACode :=
  (.seq (.ops F49o0 [0, 1])
  ((.seq (.ops F49o1 [0, 1, 5])
   ((.seq ((.seq (.ops F49o2 [1, 5, 8, 9, 10])
    (.block 0 (.loop [1, 5, 8, 9, 10] F49b7))))
    ((.seq (.ops F49o8 [4])
     (.ret))))))))
def F49 : AFn := ⟨23, [.tmp 4], F49c⟩
theorem F49_ok : cFn Tryd.prog [] 49 = some F49 := by kernel_rfl

/- manifold/manifoldlaw23.decimal -/
def F50o0 : List AOper := [
  ⟨(some 2), .t (.mv (.c (.str []))), none⟩]
def F50o1 : List AOper := [
  ⟨(some 4), .t (.mv (.t 0)), none⟩,
  ⟨(some 5), .t (.bin .lss (.t 4) (.c (.int .i64 0))), none⟩]
def F50o2 : List AOper := [
  ⟨(some 6), .t (.mv (.t 0)), none⟩,
  ⟨(some 7), .t (.bin .quo (.t 6) (.c (.int .i64 10))), none⟩,
  ⟨(some 8), .t (.bin .eql (.t 7) (.c (.int .i64 0))), none⟩]
def F50o3 : List AOper := [
  ⟨(some 9), .t (.mv (.t 0)), none⟩,
  ⟨(some 10), .t (.neg (.t 9)), none⟩,
  ⟨(some 11), .t (.mv (.t 0)), none⟩,
  ⟨(some 12), .t (.neg (.t 11)), none⟩,
  ⟨(some 13), .t (.bin .add (.t 12) (.c (.int .i64 1))), none⟩,
  ⟨(some 14), .t (.sliceS (.c (.str [48, 49, 50, 51, 52, 53, 54, 55, 56, 57])) (some (.t 10)) (some (.t 13))), none⟩,
  ⟨(some 15), .t (.bin .add (.c (.str [45])) (.t 14)), none⟩,
  ⟨(some 2), .t (.mv (.t 15)), none⟩]
def F50o4 : List AOper := [
  ⟨(some 16), .t (.mv (.t 0)), none⟩,
  ⟨(some 17), .t (.bin .quo (.t 16) (.c (.int .i64 10))), none⟩,
  ⟨(some 18), .call (.c (.clo 50 [] [])) [(.t 17)], none⟩,
  ⟨(some 19), .t (.mv (.t 0)), none⟩,
  ⟨(some 20), .t (.bin .rem (.t 19) (.c (.int .i64 10))), none⟩,
  ⟨(some 21), .t (.neg (.t 20)), none⟩,
  ⟨(some 22), .t (.mv (.t 0)), none⟩,
  ⟨(some 23), .t (.bin .rem (.t 22) (.c (.int .i64 10))), none⟩,
  ⟨(some 24), .t (.neg (.t 23)), none⟩,
  ⟨(some 25), .t (.bin .add (.t 24) (.c (.int .i64 1))), none⟩,
  ⟨(some 26), .t (.sliceS (.c (.str [48, 49, 50, 51, 52, 53, 54, 55, 56, 57])) (some (.t 21)) (some (.t 25))), none⟩]
def F50p4 : List AOper := [
  ⟨(some 27), .t (.bin .add (.t 18) (.t 26)), none⟩,
  ⟨(some 2), .t (.mv (.t 27)), none⟩]
def F50A4 : List (List Nat) := [[], [0], [1, 0], [], [3], [4, 3], [], [6], [7, 6], [8, 7, 6], [5, 9, 4, 3, 8, 7, 6], [2, 10, 1, 0, 5, 9, 4, 3, 8, 7, 6], [11, 2, 10, 1, 0, 5, 9, 4, 3, 8, 7, 6]]
def F50o5 : List AOper := [
  ⟨(some 28), .t (.mv (.t 0)), none⟩,
  ⟨(some 29), .t (.bin .rem (.t 28) (.c (.int .i64 10))), none⟩,
  ⟨(some 30), .t (.mv (.t 0)), none⟩,
  ⟨(some 31), .t (.bin .rem (.t 30) (.c (.int .i64 10))), none⟩,
  ⟨(some 32), .t (.bin .add (.t 31) (.c (.int .i64 1))), none⟩,
  ⟨(some 33), .t (.sliceS (.c (.str [48, 49, 50, 51, 52, 53, 54, 55, 56, 57])) (some (.t 29)) (some (.t 32))), none⟩,
  ⟨(some 3), .t (.mv (.t 33)), none⟩]
def F50o6 : List AOper := [
  ⟨(some 34), .t (.mv (.t 0)), none⟩,
  ⟨(some 35), .t (.bin .geq (.t 34) (.c (.int .i64 10))), none⟩]
def F50o7 : List AOper := [
  ⟨(some 36), .t (.mv (.t 0)), none⟩,
  ⟨(some 37), .t (.bin .quo (.t 36) (.c (.int .i64 10))), none⟩,
  ⟨(some 38), .call (.c (.clo 50 [] [])) [(.t 37)], none⟩,
  ⟨(some 39), .t (.mv (.t 3)), none⟩,
  ⟨(some 40), .t (.bin .add (.t 38) (.t 39)), none⟩,
  ⟨(some 3), .t (.mv (.t 40)), none⟩]
def F50o8 : List AOper := [
  ⟨(some 41), .t (.mv (.t 3)), none⟩,
  ⟨(some 2), .t (.mv (.t 41)), none⟩]
def F50c : ACode :=
  (.seq (.ops F50o0 [0])
  ((.seq ((.seq (.ops F50o1 [0, 5])
   (.cond (.t 5)
     ((.seq ((.seq (.ops F50o2 [0, 8])
      (.cond (.t 8)
        ((.seq (.ops F50o3 [2])
         (.ret)))
        (.skip))))
      ((.seq (.draw F50A4 F50o4 F50p4 [2])
       (.ret)))))
     (.skip))))
   ((.seq (.ops F50o5 [0, 3])
    ((.seq ((.seq (.ops F50o6 [0, 3, 35])
     (.cond (.t 35)
       (.ops F50o7 [3])
       (.skip))))
     ((.seq (.ops F50o8 [2])
      (.ret))))))))))
def F50 : AFn := ⟨42, [.tmp 2], F50c⟩
theorem F50_ok : cFn Tryd.prog [] 50 = some F50 := by kernel_rfl

/- manifold/resolve.walk -/
def F68o0 : List AOper := [
  ⟨(some 2), .m (.box 44 (.t 0)), none⟩,
  ⟨(some 3), .m (.box 3 (.t 1)), none⟩,
  ⟨(some 4), .t (.mv (.c .nils)), none⟩]
def F68o1 : List AOper := [
  ⟨(some 5), .m (.alloc 73 [.nils]), none⟩]
def F68o2 : List AOper := [
  ⟨(some 6), .t (.faddr 4 (.t 2)), none⟩,
  ⟨(some 7), .m (.load false 1 (.t 6)), none⟩,
  ⟨(some 8), .m (.load false 1 (.t 3)), none⟩,
  ⟨(some 9), .t (.iaddr 3 (.t 7) (.t 8)), none⟩,
  ⟨(some 10), .t (.faddr 2 (.t 9)), none⟩,
  ⟨(some 11), .m (.load false 1 (.t 10)), none⟩,
  ⟨(some 12), .t (.clo 92 [] [(.t 5), (.t 3)]), none⟩,
  ⟨(some 13), .call (.c (.clo 75 [] [])) [(.t 11), (.t 12)], none⟩]
def F68o3 : List AOper := [
  ⟨(some 14), .m (.load false 1 (.t 5)), none⟩,
  ⟨(some 4), .t (.mv (.t 14)), none⟩]
def F68c : ACode :=
  (.seq (.ops F68o0 [2, 3])
  ((.seq (.ops F68o1 [2, 3, 5])
   ((.seq (.ops F68o2 [5])
    ((.seq (.ops F68o3 [4])
     (.ret))))))))
def F68 : AFn := ⟨15, [.tmp 4], F68c⟩
theorem F68_ok : cFn Tryd.prog [] 68 = some F68 := by kernel_rfl

/- manifold/resolve.cloned -/
def F70o0 : List AOper := [
  ⟨(some 1), .m (.box 32 (.t 0)), none⟩,
  ⟨(some 2), .m (.alloc 32 [(.str []), (.int .i64 0), (.int .i64 0), (.int .i64 0), (.int .i64 0), (.str []), (.str []), .nils, .nils, .nils, .nils]), none⟩]
def F70o1 : List AOper := [
  ⟨(some 3), .t (.faddr 7 (.t 1)), none⟩,
  ⟨(some 4), .m (.load false 1 (.t 3)), none⟩,
  ⟨(some 5), .call (.c (.clo 94 [] [])) [(.t 4), (.c (.clo 95 [] []))], none⟩,
  ⟨(some 6), .t (.faddr 7 (.t 1)), none⟩,
  ⟨none, .m (.store 1 (.t 6) (.t 5)), none⟩]
def F70o2 : List AOper := [
  ⟨(some 7), .t (.faddr 8 (.t 1)), none⟩,
  ⟨(some 8), .m (.load true 1 (.t 7)), none⟩,
  ⟨(some 9), .call (.c (.clo 96 [] [])) [(.t 8)], none⟩,
  ⟨(some 10), .t (.faddr 8 (.t 1)), none⟩,
  ⟨none, .m (.store 1 (.t 10) (.t 9)), none⟩]
def F70o3 : List AOper := [
  ⟨(some 11), .t (.faddr 9 (.t 1)), none⟩,
  ⟨(some 12), .m (.load false 1 (.t 11)), none⟩,
  ⟨(some 13), .call (.c (.clo 97 [] [])) [(.t 12), (.c (.clo 98 [] []))], none⟩,
  ⟨(some 14), .t (.faddr 9 (.t 1)), none⟩,
  ⟨none, .m (.store 1 (.t 14) (.t 13)), none⟩]
def F70o4 : List AOper := [
  ⟨(some 15), .t (.faddr 10 (.t 1)), none⟩,
  ⟨(some 16), .m (.load false 1 (.t 15)), none⟩,
  ⟨(some 17), .call (.c (.clo 99 [] [])) [(.t 16), (.c (.clo 100 [] []))], none⟩,
  ⟨(some 18), .t (.faddr 10 (.t 1)), none⟩,
  ⟨none, .m (.store 1 (.t 18) (.t 17)), none⟩]
def F70o5 : List AOper := [
  ⟨(some 19), .m (.load true 11 (.t 1)), none⟩,
  ⟨none, .m (.store 11 (.t 2) (.t 19)), none⟩]
def F70c : ACode :=
  (.seq (.ops F70o0 [1, 2])
  ((.seq (.ops F70o1 [1, 2])
   ((.seq (.ops F70o2 [1, 2])
    ((.seq (.ops F70o3 [1, 2])
     ((.seq (.ops F70o4 [1, 2])
      ((.seq (.ops F70o5 [2])
       (.ret))))))))))))
def F70 : AFn := ⟨20, [.cell 2 true 11], F70c⟩
theorem F70_ok : cFn Tryd.prog [] 70 = some F70 := by kernel_rfl

/- manifold/resolve.each[manifold/api.Step] -/
def F74o0 : List AOper := [
  ⟨(some 4), .t (.mv (.c .nils)), none⟩]
def F74o1 : List AOper := [
  ⟨(some 5), .t (.mv (.c .nils)), none⟩]
def F74o2 : List AOper := [
  ⟨(some 8), .t (.mv (.t 0)), none⟩,
  ⟨(some 9), .t (.len false (.t 8)), none⟩,
  ⟨(some 10), .t (.mv (.c (.int .i64 0))), none⟩]
def F74o3 : List AOper := [
  ⟨(some 11), .t (.bin .lss (.t 10) (.t 9)), none⟩]
def F74o4 : List AOper := [
  ⟨(some 12), .t (.iaddr 11 (.t 8) (.t 10)), none⟩,
  ⟨(some 13), .m (.load true 11 (.t 12)), none⟩,
  ⟨(some 7), .m (.alloc 32 [(.str []), (.int .i64 0), (.int .i64 0), (.int .i64 0), (.int .i64 0), (.str []), (.str []), .nils, .nils, .nils, .nils]), none⟩,
  ⟨none, .m (.store 11 (.t 7) (.t 13)), none⟩]
def F74o5 : List AOper := [
  ⟨(some 14), .t (.mv (.t 5)), none⟩,
  ⟨(some 15), .t (.mv (.t 1)), none⟩,
  ⟨(some 16), .m (.load true 11 (.t 7)), none⟩,
  ⟨(some 17), .call (.t 15) [(.t 16)], none⟩,
  ⟨(some 18), .m (.bslice false 32 11 1 [(.t 17)]), none⟩,
  ⟨(some 19), .m (.append false 32 11 176 (.t 14) (.t 18)), none⟩,
  ⟨(some 5), .t (.mv (.t 19)), none⟩]
def F74o6 : List AOper := [
  ⟨(some 20), .t (.bin .add (.t 10) (.c (.int .i64 1))), none⟩,
  ⟨(some 10), .t (.mv (.t 20)), none⟩]
def F74b7 : ACode :=
  (.seq (.ops F74o3 [1, 5, 8, 9, 10, 11])
  ((.seq (.cond (.t 11)
    (.skip)
    (.exit 0))
   ((.seq (.block 1 ((.seq (.ops F74o4 [1, 5, 7, 8, 9, 10])
     (.ops F74o5 [1, 5, 8, 9, 10]))))
    (.ops F74o6 [1, 5, 8, 9, 10]))))))
def F74o8 : List AOper := [
  ⟨(some 21), .t (.mv (.t 5)), none⟩,
  ⟨(some 4), .t (.mv (.t 21)), none⟩]
def F74c : ACode :=
  (.seq (.ops F74o0 [0, 1])
  ((.seq (.ops F74o1 [0, 1, 5])
   ((.seq ((.seq (.ops F74o2 [1, 5, 8, 9, 10])
    (.block 0 (.loop [1, 5, 8, 9, 10] F74b7))))
    ((.seq (.ops F74o8 [4])
     (.ret))))))))
def F74 : AFn := ⟨22, [.tmp 4], F74c⟩
theorem F74_ok : cFn Tryd.prog [] 74 = some F74 := by kernel_rfl

/- manifold/resolve.visit -/
def F75o0 : List AOper := [
  ⟨(some 3), .m (.box 129 (.t 1)), none⟩]
def F75o1 : List AOper := [
  ⟨(some 4), .m (.alloc 35 [.nils]), none⟩]
def F75o2 : List AOper := [
  ⟨(some 5), .m (.alloc 168 [.nilf]), none⟩]
def F75o3 : List AOper := [
  ⟨(some 6), .t (.clo 102 [] [(.t 4), (.t 3), (.t 5)]), none⟩,
  ⟨none, .m (.store 1 (.t 5) (.t 6)), none⟩]
def F75o4 : List AOper := [
  ⟨(some 7), .m (.load false 1 (.t 5)), none⟩,
  ⟨(some 8), .t (.mv (.t 0)), none⟩,
  ⟨(some 9), .call (.t 7) [(.t 8)], none⟩]
def F75c : ACode :=
  (.seq (.ops F75o0 [0, 3])
  ((.seq (.ops F75o1 [0, 3, 4])
   ((.seq (.ops F75o2 [0, 3, 4, 5])
    ((.seq (.ops F75o3 [0, 5])
     (.ops F75o4 []))))))))
def F75 : AFn := ⟨10, [], F75c⟩
theorem F75_ok : cFn Tryd.prog [] 75 = some F75 := by kernel_rfl

/- slices.IndexFunc[[]manifold/api.Branch,manifold/api.Branch] -/
def F79o0 : List AOper := [
  ⟨(some 4), .t (.mv (.c (.int .i64 0))), none⟩]
def F79o1 : List AOper := [
  ⟨(some 6), .t (.mv (.t 0)), none⟩,
  ⟨(some 7), .t (.len false (.t 6)), none⟩,
  ⟨(some 8), .t (.mv (.c (.int .i64 0))), none⟩]
def F79o2 : List AOper := [
  ⟨(some 9), .t (.bin .lss (.t 8) (.t 7)), none⟩]
def F79o3 : List AOper := [
  ⟨(some 10), .t (.mv (.t 8)), none⟩,
  ⟨(some 5), .t (.mv (.t 10)), none⟩]
def F79o4 : List AOper := [
  ⟨(some 11), .t (.mv (.t 1)), none⟩,
  ⟨(some 12), .t (.mv (.t 0)), none⟩,
  ⟨(some 13), .t (.mv (.t 5)), none⟩,
  ⟨(some 14), .t (.iaddr 2 (.t 12) (.t 13)), none⟩,
  ⟨(some 15), .m (.load true 2 (.t 14)), none⟩,
  ⟨(some 16), .call (.t 11) [(.t 15)], none⟩]
def F79o5 : List AOper := [
  ⟨(some 17), .t (.mv (.t 5)), none⟩,
  ⟨(some 4), .t (.mv (.t 17)), none⟩]
def F79o6 : List AOper := [
  ⟨(some 18), .t (.bin .add (.t 8) (.c (.int .i64 1))), none⟩,
  ⟨(some 8), .t (.mv (.t 18)), none⟩]
def F79b7 : ACode :=
  (.seq (.ops F79o2 [0, 1, 7, 8, 9])
  ((.seq (.cond (.t 9)
    (.skip)
    (.exit 0))
   ((.seq (.block 1 ((.seq (.ops F79o3 [0, 1, 5, 7, 8])
     ((.seq (.ops F79o4 [0, 1, 5, 7, 8, 16])
      (.cond (.t 16)
        ((.seq (.ops F79o5 [4])
         (.ret)))
        (.skip)))))))
    (.ops F79o6 [0, 1, 7, 8]))))))
def F79o8 : List AOper := [
  ⟨(some 4), .t (.mv (.c (.int .i64 (-1)))), none⟩]
def F79c : ACode :=
  (.seq (.ops F79o0 [0, 1])
  ((.seq ((.seq (.ops F79o1 [0, 1, 7, 8])
   (.block 0 (.loop [0, 1, 7, 8] F79b7))))
   ((.seq (.ops F79o8 [4])
    (.ret))))))
def F79 : AFn := ⟨19, [.tmp 4], F79c⟩
theorem F79_ok : cFn Tryd.prog [] 79 = some F79 := by kernel_rfl

/- manifold/resolve.walk$1 -/
def F92o0 : List AOper := [
  ⟨(some 6), .m (.load false 1 (.t 2)), none⟩,
  ⟨(some 7), .m (.load false 1 (.t 3)), none⟩,
  ⟨(some 8), .t (.mv (.t 0)), none⟩,
  ⟨(some 9), .call (.c (.clo 93 [] [])) [(.t 8)], none⟩,
  ⟨(some 10), .t (.mv (.t 1)), none⟩,
  ⟨(some 11), .t (.nilck (.t 10)), none⟩,
  ⟨(some 12), .m (.load true 11 (.t 11)), none⟩,
  ⟨(some 13), .call (.c (.clo 70 [] [])) [(.t 12)], none⟩,
  ⟨(some 14), .t (.build [(.int .i64 0), .nils, (.str []), (.int .i64 0), (.int .i64 0), (.int .i64 0), (.int .i64 0), (.str []), (.str []), .nils, .nils, .nils, .nils] [(0, 1, (.t 7)), (1, 1, (.t 9)), (2, 11, (.t 13))]), none⟩,
  ⟨(some 15), .m (.bslice false 79 13 1 [(.t 14)]), none⟩]
def F92p0 : List AOper := [
  ⟨(some 16), .m (.append false 79 13 208 (.t 6) (.t 15)), none⟩,
  ⟨none, .m (.store 1 (.t 2) (.t 16)), none⟩]
def F92A0 : List (List Nat) := [[], [], [], [2], [], [4], [5, 4], [6, 3, 5, 4, 2], [1, 7, 6, 3, 5, 4, 2], [8, 1, 7, 6, 3, 5, 4, 2], [0, 9, 8, 1, 7, 6, 3, 5, 4, 2], [10, 0, 9, 8, 1, 7, 6, 3, 5, 4, 2]]
def F92c : ACode :=
  .draw F92A0 F92o0 F92p0 []
def F92 : AFn := ⟨17, [], F92c⟩
theorem F92_ok : cFn Tryd.prog [] 92 = some F92 := by kernel_rfl

/- slices.Clone[[]int,int] -/
def F93o0 : List AOper := [
  ⟨(some 2), .t (.mv (.c .nils)), none⟩]
def F93o1 : List AOper := [
  ⟨(some 3), .t (.mv (.t 0)), none⟩,
  ⟨(some 4), .t (.beq 2 false (.t 3) (.c .nils)), none⟩]
def F93o2 : List AOper := [
  ⟨(some 2), .t (.mv (.c .nils)), none⟩]
def F93o3 : List AOper := [
  ⟨(some 5), .m (.bslice false 3 1 0 []), none⟩,
  ⟨(some 6), .t (.mv (.t 0)), none⟩,
  ⟨(some 7), .m (.append false 3 1 8 (.t 5) (.t 6)), none⟩,
  ⟨(some 2), .t (.mv (.t 7)), none⟩]
def F93c : ACode :=
  (.seq (.ops F93o0 [0])
  ((.seq ((.seq (.ops F93o1 [0, 4])
   (.cond (.t 4)
     ((.seq (.ops F93o2 [2])
      (.ret)))
     (.skip))))
   ((.seq (.ops F93o3 [2])
    (.ret))))))
def F93 : AFn := ⟨8, [.tmp 2], F93c⟩
theorem F93_ok : cFn Tryd.prog [] 93 = some F93 := by kernel_rfl

/- manifold/resolve.each[manifold/api.Expr] -/
def F94o0 : List AOper := [
  ⟨(some 4), .t (.mv (.c .nils)), none⟩]
def F94o1 : List AOper := [
  ⟨(some 5), .t (.mv (.c .nils)), none⟩]
def F94o2 : List AOper := [
  ⟨(some 8), .t (.mv (.t 0)), none⟩,
  ⟨(some 9), .t (.len false (.t 8)), none⟩,
  ⟨(some 10), .t (.mv (.c (.int .i64 0))), none⟩]
def F94o3 : List AOper := [
  ⟨(some 11), .t (.bin .lss (.t 10) (.t 9)), none⟩]
def F94o4 : List AOper := [
  ⟨(some 12), .t (.iaddr 5 (.t 8) (.t 10)), none⟩,
  ⟨(some 13), .m (.load true 5 (.t 12)), none⟩,
  ⟨(some 7), .m (.alloc 158 [(.int .i64 0), (.int .i64 0), (.str []), .nils, .nils]), none⟩,
  ⟨none, .m (.store 5 (.t 7) (.t 13)), none⟩]
def F94o5 : List AOper := [
  ⟨(some 14), .t (.mv (.t 5)), none⟩,
  ⟨(some 15), .t (.mv (.t 1)), none⟩,
  ⟨(some 16), .m (.load true 5 (.t 7)), none⟩,
  ⟨(some 17), .call (.t 15) [(.t 16)], none⟩,
  ⟨(some 18), .m (.bslice false 158 5 1 [(.t 17)]), none⟩,
  ⟨(some 19), .m (.append false 158 5 80 (.t 14) (.t 18)), none⟩,
  ⟨(some 5), .t (.mv (.t 19)), none⟩]
def F94o6 : List AOper := [
  ⟨(some 20), .t (.bin .add (.t 10) (.c (.int .i64 1))), none⟩,
  ⟨(some 10), .t (.mv (.t 20)), none⟩]
def F94b7 : ACode :=
  (.seq (.ops F94o3 [1, 5, 8, 9, 10, 11])
  ((.seq (.cond (.t 11)
    (.skip)
    (.exit 0))
   ((.seq (.block 1 ((.seq (.ops F94o4 [1, 5, 7, 8, 9, 10])
     (.ops F94o5 [1, 5, 8, 9, 10]))))
    (.ops F94o6 [1, 5, 8, 9, 10]))))))
def F94o8 : List AOper := [
  ⟨(some 21), .t (.mv (.t 5)), none⟩,
  ⟨(some 4), .t (.mv (.t 21)), none⟩]
def F94c : ACode :=
  (.seq (.ops F94o0 [0, 1])
  ((.seq (.ops F94o1 [0, 1, 5])
   ((.seq ((.seq (.ops F94o2 [1, 5, 8, 9, 10])
    (.block 0 (.loop [1, 5, 8, 9, 10] F94b7))))
    ((.seq (.ops F94o8 [4])
     (.ret))))))))
def F94 : AFn := ⟨22, [.tmp 4], F94c⟩
theorem F94_ok : cFn Tryd.prog [] 94 = some F94 := by kernel_rfl

/- manifold/expr.Clone -/
def F95o0 : List AOper := [
  ⟨(some 1), .m (.box 158 (.t 0)), none⟩,
  ⟨(some 2), .m (.alloc 158 [(.int .i64 0), (.int .i64 0), (.str []), .nils, .nils]), none⟩]
def F95o1 : List AOper := [
  ⟨(some 8), .t (.faddr 0 (.t 1)), none⟩,
  ⟨(some 9), .m (.load false 1 (.t 8)), none⟩,
  ⟨(some 10), .t (.faddr 1 (.t 1)), none⟩,
  ⟨(some 11), .m (.load false 1 (.t 10)), none⟩,
  ⟨(some 12), .t (.faddr 2 (.t 1)), none⟩,
  ⟨(some 13), .m (.load false 1 (.t 12)), none⟩,
  ⟨(some 14), .t (.build [(.int .i64 0), (.int .i64 0), (.str []), .nils, .nils] [(0, 1, (.t 9)), (1, 1, (.t 11)), (2, 1, (.t 13))]), none⟩,
  ⟨(some 3), .m (.alloc 158 [(.int .i64 0), (.int .i64 0), (.str []), .nils, .nils]), none⟩,
  ⟨none, .m (.store 5 (.t 3) (.t 14)), none⟩]
def F95o2 : List AOper := [
  ⟨(some 15), .t (.faddr 3 (.t 1)), none⟩,
  ⟨(some 16), .m (.load false 1 (.t 15)), none⟩,
  ⟨(some 17), .t (.len false (.t 16)), none⟩,
  ⟨(some 18), .t (.mv (.c (.int .i64 0))), none⟩]
def F95o3 : List AOper := [
  ⟨(some 19), .t (.bin .lss (.t 18) (.t 17)), none⟩]
def F95o4 : List AOper := [
  ⟨(some 20), .t (.iaddr 6 (.t 16) (.t 18)), none⟩,
  ⟨(some 21), .m (.load true 6 (.t 20)), none⟩,
  ⟨(some 5), .m (.alloc 137 [(.int .i64 0), (.int .i64 0), (.int .i64 0), (.str []), .nils, .nils]), none⟩,
  ⟨none, .m (.store 6 (.t 5) (.t 21)), none⟩]
def F95o5 : List AOper := [
  ⟨(some 22), .t (.faddr 3 (.t 3)), none⟩,
  ⟨(some 23), .m (.load false 1 (.t 22)), none⟩,
  ⟨(some 24), .m (.load true 6 (.t 5)), none⟩,
  ⟨(some 25), .call (.c (.clo 107 [] [])) [(.t 24)], none⟩,
  ⟨(some 26), .m (.bslice false 137 6 1 [(.t 25)]), none⟩]
def F95p5 : List AOper := [
  ⟨(some 27), .m (.append false 137 6 88 (.t 23) (.t 26)), none⟩,
  ⟨(some 28), .t (.faddr 3 (.t 3)), none⟩,
  ⟨none, .m (.store 1 (.t 28) (.t 27)), none⟩]
def F95A5 : List (List Nat) := [[], [0], [], [2], [3, 2], [1, 4, 0, 3, 2], [5, 1, 4, 0, 3, 2], [6, 5, 1, 4, 0, 3, 2]]
def F95o6 : List AOper := [
  ⟨(some 29), .t (.bin .add (.t 18) (.c (.int .i64 1))), none⟩,
  ⟨(some 18), .t (.mv (.t 29)), none⟩]
def F95b7 : ACode :=
  (.seq (.ops F95o3 [1, 2, 3, 16, 17, 18, 19])
  ((.seq (.cond (.t 19)
    (.skip)
    (.exit 0))
   ((.seq (.block 1 ((.seq (.ops F95o4 [1, 2, 3, 5, 16, 17, 18])
     (.draw F95A5 F95o5 F95p5 [1, 2, 3, 16, 17, 18]))))
    (.ops F95o6 [1, 2, 3, 16, 17, 18]))))))
def F95o8 : List AOper := [
  ⟨(some 30), .t (.faddr 4 (.t 1)), none⟩,
  ⟨(some 31), .m (.load false 1 (.t 30)), none⟩,
  ⟨(some 32), .t (.len false (.t 31)), none⟩,
  ⟨(some 33), .t (.mv (.c (.int .i64 0))), none⟩]
def F95o9 : List AOper := [
  ⟨(some 34), .t (.bin .lss (.t 33) (.t 32)), none⟩]
def F95o10 : List AOper := [
  ⟨(some 35), .t (.iaddr 5 (.t 31) (.t 33)), none⟩,
  ⟨(some 36), .m (.load true 5 (.t 35)), none⟩,
  ⟨(some 7), .m (.alloc 158 [(.int .i64 0), (.int .i64 0), (.str []), .nils, .nils]), none⟩,
  ⟨none, .m (.store 5 (.t 7) (.t 36)), none⟩]
def F95o11 : List AOper := [
  ⟨(some 37), .t (.faddr 4 (.t 3)), none⟩,
  ⟨(some 38), .m (.load false 1 (.t 37)), none⟩,
  ⟨(some 39), .m (.load true 5 (.t 7)), none⟩,
  ⟨(some 40), .call (.c (.clo 95 [] [])) [(.t 39)], none⟩,
  ⟨(some 41), .m (.bslice false 158 5 1 [(.t 40)]), none⟩]
def F95p11 : List AOper := [
  ⟨(some 42), .m (.append false 158 5 80 (.t 38) (.t 41)), none⟩,
  ⟨(some 43), .t (.faddr 4 (.t 3)), none⟩,
  ⟨none, .m (.store 1 (.t 43) (.t 42)), none⟩]
def F95A11 : List (List Nat) := [[], [0], [], [2], [3, 2], [1, 4, 0, 3, 2], [5, 1, 4, 0, 3, 2], [6, 5, 1, 4, 0, 3, 2]]
def F95o12 : List AOper := [
  ⟨(some 44), .t (.bin .add (.t 33) (.c (.int .i64 1))), none⟩,
  ⟨(some 33), .t (.mv (.t 44)), none⟩]
def F95b13 : ACode :=
  (.seq (.ops F95o9 [2, 3, 31, 32, 33, 34])
  ((.seq (.cond (.t 34)
    (.skip)
    (.exit 2))
   ((.seq (.block 3 ((.seq (.ops F95o10 [2, 3, 7, 31, 32, 33])
     (.draw F95A11 F95o11 F95p11 [2, 3, 31, 32, 33]))))
    (.ops F95o12 [2, 3, 31, 32, 33]))))))
def F95o14 : List AOper := [
  ⟨(some 45), .m (.load true 5 (.t 3)), none⟩,
  ⟨none, .m (.store 5 (.t 2) (.t 45)), none⟩]
def F95c : ACode :=
  (.seq (.ops F95o0 [1, 2])
  ((.seq (.ops F95o1 [1, 2, 3])
   ((.seq ((.seq (.ops F95o2 [1, 2, 3, 16, 17, 18])
    (.block 0 (.loop [1, 2, 3, 16, 17, 18] F95b7))))
    ((.seq ((.seq (.ops F95o8 [2, 3, 31, 32, 33])
     (.block 2 (.loop [2, 3, 31, 32, 33] F95b13))))
     ((.seq (.ops F95o14 [2])
      (.ret))))))))))
def F95 : AFn := ⟨46, [.cell 2 true 5], F95c⟩
theorem F95_ok : cFn Tryd.prog [] 95 = some F95 := by kernel_rfl

/- manifold/mapping.Clone -/
def F96o0 : List AOper := [
  ⟨(some 1), .m (.box 28 (.t 0)), none⟩,
  ⟨(some 2), .m (.alloc 28 [.nils]), none⟩]
def F96o1 : List AOper := [
  ⟨(some 6), .t (.faddr 0 (.t 1)), none⟩,
  ⟨(some 7), .m (.load false 1 (.t 6)), none⟩,
  ⟨(some 8), .t (.len false (.t 7)), none⟩,
  ⟨(some 9), .m (.mk false 167 6 96 [(.str []), (.int .i64 0), (.int .i64 0), (.str []), .nils, .nils] (.c (.int .i64 0)) (.t 8)), none⟩,
  ⟨(some 3), .t (.mv (.t 9)), none⟩]
def F96o2 : List AOper := [
  ⟨(some 10), .t (.faddr 0 (.t 1)), none⟩,
  ⟨(some 11), .m (.load false 1 (.t 10)), none⟩,
  ⟨(some 12), .t (.len false (.t 11)), none⟩,
  ⟨(some 13), .t (.mv (.c (.int .i64 0))), none⟩]
def F96o3 : List AOper := [
  ⟨(some 14), .t (.bin .lss (.t 13) (.t 12)), none⟩]
def F96o4 : List AOper := [
  ⟨(some 15), .t (.iaddr 6 (.t 11) (.t 13)), none⟩,
  ⟨(some 16), .m (.load true 6 (.t 15)), none⟩,
  ⟨(some 5), .m (.alloc 167 [(.str []), (.int .i64 0), (.int .i64 0), (.str []), .nils, .nils]), none⟩,
  ⟨none, .m (.store 6 (.t 5) (.t 16)), none⟩]
def F96o5 : List AOper := [
  ⟨(some 17), .t (.mv (.t 3)), none⟩,
  ⟨(some 18), .t (.faddr 0 (.t 5)), none⟩,
  ⟨(some 19), .m (.load false 1 (.t 18)), none⟩,
  ⟨(some 20), .t (.faddr 1 (.t 5)), none⟩,
  ⟨(some 21), .m (.load true 5 (.t 20)), none⟩,
  ⟨(some 22), .call (.c (.clo 95 [] [])) [(.t 21)], none⟩,
  ⟨(some 23), .t (.build [(.str []), (.int .i64 0), (.int .i64 0), (.str []), .nils, .nils] [(0, 1, (.t 19)), (1, 5, (.t 22))]), none⟩,
  ⟨(some 24), .m (.bslice false 167 6 1 [(.t 23)]), none⟩]
def F96p5 : List AOper := [
  ⟨(some 25), .m (.append false 167 6 96 (.t 17) (.t 24)), none⟩,
  ⟨(some 3), .t (.mv (.t 25)), none⟩]
def F96A5 : List (List Nat) := [[], [], [1], [], [3], [4, 3], [2, 5, 1, 4, 3], [6, 2, 5, 1, 4, 3], [0, 7, 6, 2, 5, 1, 4, 3], [8, 0, 7, 6, 2, 5, 1, 4, 3]]
def F96o6 : List AOper := [
  ⟨(some 26), .t (.bin .add (.t 13) (.c (.int .i64 1))), none⟩,
  ⟨(some 13), .t (.mv (.t 26)), none⟩]
def F96b7 : ACode :=
  (.seq (.ops F96o3 [2, 3, 11, 12, 13, 14])
  ((.seq (.cond (.t 14)
    (.skip)
    (.exit 0))
   ((.seq (.block 1 ((.seq (.ops F96o4 [2, 3, 5, 11, 12, 13])
     (.draw F96A5 F96o5 F96p5 [2, 3, 11, 12, 13]))))
    (.ops F96o6 [2, 3, 11, 12, 13]))))))
def F96o8 : List AOper := [
  ⟨(some 27), .t (.mv (.t 3)), none⟩,
  ⟨(some 28), .t (.build [.nils] [(0, 1, (.t 27))]), none⟩,
  ⟨none, .m (.store 1 (.t 2) (.t 28)), none⟩]
def F96c : ACode :=
  (.seq (.ops F96o0 [1, 2])
  ((.seq (.ops F96o1 [1, 2, 3])
   ((.seq ((.seq (.ops F96o2 [2, 3, 11, 12, 13])
    (.block 0 (.loop [2, 3, 11, 12, 13] F96b7))))
    ((.seq (.ops F96o8 [2])
     (.ret))))))))
def F96 : AFn := ⟨29, [.cell 2 true 1], F96c⟩
theorem F96_ok : cFn Tryd.prog [] 96 = some F96 := by kernel_rfl

/- manifold/resolve.each[manifold/api.Call] -/
def F97o0 : List AOper := [
  ⟨(some 4), .t (.mv (.c .nils)), none⟩]
def F97o1 : List AOper := [
  ⟨(some 5), .t (.mv (.c .nils)), none⟩]
def F97o2 : List AOper := [
  ⟨(some 8), .t (.mv (.t 0)), none⟩,
  ⟨(some 9), .t (.len false (.t 8)), none⟩,
  ⟨(some 10), .t (.mv (.c (.int .i64 0))), none⟩]
def F97o3 : List AOper := [
  ⟨(some 11), .t (.bin .lss (.t 10) (.t 9)), none⟩]
def F97o4 : List AOper := [
  ⟨(some 12), .t (.iaddr 2 (.t 8) (.t 10)), none⟩,
  ⟨(some 13), .m (.load true 2 (.t 12)), none⟩,
  ⟨(some 7), .m (.alloc 87 [(.str []), .nils]), none⟩,
  ⟨none, .m (.store 2 (.t 7) (.t 13)), none⟩]
def F97o5 : List AOper := [
  ⟨(some 14), .t (.mv (.t 5)), none⟩,
  ⟨(some 15), .t (.mv (.t 1)), none⟩,
  ⟨(some 16), .m (.load true 2 (.t 7)), none⟩,
  ⟨(some 17), .call (.t 15) [(.t 16)], none⟩,
  ⟨(some 18), .m (.bslice false 87 2 1 [(.t 17)]), none⟩,
  ⟨(some 19), .m (.append false 87 2 40 (.t 14) (.t 18)), none⟩,
  ⟨(some 5), .t (.mv (.t 19)), none⟩]
def F97o6 : List AOper := [
  ⟨(some 20), .t (.bin .add (.t 10) (.c (.int .i64 1))), none⟩,
  ⟨(some 10), .t (.mv (.t 20)), none⟩]
def F97b7 : ACode :=
  (.seq (.ops F97o3 [1, 5, 8, 9, 10, 11])
  ((.seq (.cond (.t 11)
    (.skip)
    (.exit 0))
   ((.seq (.block 1 ((.seq (.ops F97o4 [1, 5, 7, 8, 9, 10])
     (.ops F97o5 [1, 5, 8, 9, 10]))))
    (.ops F97o6 [1, 5, 8, 9, 10]))))))
def F97o8 : List AOper := [
  ⟨(some 21), .t (.mv (.t 5)), none⟩,
  ⟨(some 4), .t (.mv (.t 21)), none⟩]
def F97c : ACode :=
  (.seq (.ops F97o0 [0, 1])
  ((.seq (.ops F97o1 [0, 1, 5])
   ((.seq ((.seq (.ops F97o2 [1, 5, 8, 9, 10])
    (.block 0 (.loop [1, 5, 8, 9, 10] F97b7))))
    ((.seq (.ops F97o8 [4])
     (.ret))))))))
def F97 : AFn := ⟨22, [.tmp 4], F97c⟩
theorem F97_ok : cFn Tryd.prog [] 97 = some F97 := by kernel_rfl

/- manifold/resolve.cloned$1 -/
def F98o0 : List AOper := [
  ⟨(some 1), .m (.box 87 (.t 0)), none⟩,
  ⟨(some 2), .m (.alloc 87 [(.str []), .nils]), none⟩]
def F98o1 : List AOper := [
  ⟨(some 3), .t (.faddr 1 (.t 1)), none⟩,
  ⟨(some 4), .m (.load true 1 (.t 3)), none⟩,
  ⟨(some 5), .call (.c (.clo 96 [] [])) [(.t 4)], none⟩,
  ⟨(some 6), .t (.faddr 1 (.t 1)), none⟩,
  ⟨none, .m (.store 1 (.t 6) (.t 5)), none⟩]
def F98o2 : List AOper := [
  ⟨(some 7), .m (.load true 2 (.t 1)), none⟩,
  ⟨none, .m (.store 2 (.t 2) (.t 7)), none⟩]
def F98c : ACode :=
  (.seq (.ops F98o0 [1, 2])
  ((.seq (.ops F98o1 [1, 2])
   ((.seq (.ops F98o2 [2])
    (.ret))))))
def F98 : AFn := ⟨8, [.cell 2 true 2], F98c⟩
theorem F98_ok : cFn Tryd.prog [] 98 = some F98 := by kernel_rfl

/- manifold/resolve.each[manifold/api.Branch] -/
def F99o0 : List AOper := [
  ⟨(some 4), .t (.mv (.c .nils)), none⟩]
def F99o1 : List AOper := [
  ⟨(some 5), .t (.mv (.c .nils)), none⟩]
def F99o2 : List AOper := [
  ⟨(some 8), .t (.mv (.t 0)), none⟩,
  ⟨(some 9), .t (.len false (.t 8)), none⟩,
  ⟨(some 10), .t (.mv (.c (.int .i64 0))), none⟩]
def F99o3 : List AOper := [
  ⟨(some 11), .t (.bin .lss (.t 10) (.t 9)), none⟩]
def F99o4 : List AOper := [
  ⟨(some 12), .t (.iaddr 2 (.t 8) (.t 10)), none⟩,
  ⟨(some 13), .m (.load true 2 (.t 12)), none⟩,
  ⟨(some 7), .m (.alloc 89 [.nils, .nils]), none⟩,
  ⟨none, .m (.store 2 (.t 7) (.t 13)), none⟩]
def F99o5 : List AOper := [
  ⟨(some 14), .t (.mv (.t 5)), none⟩,
  ⟨(some 15), .t (.mv (.t 1)), none⟩,
  ⟨(some 16), .m (.load true 2 (.t 7)), none⟩,
  ⟨(some 17), .call (.t 15) [(.t 16)], none⟩,
  ⟨(some 18), .m (.bslice false 89 2 1 [(.t 17)]), none⟩,
  ⟨(some 19), .m (.append false 89 2 48 (.t 14) (.t 18)), none⟩,
  ⟨(some 5), .t (.mv (.t 19)), none⟩]
def F99o6 : List AOper := [
  ⟨(some 20), .t (.bin .add (.t 10) (.c (.int .i64 1))), none⟩,
  ⟨(some 10), .t (.mv (.t 20)), none⟩]
def F99b7 : ACode :=
  (.seq (.ops F99o3 [1, 5, 8, 9, 10, 11])
  ((.seq (.cond (.t 11)
    (.skip)
    (.exit 0))
   ((.seq (.block 1 ((.seq (.ops F99o4 [1, 5, 7, 8, 9, 10])
     (.ops F99o5 [1, 5, 8, 9, 10]))))
    (.ops F99o6 [1, 5, 8, 9, 10]))))))
def F99o8 : List AOper := [
  ⟨(some 21), .t (.mv (.t 5)), none⟩,
  ⟨(some 4), .t (.mv (.t 21)), none⟩]
def F99c : ACode :=
  (.seq (.ops F99o0 [0, 1])
  ((.seq (.ops F99o1 [0, 1, 5])
   ((.seq ((.seq (.ops F99o2 [1, 5, 8, 9, 10])
    (.block 0 (.loop [1, 5, 8, 9, 10] F99b7))))
    ((.seq (.ops F99o8 [4])
     (.ret))))))))
def F99 : AFn := ⟨22, [.tmp 4], F99c⟩
theorem F99_ok : cFn Tryd.prog [] 99 = some F99 := by kernel_rfl

/- manifold/resolve.cloned$2 -/
def F100o0 : List AOper := [
  ⟨(some 1), .m (.box 89 (.t 0)), none⟩,
  ⟨(some 2), .m (.alloc 89 [.nils, .nils]), none⟩]
def F100o1 : List AOper := [
  ⟨(some 3), .t (.faddr 0 (.t 1)), none⟩,
  ⟨(some 4), .m (.load false 1 (.t 3)), none⟩,
  ⟨(some 5), .call (.c (.clo 94 [] [])) [(.t 4), (.c (.clo 95 [] []))], none⟩,
  ⟨(some 6), .t (.faddr 1 (.t 1)), none⟩,
  ⟨(some 7), .m (.load false 1 (.t 6)), none⟩]
def F100p1 : List AOper := [
  ⟨(some 8), .call (.c (.clo 74 [] [])) [(.t 7), (.c (.clo 70 [] []))], none⟩,
  ⟨(some 9), .t (.build [.nils, .nils] [(0, 1, (.t 5)), (1, 1, (.t 8))]), none⟩,
  ⟨none, .m (.store 2 (.t 2) (.t 9)), none⟩]
def F100A1 : List (List Nat) := [[], [0], [1, 0], [], [3], [4, 2, 3, 1, 0], [5, 4, 2, 3, 1, 0], [6, 5, 4, 2, 3, 1, 0]]
def F100c : ACode :=
  (.seq (.ops F100o0 [1, 2])
  ((.seq (.draw F100A1 F100o1 F100p1 [2])
   (.ret))))
def F100 : AFn := ⟨10, [.cell 2 true 2], F100c⟩
theorem F100_ok : cFn Tryd.prog [] 100 = some F100 := by kernel_rfl

/- manifold/resolve.visit$1 -/
def F102o0 : List AOper := [
  ⟨(some 7), .t (.mv (.t 0)), none⟩,
  ⟨(some 8), .t (.len false (.t 7)), none⟩,
  ⟨(some 9), .t (.mv (.c (.int .i64 0))), none⟩]
def F102o1 : List AOper := [
  ⟨(some 10), .t (.bin .lss (.t 9) (.t 8)), none⟩]
def F102o2 : List AOper := [
  ⟨(some 11), .t (.mv (.t 9)), none⟩,
  ⟨(some 5), .t (.mv (.t 11)), none⟩]
def F102o3 : List AOper := [
  ⟨(some 12), .m (.load false 1 (.t 1)), none⟩,
  ⟨(some 13), .t (.mv (.t 5)), none⟩,
  ⟨(some 14), .m (.bslice false 3 1 1 [(.t 13)]), none⟩,
  ⟨(some 15), .m (.append true 3 1 8 (.t 12) (.t 14)), none⟩,
  ⟨none, .m (.store 1 (.t 1) (.t 15)), none⟩]
def F102o4 : List AOper := [
  ⟨(some 16), .m (.load false 1 (.t 2)), none⟩,
  ⟨(some 17), .m (.load false 1 (.t 1)), none⟩,
  ⟨(some 18), .t (.mv (.t 0)), none⟩,
  ⟨(some 19), .t (.mv (.t 5)), none⟩,
  ⟨(some 20), .t (.iaddr 11 (.t 18) (.t 19)), none⟩]
def F102p4 : List AOper := [
  ⟨(some 21), .call (.t 16) [(.t 17), (.t 20)], none⟩]
def F102A4 : List (List Nat) := [[], [], [], [], [2, 3], [0, 1, 4, 2, 3]]
def F102o5 : List AOper := [
  ⟨(some 22), .t (.mv (.t 0)), none⟩,
  ⟨(some 23), .t (.mv (.t 5)), none⟩,
  ⟨(some 24), .t (.iaddr 11 (.t 22) (.t 23)), none⟩,
  ⟨(some 25), .t (.faddr 10 (.t 24)), none⟩,
  ⟨(some 26), .m (.load false 1 (.t 25)), none⟩,
  ⟨(some 27), .t (.len false (.t 26)), none⟩,
  ⟨(some 28), .t (.mv (.c (.int .i64 0))), none⟩]
def F102o6 : List AOper := [
  ⟨(some 29), .t (.bin .lss (.t 28) (.t 27)), none⟩]
def F102o7 : List AOper := [
  ⟨(some 30), .t (.mv (.t 28)), none⟩,
  ⟨(some 6), .t (.mv (.t 30)), none⟩]
def F102o8 : List AOper := [
  ⟨(some 31), .m (.load false 1 (.t 1)), none⟩,
  ⟨(some 32), .t (.mv (.t 6)), none⟩,
  ⟨(some 33), .m (.bslice false 3 1 1 [(.t 32)]), none⟩,
  ⟨(some 34), .m (.append true 3 1 8 (.t 31) (.t 33)), none⟩,
  ⟨none, .m (.store 1 (.t 1) (.t 34)), none⟩]
def F102o9 : List AOper := [
  ⟨(some 35), .m (.load false 1 (.t 3)), none⟩,
  ⟨(some 36), .t (.mv (.t 0)), none⟩,
  ⟨(some 37), .t (.mv (.t 5)), none⟩,
  ⟨(some 38), .t (.iaddr 11 (.t 36) (.t 37)), none⟩,
  ⟨(some 39), .t (.faddr 10 (.t 38)), none⟩,
  ⟨(some 40), .m (.load false 1 (.t 39)), none⟩,
  ⟨(some 41), .t (.mv (.t 6)), none⟩,
  ⟨(some 42), .t (.iaddr 2 (.t 40) (.t 41)), none⟩,
  ⟨(some 43), .t (.faddr 1 (.t 42)), none⟩,
  ⟨(some 44), .m (.load false 1 (.t 43)), none⟩]
def F102p9 : List AOper := [
  ⟨(some 45), .call (.t 35) [(.t 44)], none⟩]
def F102A9 : List (List Nat) := [[], [], [], [1, 2], [3, 1, 2], [4, 3, 1, 2], [], [5, 6, 4, 3, 1, 2], [7, 5, 6, 4, 3, 1, 2], [8, 7, 5, 6, 4, 3, 1, 2], [0, 9, 8, 7, 5, 6, 4, 3, 1, 2]]
def F102o10 : List AOper := [
  ⟨(some 46), .m (.load false 1 (.t 1)), none⟩,
  ⟨(some 47), .m (.load false 1 (.t 1)), none⟩,
  ⟨(some 48), .t (.len false (.t 47)), none⟩,
  ⟨(some 49), .t (.bin .sub (.t 48) (.c (.int .i64 1))), none⟩,
  ⟨(some 50), .t (.sliceL 1 (.t 46) none (some (.t 49))), none⟩,
  ⟨none, .m (.store 1 (.t 1) (.t 50)), none⟩]
def F102o11 : List AOper := [
  ⟨(some 51), .t (.bin .add (.t 28) (.c (.int .i64 1))), none⟩,
  ⟨(some 28), .t (.mv (.t 51)), none⟩]
def F102b12 : ACode :=
  (.seq (.ops F102o6 [0, 1, 2, 3, 5, 8, 9, 27, 28, 29])
  ((.seq (.cond (.t 29)
    (.skip)
    (.exit 2))
   ((.seq (.block 3 ((.seq (.ops F102o7 [0, 1, 2, 3, 5, 6, 8, 9, 27, 28])
     ((.seq (.ops F102o8 [0, 1, 2, 3, 5, 6, 8, 9, 27, 28])
      ((.seq (.draw F102A9 F102o9 F102p9 [0, 1, 2, 3, 5, 8, 9, 27, 28])
       (.ops F102o10 [0, 1, 2, 3, 5, 8, 9, 27, 28]))))))))
    (.ops F102o11 [0, 1, 2, 3, 5, 8, 9, 27, 28]))))))
def F102o13 : List AOper := [
  ⟨(some 52), .m (.load false 1 (.t 1)), none⟩,
  ⟨(some 53), .m (.load false 1 (.t 1)), none⟩,
  ⟨(some 54), .t (.len false (.t 53)), none⟩,
  ⟨(some 55), .t (.bin .sub (.t 54) (.c (.int .i64 1))), none⟩,
  ⟨(some 56), .t (.sliceL 1 (.t 52) none (some (.t 55))), none⟩,
  ⟨none, .m (.store 1 (.t 1) (.t 56)), none⟩]
def F102o14 : List AOper := [
  ⟨(some 57), .t (.bin .add (.t 9) (.c (.int .i64 1))), none⟩,
  ⟨(some 9), .t (.mv (.t 57)), none⟩]
def F102b15 : ACode :=
  (.seq (.ops F102o1 [0, 1, 2, 3, 8, 9, 10])
  ((.seq (.cond (.t 10)
    (.skip)
    (.exit 0))
   ((.seq (.block 1 ((.seq (.ops F102o2 [0, 1, 2, 3, 5, 8, 9])
     ((.seq (.ops F102o3 [0, 1, 2, 3, 5, 8, 9])
      ((.seq (.draw F102A4 F102o4 F102p4 [0, 1, 2, 3, 5, 8, 9])
       ((.seq ((.seq (.ops F102o5 [0, 1, 2, 3, 5, 8, 9, 27, 28])
        (.block 2 (.loop [0, 1, 2, 3, 5, 8, 9, 27, 28] F102b12))))
        (.ops F102o13 [0, 1, 2, 3, 8, 9]))))))))))
    (.ops F102o14 [0, 1, 2, 3, 8, 9]))))))
def F102c : ACode :=
  (.seq (.ops F102o0 [0, 1, 2, 3, 8, 9])
  (.block 0 (.loop [0, 1, 2, 3, 8, 9] F102b15)))
def F102 : AFn := ⟨58, [], F102c⟩
theorem F102_ok : cFn Tryd.prog [15, 34] 102 = some F102 := by kernel_rfl

end Go.Proofs.YtfbakipopjoghaaDoor
