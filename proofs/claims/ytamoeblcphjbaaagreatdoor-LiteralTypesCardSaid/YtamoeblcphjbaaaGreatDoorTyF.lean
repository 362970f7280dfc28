/- Functions of the program as the logic reads them, each with the proof that it is so read. -/
import Derived.Test.YtamoeblcphjbaaaGreatDoorProg
import Derived.KernelRfl
import Derived.Test.YtamoeblcphjbaaaGreatDoorTyQa
import Derived.Test.YtamoeblcphjbaaaGreatDoorTyQb
import Derived.Test.YtamoeblcphjbaaaGreatDoorTyQc
set_option maxRecDepth 100000
namespace Go.Ab
def zV (d s:Nat):AOper:=⟨some d,.t (.mv (.t s)),none⟩
def zT (d:Nat)(o:TOp):AOper:=⟨some d,.t o,none⟩
def zM (d:Nat)(o:MOp):AOper:=⟨some d,.m o,none⟩
def zL (d k s:Nat):AOper:=⟨some d,.m (.load false k (.t s)),none⟩
def zA (d k s:Nat):AOper:=⟨some d,.t (.faddr k (.t s)),none⟩
def zS (k x y:Nat):AOper:=⟨none,.m (.store k (.t x) (.t y)),none⟩
def kI (n:Int):AX:=.c (.int .i64 n)
def zQ (a:List AOper)(l:List Nat)(c:ACode):ACode:=.seq (.ops a l) c
def zK (s:Nat)(a b:ACode):ACode:=.cond (.t s) a b
def zi (d:Nat)(o:BinOp)(x:Nat)(n:Int):AOper:=⟨some d,.t (.bin o (.t x) (.c (.int .i64 n))),none⟩
def zt (d:Nat)(o:BinOp)(x y:Nat):AOper:=⟨some d,.t (.bin o (.t x) (.t y)),none⟩
def yi (d:Nat)(o:BinOp)(x:Nat)(n:Int)(g:Nat)(b:Bool):AOper:=⟨some d,.t (.bin o (.t x) (.c (.int .i64 n))),some (g,b)⟩
def yt (d:Nat)(o:BinOp)(x y g:Nat)(b:Bool):AOper:=⟨some d,.t (.bin o (.t x) (.t y)),some (g,b)⟩
def zv (d:Nat)(x:AX):AOper:=⟨some d,.t (.mv x),none⟩
def zp (d s t:Nat):AOper:=⟨some d,.t (.pick (.t s) (.t t) (.c (.bool false))),none⟩
def zo (d s t:Nat):AOper:=⟨some d,.t (.pick (.t s) (.c (.bool true)) (.t t)),none⟩
def zl (d s:Nat):AOper:=⟨some d,.t (.len true (.t s)),none⟩
def zk (d s:Nat):AOper:=⟨some d,.t (.len false (.t s)),none⟩
def zn (d s:Nat):AOper:=⟨some d,.t (.nilck (.t s)),none⟩
def p0:PV:=.int .i64 0
attribute [push_cast] zV zT zM zL zA zS kI zQ zK zi zt yi yt zv zp zo zl zk zn p0
end Go.Ab
namespace Go.Proofs.YtamoeblcphjbaaaGreatDoor
open Go Go.Ab
def Qb:AFn:=⟨20,[],zQ [zV 2 0,zn 3 2,zA 4 0 3,zL 5 1 4,zT 6 (.beq 1 false (.t 5) (.c .nilp))] [0,6] (zK 6 (.ops [zV 7 0,zV 8 0,zM 9 (.xop (.ucast 0 0 false (.t 8))),zM 10 (.xop (.noesc (.t 9))),zM 11 (.xop (.ucast 83 2 true (.t 10))),zn 12 7,zA 13 0 12,zS 1 13 11] []) (zQ [zV 14 0,zn 15 14,zA 16 0 15,zL 17 1 16,zV 18 0,zM 19 (.xop (.peq true (.t 17) (.t 18)))] [19] (zK 19 (.ops [⟨none,.call (.c .undef) [],none⟩] []) .skip)))⟩
theorem PE:cFn Tryz.prog [19] 107=some Qb:=by kernel_rfl
def VR:AFn:=⟨8,[.tmp 4],zQ [zv 4 (kI 0)] [0,1] (zQ [zV 5 0,zV 6 1,zM 7 (.xop (.idxb (.t 5) (.t 6))),zV 4 7] [4] .ret)⟩
theorem PD:cFn Tryz.prog [] 206=some VR:=by kernel_rfl
