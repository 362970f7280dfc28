/- Functions of the program as the logic reads them, each with the proof that it is so read. -/
import Derived.Test.YtbojpfpliibfbaaGreatDoorProg
import Derived.KernelRfl
import Derived.Test.YtbojpfpliibfbaaGreatDoorDeQa
import Derived.Test.YtbojpfpliibfbaaGreatDoorDeQb
import Derived.Test.YtbojpfpliibfbaaGreatDoorDeQc
set_option maxRecDepth 100000
namespace Go.Ab
def zV (d s:Nat):AOper:=⟨some d,.t (.mv (.t s)),none⟩
def zT (d:Nat)(o:TOp):AOper:=⟨some d,.t o,none⟩
def zM (d:Nat)(o:MOp):AOper:=⟨some d,.m o,none⟩
def kI (n:Int):AX:=.c (.int .i64 n)
def zQ (a:List AOper)(l:List Nat)(c:ACode):ACode:=.seq (.ops a l) c
def zK (s:Nat)(a b:ACode):ACode:=.cond (.t s) a b
def zi (d:Nat)(o:BinOp)(x:Nat)(n:Int):AOper:=⟨some d,.t (.bin o (.t x) (.c (.int .i64 n))),none⟩
def zt (d:Nat)(o:BinOp)(x y:Nat):AOper:=⟨some d,.t (.bin o (.t x) (.t y)),none⟩
def yi (d:Nat)(o:BinOp)(x:Nat)(n:Int)(g:Nat)(b:Bool):AOper:=⟨some d,.t (.bin o (.t x) (.c (.int .i64 n))),some (g,b)⟩
def yt (d:Nat)(o:BinOp)(x y g:Nat)(b:Bool):AOper:=⟨some d,.t (.bin o (.t x) (.t y)),some (g,b)⟩
def zv (d:Nat)(x:AX):AOper:=⟨some d,.t (.mv x),none⟩
def zp (d s t:Nat):AOper:=⟨some d,.t (.pick (.t s) (.t t) (.c (.bool false))),none⟩
def zo (d s t:Nat):AOper:=⟨some d,.t (.pick (.t s) (.c (.bool true)) (.t t)),none⟩
def zl (d s:Nat):AOper:=⟨some d,.t (.len true (.t s)),none⟩
def zk (d s:Nat):AOper:=⟨some d,.t (.len false (.t s)),none⟩
def zn (d s:Nat):AOper:=⟨some d,.t (.nilck (.t s)),none⟩
def p0:PV:=.int .i64 0
attribute [push_cast] zV zT zM kI zQ zK zi zt yi yt zv zp zo zl zk zn p0
end Go.Ab
namespace Go.Proofs.YtbojpfpliibfbaaGreatDoor
open Go Go.Ab
def Sp:AFn:=⟨8,[.tmp 4],zQ [zv 4 (kI 0)] [0,1] (zQ [zV 5 0,zV 6 1,zM 7 (.xop (.idxb (.t 5) (.t 6))),zV 4 7] [4] .ret)⟩
theorem LM:cFn Tryz.prog [] 250=some Sp:=by kernel_rfl
end Go.Proofs.YtbojpfpliibfbaaGreatDoor
