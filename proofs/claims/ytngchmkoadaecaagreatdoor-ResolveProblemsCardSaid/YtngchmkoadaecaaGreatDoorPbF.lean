/- Functions of the program as the logic reads them, each with the proof that it is so read. -/
import Derived.Test.YtngchmkoadaecaaGreatDoorProg
import Derived.KernelRfl
import Derived.Test.YtngchmkoadaecaaGreatDoorPbQa
import Derived.Test.YtngchmkoadaecaaGreatDoorPbQb
import Derived.Test.YtngchmkoadaecaaGreatDoorPbQc
set_option maxRecDepth 100000
namespace Go.Ab
def zV (d s:Nat):AOper:=⟨some d,.t (.mv (.t s)),none⟩
def zT (d:Nat)(o:TOp):AOper:=⟨some d,.t o,none⟩
def zM (d:Nat)(o:MOp):AOper:=⟨some d,.m o,none⟩
def zC (d f:Nat)(l:List AX):AOper:=⟨some d,.call (.c (.clo f [] [])) l,none⟩
def zL (d k s:Nat):AOper:=⟨some d,.m (.load false k (.t s)),none⟩
def zR (d k s:Nat):AOper:=⟨some d,.m (.load true k (.t s)),none⟩
def zA (d k s:Nat):AOper:=⟨some d,.t (.faddr k (.t s)),none⟩
def zX (d s k:Nat):AOper:=⟨some d,.t (.ext (.t s) k),none⟩
def zS (k x y:Nat):AOper:=⟨none,.m (.store k (.t x) (.t y)),none⟩
def zB (d:Nat)(o:BinOp)(x y:AX):AOper:=⟨some d,.t (.bin o x y),none⟩
def zN (o:MOp):AOper:=⟨none,.m o,none⟩
def yV (d s g:Nat)(b:Bool):AOper:=⟨some d,.t (.mv (.t s)),some (g,b)⟩
def yT (d:Nat)(o:TOp)(g:Nat)(b:Bool):AOper:=⟨some d,.t o,some (g,b)⟩
def yM (d:Nat)(o:MOp)(g:Nat)(b:Bool):AOper:=⟨some d,.m o,some (g,b)⟩
def yL (d k s g:Nat)(b:Bool):AOper:=⟨some d,.m (.load false k (.t s)),some (g,b)⟩
def yA (d k s g:Nat)(b:Bool):AOper:=⟨some d,.t (.faddr k (.t s)),some (g,b)⟩
def yB (d:Nat)(o:BinOp)(x y:AX)(g:Nat)(b:Bool):AOper:=⟨some d,.t (.bin o x y),some (g,b)⟩
def yC (d f:Nat)(l:List AX)(g:Nat)(b:Bool):AOper:=⟨some d,.call (.c (.clo f [] [])) l,some (g,b)⟩
def kI (n:Int):AX:=.c (.int .i64 n)
def kF:AX:=.c (.bool false)
def kT:AX:=.c (.bool true)
def kS (l:List UInt8):AX:=.c (.str l)
def zQ (a:List AOper)(l:List Nat)(c:ACode):ACode:=.seq (.ops a l) c
def zK (s:Nat)(a b:ACode):ACode:=.cond (.t s) a b
def zi (d:Nat)(o:BinOp)(x:Nat)(n:Int):AOper:=⟨some d,.t (.bin o (.t x) (.c (.int .i64 n))),none⟩
def zt (d:Nat)(o:BinOp)(x y:Nat):AOper:=⟨some d,.t (.bin o (.t x) (.t y)),none⟩
def yi (d:Nat)(o:BinOp)(x:Nat)(n:Int)(g:Nat)(b:Bool):AOper:=⟨some d,.t (.bin o (.t x) (.c (.int .i64 n))),some (g,b)⟩
def yt (d:Nat)(o:BinOp)(x y g:Nat)(b:Bool):AOper:=⟨some d,.t (.bin o (.t x) (.t y)),some (g,b)⟩
def zv (d:Nat)(x:AX):AOper:=⟨some d,.t (.mv x),none⟩
def zp (d s t:Nat):AOper:=⟨some d,.t (.pick (.t s) (.t t) (.c (.bool false))),none⟩
def zo (d s t:Nat):AOper:=⟨some d,.t (.pick (.t s) (.c (.bool true)) (.t t)),none⟩
def zl (d s:Nat):AOper:=⟨some d,.t (.len true (.t s)),none⟩
def zk (d s:Nat):AOper:=⟨some d,.t (.len false (.t s)),none⟩
def zn (d s:Nat):AOper:=⟨some d,.t (.nilck (.t s)),none⟩
def p0:PV:=.int .i64 0
def gF (P:Program)(f:Nat)(m:List Nat):AFn:=(cFn P m f).getD ⟨0,[],.skip⟩
attribute [push_cast] zV zT zM zC zL zR zA zX zS zB zN yV yT yM yL yA yB yC kI kF kT kS zQ zK zi zt yi yt zv zp zo zl zk zn p0
end Go.Ab
namespace Go.Proofs.YtngchmkoadaecaaGreatDoor
open Go Go.Ab
def Wb:List (List Nat):=[[],[],[0,1],[2,0,1],[3,2,0,1],[],[],[5,6],[7,5,6],[8,7,5,6],[4,9,3,2,0,1,8,7,5,6],[10,4,9,3,2,0,1,8,7,5,6],[11,10,4,9,3,2,0,1,8,7,5,6],[11,10,4,9,3,2,0,1,8,7,5,6],[12,13,11,10,4,9,3,2,0,1,8,7,5,6],[14,12,13,11,10,4,9,3,2,0,1,8,7,5,6],[15,14,12,13,11,10,4,9,3,2,0,1,8,7,5,6],[11,10,4,9,3,2,0,1,8,7,5,6],[11,10,4,9,3,2,0,1,8,7,5,6],[17,18,11,10,4,9,3,2,0,1,8,7,5,6],[19,17,18,11,10,4,9,3,2,0,1,8,7,5,6],[20,19,17,18,11,10,4,9,3,2,0,1,8,7,5,6],[16,21,15,14,12,13,20,19,17,18,11,10,4,9,3,2,0,1,8,7,5,6],[22,16,21,15,14,12,13,20,19,17,18,11,10,4,9,3,2,0,1,8,7,5,6],[23,22,16,21,15,14,12,13,20,19,17,18,11,10,4,9,3,2,0,1,8,7,5,6],[24,23,22,16,21,15,14,12,13,20,19,17,18,11,10,4,9,3,2,0,1,8,7,5,6],[24,23,22,16,21,15,14,12,13,20,19,17,18,11,10,4,9,3,2,0,1,8,7,5,6],[25,26,24,23,22,16,21,15,14,12,13,20,19,17,18,11,10,4,9,3,2,0,1,8,7,5,6],[27,25,26,24,23,22,16,21,15,14,12,13,20,19,17,18,11,10,4,9,3,2,0,1,8,7,5,6],[28,27,25,26,24,23,22,16,21,15,14,12,13,20,19,17,18,11,10,4,9,3,2,0,1,8,7,5,6],[24,23,22,16,21,15,14,12,13,20,19,17,18,11,10,4,9,3,2,0,1,8,7,5,6],[24,23,22,16,21,15,14,12,13,20,19,17,18,11,10,4,9,3,2,0,1,8,7,5,6],[30,31,24,23,22,16,21,15,14,12,13,20,19,17,18,11,10,4,9,3,2,0,1,8,7,5,6],[32,30,31,24,23,22,16,21,15,14,12,13,20,19,17,18,11,10,4,9,3,2,0,1,8,7,5,6],[33,32,30,31,24,23,22,16,21,15,14,12,13,20,19,17,18,11,10,4,9,3,2,0,1,8,7,5,6],[29,34,28,27,25,26,33,32,30,31,24,23,22,16,21,15,14,12,13,20,19,17,18,11,10,4,9,3,2,0,1,8,7,5,6],[35,29,34,28,27,25,26,33,32,30,31,24,23,22,16,21,15,14,12,13,20,19,17,18,11,10,4,9,3,2,0,1,8,7,5,6],[36,35,29,34,28,27,25,26,33,32,30,31,24,23,22,16,21,15,14,12,13,20,19,17,18,11,10,4,9,3,2,0,1,8,7,5,6],[37,36,35,29,34,28,27,25,26,33,32,30,31,24,23,22,16,21,15,14,12,13,20,19,17,18,11,10,4,9,3,2,0,1,8,7,5,6],[37,36,35,29,34,28,27,25,26,33,32,30,31,24,23,22,16,21,15,14,12,13,20,19,17,18,11,10,4,9,3,2,0,1,8,7,5,6],[38,39,37,36,35,29,34,28,27,25,26,33,32,30,31,24,23,22,16,21,15,14,12,13,20,19,17,18,11,10,4,9,3,2,0,1,8,7,5,6],[40,38,39,37,36,35,29,34,28,27,25,26,33,32,30,31,24,23,22,16,21,15,14,12,13,20,19,17,18,11,10,4,9,3,2,0,1,8,7,5,6],[41,40,38,39,37,36,35,29,34,28,27,25,26,33,32,30,31,24,23,22,16,21,15,14,12,13,20,19,17,18,11,10,4,9,3,2,0,1,8,7,5,6],[37,36,35,29,34,28,27,25,26,33,32,30,31,24,23,22,16,21,15,14,12,13,20,19,17,18,11,10,4,9,3,2,0,1,8,7,5,6],[37,36,35,29,34,28,27,25,26,33,32,30,31,24,23,22,16,21,15,14,12,13,20,19,17,18,11,10,4,9,3,2,0,1,8,7,5,6],[43,44,37,36,35,29,34,28,27,25,26,33,32,30,31,24,23,22,16,21,15,14,12,13,20,19,17,18,11,10,4,9,3,2,0,1,8,7,5,6],[45,43,44,37,36,35,29,34,28,27,25,26,33,32,30,31,24,23,22,16,21,15,14,12,13,20,19,17,18,11,10,4,9,3,2,0,1,8,7,5,6],[46,45,43,44,37,36,35,29,34,28,27,25,26,33,32,30,31,24,23,22,16,21,15,14,12,13,20,19,17,18,11,10,4,9,3,2,0,1,8,7,5,6],[42,47,41,40,38,39,46,45,43,44,37,36,35,29,34,28,27,25,26,33,32,30,31,24,23,22,16,21,15,14,12,13,20,19,17,18,11,10,4,9,3,2,0,1,8,7,5,6],[48,42,47,41,40,38,39,46,45,43,44,37,36,35,29,34,28,27,25,26,33,32,30,31,24,23,22,16,21,15,14,12,13,20,19,17,18,11,10,4,9,3,2,0,1,8,7,5,6],[49,48,42,47,41,40,38,39,46,45,43,44,37,36,35,29,34,28,27,25,26,33,32,30,31,24,23,22,16,21,15,14,12,13,20,19,17,18,11,10,4,9,3,2,0,1,8,7,5,6]]
def F8:AFn:=⟨69,[.tmp 4],zQ [zv 4 kF] [0,1] (.seq (zQ [zV 6 0,zk 7 6,zV 8 1,zk 9 8,zT 10 (.imin (.t 9) (kI 200)),zt 11 .neq 7 10] [0,1,11] (zK 11 (zQ [zv 4 kF] [4] .ret) .skip)) (.seq (zQ [zv 5 (kI 0)] [0,1,5] (.block 0 (.loop [0,1,5] (.seq (zQ [zV 12 5,zV 13 0,zk 14 13,zt 15 .lss 12 14] [0,1,5,15] (zK 15 .skip (.exit 0))) (.seq (.block 1 (.seq (.draw Wb [zV 18 0,zV 19 5,zT 20 (.iaddr 4 (.t 18) (.t 19)),zA 21 0 20,zL 22 1 21,zV 23 1,zV 24 5,zT 25 (.iaddr 4 (.t 23) (.t 24)),zA 26 0 25,zL 27 1 26,zt 28 .neq 22 27,zV 29 28,yV 30 0 29 false,yV 31 5 29 false,yT 32 (.iaddr 4 (.t 30) (.t 31)) 29 false,yA 33 1 32 29 false,yL 34 1 33 29 false,yV 35 1 29 false,yV 36 5 29 false,yT 37 (.iaddr 4 (.t 35) (.t 36)) 29 false,yA 38 1 37 29 false,yL 39 1 38 29 false,yt 40 .neq 34 39 29 false,zo 41 29 40,zV 42 41,yV 43 0 42 false,yV 44 5 42 false,yT 45 (.iaddr 4 (.t 43) (.t 44)) 42 false,yA 46 3 45 42 false,yL 47 1 46 42 false,yV 48 1 42 false,yV 49 5 42 false,yT 50 (.iaddr 4 (.t 48) (.t 49)) 42 false,yA 51 3 50 42 false,yL 52 1 51 42 false,yt 53 .neq 47 52 42 false,zo 54 42 53,zV 55 54,yV 56 0 55 false,yV 57 5 55 false,yT 58 (.iaddr 4 (.t 56) (.t 57)) 55 false,yA 59 2 58 55 false,yL 60 1 59 55 false,yV 61 1 55 false,yV 62 5 55 false,yT 63 (.iaddr 4 (.t 61) (.t 62)) 55 false,yA 64 2 63 55 false,yL 65 1 64 55 false] [yC 66 23 [.t 60,.t 65] 55 false,yT 67 (.not (.t 66)) 55 false,zo 68 55 67] [0,1,5,68]) (zK 68 (zQ [zv 4 kF] [4] .ret) .skip))) (.ops [zV 16 5,zi 17 .add 16 1,zV 5 17] [0,1,5])))))) (zQ [zv 4 kT] [4] .ret)))⟩
theorem VH:cFn Tryz.prog [] 8=some F8:=by kernel_rfl
def VM:List (List Nat):=[[],[0],[1,0],[],[3],[4,2,3,1,0],[],[6],[7,5,6,4,2,3,1,0],[2,4,7,1,0,3,6],[9,8,7,5,4,2,1,0,3,6],[10,9,8,7,5,4,2,1,0,3,6],[11,10,9,8,7,5,4,2,1,0,3,6],[12,11,10,9,8,7,5,4,2,1,0,3,6],[13,12,11,10,9,8,7,5,4,2,1,0,3,6]]
def VL:List (List Nat):=[[],[0],[],[2],[3,2],[4,3,2],[1,5,0,4,3,2],[],[],[8],[],[10],[11,10],[12,11,10],[9,13,8,12,11,10],[7,14,9,13,8,12,11,10],[],[16],[17,16],[],[19],[20,19],[21,20,19],[22,21,20,19],[18,23,17,16,22,21,20,19],[6,9,11,18,21,1,5,0,4,3,2,8,10,17,16,20,19],[25,15,6,18,21,7,14,9,13,12,11,1,5,0,4,3,2,8,10,17,16,20,19],[26,25,15,6,18,21,7,14,9,13,12,11,1,5,0,4,3,2,8,10,17,16,20,19],[27,26,25,15,6,18,21,7,14,9,13,12,11,1,5,0,4,3,2,8,10,17,16,20,19],[24,28,23,22,27,26,25,15,6,18,21,7,14,9,13,12,11,1,5,0,4,3,2,8,10,17,16,20,19],[29,24,28,23,22,27,26,25,15,6,18,21,7,14,9,13,12,11,1,5,0,4,3,2,8,10,17,16,20,19],[30,29,24,28,23,22,27,26,25,15,6,18,21,7,14,9,13,12,11,1,5,0,4,3,2,8,10,17,16,20,19]]
def VK:List (List Nat):=[[],[0],[],[],[3],[],[4,5,3],[6,4,5,3],[7,6,4,5,3],[8,7,6,4,5,3],[1,2,9,0,8,7,6,4,5,3],[10,1,2,9,0,8,7,6,4,5,3],[11,10,1,2,9,0,8,7,6,4,5,3]]
def Tw:List (List Nat):=[[],[0],[],[2],[],[4],[5,4],[6,5,4],[3,7,2,6,5,4],[],[9],[],[11],[10,12,9,11],[8,13,3,7,2,6,5,4,10,12,9,11],[14,8,13,3,7,2,6,5,4,10,12,9,11],[1,15,0,14,8,13,3,7,2,6,5,4,10,12,9,11],[16,1,15,0,14,8,13,3,7,2,6,5,4,10,12,9,11],[17,16,1,15,0,14,8,13,3,7,2,6,5,4,10,12,9,11]]
def F19:AFn:=⟨135,[.tmp 4],zQ [zv 4 (.c .nils)] [0,1] (zQ [zv 5 (.c .nils)] [0,1,5] (.seq (zQ [zv 6 (kI 0)] [0,1,5,6] (.block 0 (.loop [0,1,5,6] (.seq (zQ [zV 11 6,zV 12 0,zk 13 12,zt 14 .lss 11 13,zV 15 14,yV 16 6 15 true,yi 17 .lss 16 8 15 true,zp 18 15 17] [0,1,5,6,18] (zK 18 .skip (.exit 0))) (.seq (.block 1 (zQ [zV 21 0,zV 22 6,zT 23 (.iaddr 11 (.t 21) (.t 22)),zR 24 11 23,zM 7 (.alloc 51 [.str [],p0,p0,p0,p0,.str [],.str [],.nils,.nils,.nils,.nils]),zS 11 7 24] [0,1,5,6,7] (.seq (.draw VM [zA 25 0 7,zL 26 1 25,zC 27 17 [.t 26],zA 28 5 7,zL 29 1 28,zC 30 17 [.t 29],zA 31 6 7,zL 32 1 31,zC 33 17 [.t 32],zA 34 0 7] [zS 1 34 27,zA 35 5 7,zS 1 35 30,zA 36 6 7,zS 1 36 33] [0,1,5,6,7]) (.seq (.draw VL [zA 37 7 7,zL 38 1 37,zA 39 7 7,zL 40 1 39,zk 41 40,zT 42 (.imin (.t 41) (kI 3)),zT 43 (.sliceL 5 (.t 38) none (some (.t 42))),zM 44 (.bslice true 61 2 0 []),zA 45 9 7,zL 46 1 45,zA 47 9 7,zL 48 1 47,zk 49 48,zT 50 (.imin (.t 49) (kI 18)),zT 51 (.sliceL 2 (.t 46) none (some (.t 50))),zM 52 (.append true 61 2 40 (.t 44) (.t 51)),zA 53 8 7,zA 54 0 53,zL 55 1 54,zA 56 8 7,zA 57 0 56,zL 58 1 57,zk 59 58,zT 60 (.imin (.t 59) (kI 4)),zT 61 (.sliceL 6 (.t 55) none (some (.t 60))),zA 62 7 7,zS 1 62 43,zA 63 9 7,zS 1 63 52] [zA 64 8 7,zA 65 0 64,zS 1 65 61] [0,1,5,6,7]) (.seq (zQ [zv 8 (kI 0)] [0,1,5,6,7,8] (.block 2 (.loop [0,1,5,6,7,8] (.seq (zQ [zV 66 8,zA 67 9 7,zL 68 1 67,zk 69 68,zt 70 .lss 66 69] [0,1,5,6,7,8,70] (zK 70 .skip (.exit 2))) (.seq (.block 3 (.draw VK [zA 73 9 7,zL 74 1 73,zV 75 8,zA 76 9 7,zL 77 1 76,zV 78 8,zT 79 (.iaddr 2 (.t 77) (.t 78)),zA 80 0 79,zL 81 1 80,zC 82 17 [.t 81]] [zT 83 (.iaddr 2 (.t 74) (.t 75)),zA 84 0 83,zS 1 84 82] [0,1,5,6,7,8])) (.ops [zV 71 8,zi 72 .add 71 1,zV 8 72] [0,1,5,6,7,8])))))) (zQ [zA 85 10 7,zN (.store 1 (.t 85) (.c .nils))] [0,1,5,6,7] (.seq (zQ [zv 9 (kI 0)] [0,1,5,6,7,9] (.block 4 (.loop [0,1,5,6,7,9] (.seq (zQ [zV 86 9,zV 87 0,zV 88 6,zT 89 (.iaddr 11 (.t 87) (.t 88)),zA 90 10 89,zL 91 1 90,zk 92 91,zt 93 .lss 86 92,zV 94 93,yV 95 9 94 true,yi 96 .lss 95 4 94 true,zp 97 94 96,zV 98 97,yV 99 1 98 true,yi 100 .gtr 99 0 98 true,zp 101 98 100] [0,1,5,6,7,9,101] (zK 101 .skip (.exit 4))) (.seq (.block 5 (zQ [zV 104 0,zV 105 6,zT 106 (.iaddr 11 (.t 104) (.t 105)),zA 107 10 106,zL 108 1 107,zV 109 9,zT 110 (.iaddr 2 (.t 108) (.t 109)),zR 111 2 110,zM 10 (.alloc 111 [.nils,.nils]),zS 2 10 111] [0,1,5,6,7,9,10] (.draw Tw [zA 112 10 7,zL 113 1 112,zA 114 0 10,zL 115 1 114,zA 116 0 10,zL 117 1 116,zk 118 117,zT 119 (.imin (.t 118) (kI 2)),zT 120 (.sliceL 5 (.t 115) none (some (.t 119))),zA 121 1 10,zL 122 1 121,zV 123 1,zi 124 .sub 123 1,zC 125 19 [.t 122,.t 124],zT 126 (.build [.nils,.nils] [(0,1,(.t 120)),(1,1,(.t 125))]),zM 127 (.bslice false 111 2 1 [.t 126])] [zM 128 (.append false 111 2 48 (.t 113) (.t 127)),zA 129 10 7,zS 1 129 128] [0,1,5,6,7,9]))) (.ops [zV 102 9,zi 103 .add 102 1,zV 9 103] [0,1,5,6,7,9])))))) (.ops [zV 130 5,⟨some 131,.fz (some (true,11)) (.t 7),none⟩,zM 132 (.bslice false 51 11 1 [.t 131]),zM 133 (.append false 51 11 176 (.t 130) (.t 132)),zV 5 133] [0,1,5,6])))))))) (.ops [zV 19 6,zi 20 .add 19 1,zV 6 20] [0,1,5,6])))))) (zQ [zV 134 5,zV 4 134] [4] .ret)))⟩
theorem Tv:cFn Tryz.prog [44,52,1000131] 19=some F19:=by kernel_rfl
def Tq:List AOper:=[⟨some 3,.m (.cbox 27 (.t 0)),none⟩,⟨some 6,.t (.mv (.c .nils)),none⟩]
def Tp:List AOper:=[⟨some 26,.t (.faddr 4 (.t 3)),none⟩,⟨some 27,.m (.load false 1 (.t 26)),none⟩,⟨some 28,.t (.mv (.t 1)),none⟩,⟨some 29,.t (.iaddr 3 (.t 27) (.t 28)),none⟩,⟨some 30,.m (.load true 3 (.t 29)),none⟩,⟨some 7,.m (.alloc 64 [(.str []),(.str []),.nils]),none⟩,⟨none,.m (.store 3 (.t 7) (.t 30)),none⟩]
def To:List AOper:=[⟨some 8,.m (.alloc 32 [.nils]),none⟩]
def Tn:List AOper:=[⟨some 31,.t (.clo 93 [] [(.t 8),(.t 7)]),none⟩,⟨some 9,.t (.mv (.t 31)),none⟩]
def Tm:List AOper:=[⟨some 32,.t (.mv (.t 9)),none⟩,⟨some 33,.t (.faddr 0 (.t 7)),none⟩,⟨some 34,.m (.load false 1 (.t 33)),none⟩,⟨some 35,.call (.c (.clo 32 [] [])) [(.t 34)],none⟩,⟨some 36,.t (.not (.t 35)),none⟩,⟨some 37,.t (.faddr 0 (.t 7)),none⟩,⟨some 38,.m (.load false 1 (.t 37)),none⟩]
def Th:List AOper:=[⟨some 39,.call (.t 32) [(.t 36),(.c (.int .i64 1)),(.t 38),(.c .nils)],none⟩]
def VJ:List (List Nat):=[[],[],[1],[2,1],[3,2,1],[],[5],[0,4,6,3,5,2,1]]
def Tl:List AOper:=[⟨some 10,.t (.mv (.c (.bool false))),none⟩,⟨some 11,.t (.mv (.c (.bool false))),none⟩]
def Tk:List AOper:=[⟨some 12,.t (.mv (.c (.int .i64 0))),none⟩]
def Pr:List AOper:=[⟨some 40,.t (.mv (.t 12)),none⟩,⟨some 41,.t (.mv (.t 1)),none⟩,⟨some 42,.t (.bin .lss (.t 40) (.t 41)),none⟩]
def Tj:List AOper:=[⟨some 45,.t (.mv (.t 10)),none⟩,⟨some 46,.t (.mv (.t 45)),none⟩,⟨some 47,.t (.faddr 4 (.t 3)),(some (46,false))⟩,
 ⟨some 48,.m (.load false 1 (.t 47)),(some (46,false))⟩,
 ⟨some 49,.t (.mv (.t 12)),(some (46,false))⟩,
 ⟨some 50,.t (.iaddr 3 (.t 48) (.t 49)),(some (46,false))⟩,
 ⟨some 51,.t (.faddr 0 (.t 50)),(some (46,false))⟩,
 ⟨some 52,.m (.load false 1 (.t 51)),(some (46,false))⟩,
 ⟨some 53,.t (.faddr 0 (.t 7)),(some (46,false))⟩,
 ⟨some 54,.m (.load false 1 (.t 53)),(some (46,false))⟩,
 ⟨some 55,.t (.bin .eql (.t 52) (.t 54)),(some (46,false))⟩,
 ⟨some 56,.t (.pick (.t 46) (.c (.bool true)) (.t 55)),none⟩,⟨some 57,.t (.mv (.t 11)),none⟩,⟨some 58,.t (.mv (.t 57)),none⟩,⟨some 59,.t (.faddr 4 (.t 3)),(some (58,false))⟩,
 ⟨some 60,.m (.load false 1 (.t 59)),(some (58,false))⟩,
 ⟨some 61,.t (.mv (.t 12)),(some (58,false))⟩,
 ⟨some 62,.t (.iaddr 3 (.t 60) (.t 61)),(some (58,false))⟩,
 ⟨some 63,.t (.faddr 1 (.t 62)),(some (58,false))⟩,
 ⟨some 64,.m (.load false 1 (.t 63)),(some (58,false))⟩,
 ⟨some 65,.t (.faddr 1 (.t 7)),(some (58,false))⟩,
 ⟨some 66,.m (.load false 1 (.t 65)),(some (58,false))⟩,
 ⟨some 67,.t (.bin .eql (.t 64) (.t 66)),(some (58,false))⟩,
 ⟨some 68,.t (.pick (.t 58) (.c (.bool true)) (.t 67)),none⟩,⟨some 10,.t (.mv (.t 56)),none⟩]
def Tg:List AOper:=[⟨some 11,.t (.mv (.t 68)),none⟩]
def VI:List (List Nat):=[[],[0],[1,0],[2,1,0],[1,0],[3,4,2,1,0],[5,3,4,2,1,0],[6,5,3,4,2,1,0],[1,0],[8,1,0],[7,9,6,5,3,4,2,8,1,0],[10,7,9,6,5,3,4,2,8,1,0],[],[12,1,0],[13,12,1,0],[14,13,12,1,0],[13,12,1,0],[15,16,14,13,12,1,0],[17,15,16,14,13,12,1,0],[18,17,15,16,14,13,12,1,0],[13,12,1,0],[20,13,12,1,0],[19,21,18,17,15,16,14,20,13,12,1,0],[22,19,21,18,17,15,16,14,20,13,12,1,0],[13,11,12,10,7,9,6,5,3,4,2,8,1,0],[23,24,22,19,21,18,17,15,16,14,20,13,11,12,10,7,9,6,5,3,4,2,8,1,0]]
def Ti:List AOper:=[⟨some 43,.t (.mv (.t 12)),none⟩,⟨some 44,.t (.bin .add (.t 43) (.c (.int .i64 1))),none⟩,⟨some 12,.t (.mv (.t 44)),none⟩]
def FJ:ACode:=
(.seq ((.seq (.ops Pr [1,2,3,7,8,9,10,11,12,42])
(.cond (.t 42)
(.skip)
(.exit 0))))
((.seq (.block 1 (.draw VI Tj Tg [1,2,3,7,8,9,10,11,12]))
(.ops Ti [1,2,3,7,8,9,10,11,12]))))
def Le:List AOper:=[⟨some 69,.t (.mv (.t 9)),none⟩,⟨some 70,.t (.mv (.t 10)),none⟩,⟨some 71,.t (.faddr 0 (.t 7)),none⟩,⟨some 72,.m (.load false 1 (.t 71)),none⟩,⟨some 73,.call (.t 69) [(.t 70),(.c (.int .i64 2)),(.t 72),(.c .nils)],none⟩]
def Ld:List AOper:=[⟨some 75,.m (.load true 5 (.t 3)),none⟩,⟨some 76,.t (.faddr 1 (.t 7)),none⟩,⟨some 77,.m (.load false 1 (.t 76)),none⟩,⟨some 78,.call (.c (.clo 13 [] [])) [(.t 75),(.t 77)],none⟩,⟨some 74,.t (.mv (.t 78)),none⟩,⟨some 79,.t (.ext (.t 74) 0),none⟩,⟨some 80,.t (.ext (.t 74) 1),none⟩,⟨some 13,.m (.alloc 39 [(.str []),(.int .i64 0),(.str []),(.int .i64 0),(.int .i64 0),(.int .i64 0),.nils]),none⟩,⟨none,.m (.store 7 (.t 13) (.t 79)),none⟩,⟨some 14,.t (.mv (.t 80)),none⟩]
def FH:List AOper:=[⟨some 81,.t (.mv (.t 9)),none⟩,⟨some 82,.t (.mv (.t 14)),none⟩,⟨some 83,.t (.not (.t 82)),none⟩,⟨some 84,.t (.faddr 1 (.t 7)),none⟩,⟨some 85,.m (.load false 1 (.t 84)),none⟩,⟨some 86,.call (.t 81) [(.t 83),(.c (.int .i64 3)),(.t 85),(.c .nils)],none⟩]
def FG:List AOper:=[⟨some 87,.t (.mv (.t 9)),none⟩,⟨some 88,.t (.mv (.t 14)),none⟩,⟨some 89,.t (.mv (.t 88)),none⟩,⟨some 90,.t (.faddr 1 (.t 13)),(some (89,true))⟩,
 ⟨some 91,.m (.load false 1 (.t 90)),(some (89,true))⟩,
 ⟨some 92,.t (.bin .eql (.t 91) (.c (.int .i64 2))),(some (89,true))⟩,
 ⟨some 93,.t (.pick (.t 89) (.t 92) (.c (.bool false))),none⟩,⟨some 94,.t (.faddr 1 (.t 7)),none⟩,⟨some 95,.m (.load false 1 (.t 94)),none⟩,⟨some 96,.call (.t 87) [(.t 93),(.c (.int .i64 4)),(.t 95),(.c .nils)],none⟩]
def FF:List AOper:=[⟨some 97,.t (.mv (.t 9)),none⟩,⟨some 98,.t (.mv (.t 11)),none⟩,⟨some 99,.t (.faddr 1 (.t 7)),none⟩,⟨some 100,.m (.load false 1 (.t 99)),none⟩,⟨some 101,.call (.t 97) [(.t 98),(.c (.int .i64 2)),(.t 100),(.c .nils)],none⟩]
def qG:List AOper:=[⟨some 102,.t (.mv (.t 9)),none⟩,⟨some 103,.t (.faddr 2 (.t 7)),none⟩,⟨some 104,.m (.load false 1 (.t 103)),none⟩,⟨some 105,.call (.c (.clo 16 [] [])) [(.t 104)],none⟩,⟨some 106,.t (.not (.t 105)),none⟩,⟨some 107,.call (.t 102) [(.t 106),(.c (.int .i64 6)),(.c (.str [])),(.c .nils)],none⟩]
def FE:List AOper:=[⟨some 108,.t (.mv (.t 1)),none⟩,⟨some 109,.t (.faddr 2 (.t 7)),none⟩,⟨some 110,.m (.load false 1 (.t 109)),none⟩,⟨some 111,.call (.c (.clo 43 [] [])) [(.t 108),(.c .nils),(.t 110)],none⟩,⟨some 15,.t (.mv (.t 111)),none⟩]
def FD:List AOper:=[⟨some 16,.t (.mv (.c (.int .i64 0))),none⟩]
def mG:List AOper:=[⟨some 112,.t (.mv (.t 16)),none⟩,⟨some 113,.t (.mv (.t 15)),none⟩,⟨some 114,.t (.len false (.t 113)),none⟩,⟨some 115,.t (.bin .lss (.t 112) (.t 114)),none⟩]
def vO:List AOper:=[⟨some 118,.t (.mv (.t 15)),none⟩,⟨some 119,.t (.mv (.t 16)),none⟩,⟨some 120,.t (.iaddr 13 (.t 118) (.t 119)),none⟩,⟨some 121,.t (.faddr 2 (.t 120)),none⟩,⟨some 122,.m (.load true 11 (.t 121)),none⟩,⟨some 123,.t (.mv (.t 15)),none⟩,⟨some 124,.t (.mv (.t 16)),none⟩,⟨some 125,.t (.iaddr 13 (.t 123) (.t 124)),none⟩,⟨some 126,.t (.faddr 1 (.t 125)),none⟩,⟨some 127,.m (.load false 1 (.t 126)),none⟩,⟨some 17,.m (.alloc 51 [(.str []),(.int .i64 0),(.int .i64 0),(.int .i64 0),(.int .i64 0),(.str []),(.str []),.nils,.nils,.nils,.nils]),none⟩,⟨none,.m (.store 11 (.t 17) (.t 122)),none⟩]
def vE:List AOper:=[⟨some 18,.t (.mv (.t 127)),none⟩]
def Li:List (List Nat):=[[],[],[0,1],[2,0,1],[3,2,0,1],[],[],[5,6],[7,5,6],[8,7,5,6],[],[4,10,3,2,0,1],[9,11,8,7,5,6,4,10,3,2,0,1]]
def vN:List AOper:=[⟨some 128,.t (.mv (.t 9)),none⟩,⟨some 129,.t (.faddr 0 (.t 17)),none⟩,⟨some 130,.m (.load false 1 (.t 129)),none⟩,⟨some 131,.t (.bin .neq (.t 130) (.c (.str []))),none⟩,⟨some 132,.t (.mv (.t 131)),none⟩,⟨some 133,.t (.faddr 0 (.t 17)),(some (132,true))⟩,
 ⟨some 134,.m (.load false 1 (.t 133)),(some (132,true))⟩,
 ⟨some 135,.call (.c (.clo 32 [] [])) [(.t 134)],(some (132,true))⟩,
 ⟨some 136,.t (.not (.t 135)),(some (132,true))⟩,
 ⟨some 137,.t (.pick (.t 132) (.t 136) (.c (.bool false))),none⟩,⟨some 138,.t (.faddr 0 (.t 17)),none⟩,⟨some 139,.m (.load false 1 (.t 138)),none⟩,⟨some 140,.t (.mv (.t 18)),none⟩]
def vD:List AOper:=[⟨some 141,.call (.t 128) [(.t 137),(.c (.int .i64 1)),(.t 139),(.t 140)],none⟩]
def Lh:List (List Nat):=[[],[],[1],[2,1],[3,2,1],[4,3,2,1],[5,4,3,2,1],[6,5,4,3,2,1],[7,6,5,4,3,2,1],[8,7,6,5,4,3,2,1],[],[10],[],[0,9,11,12,8,7,10,6,5,4,3,2,1]]
def vM:List AOper:=[⟨some 142,.t (.mv (.t 9)),none⟩,⟨some 143,.t (.mv (.t 2)),none⟩,⟨some 144,.t (.mv (.t 15)),none⟩,⟨some 145,.t (.mv (.t 16)),none⟩,⟨some 146,.t (.iaddr 13 (.t 144) (.t 145)),none⟩,⟨some 147,.m (.load true 13 (.t 146)),none⟩,⟨some 148,.call (.c (.clo 12 [] [])) [(.t 147)],none⟩,⟨some 149,.m (.xop (.mlook none false (.bool false) (.t 143) (.t 148))),none⟩,⟨some 150,.t (.mv (.t 15)),none⟩,⟨some 151,.t (.mv (.t 16)),none⟩,⟨some 152,.t (.iaddr 13 (.t 150) (.t 151)),none⟩,⟨some 153,.m (.load true 13 (.t 152)),none⟩,⟨some 154,.call (.c (.clo 12 [] [])) [(.t 153)],none⟩,⟨some 155,.t (.mv (.t 18)),none⟩]
def vC:List AOper:=[⟨some 156,.call (.t 142) [(.t 149),(.c (.int .i64 2)),(.t 154),(.t 155)],none⟩]
def Lg:List (List Nat):=[[],[],[],[],[2,3],[4,2,3],[5,4,2,3],[1,6,5,4,2,3],[],[],[8,9],[10,8,9],[11,6,10,8,9,5,4,2,3],[],[0,7,13,12,1,11,6,10,8,9,5,4,2,3]]
def vL:List AOper:=[⟨some 157,.t (.mv (.t 2)),none⟩,⟨some 158,.t (.mv (.t 15)),none⟩,⟨some 159,.t (.mv (.t 16)),none⟩,⟨some 160,.t (.iaddr 13 (.t 158) (.t 159)),none⟩,⟨some 161,.m (.load true 13 (.t 160)),none⟩,⟨some 162,.call (.c (.clo 12 [] [])) [(.t 161)],none⟩,⟨none,.m (.xop (.mset none (.t 157) (.t 162) (.c (.bool true)))),none⟩]
def vK:List AOper:=[⟨some 163,.m (.bslice true 3 1 0 []),none⟩,⟨some 164,.t (.mv (.t 18)),none⟩,⟨some 165,.m (.append true 3 1 8 (.t 163) (.t 164)),none⟩,⟨some 19,.t (.mv (.t 165)),none⟩]
def vJ:List AOper:=[⟨some 166,.t (.mv (.t 19)),none⟩,⟨some 167,.t (.mv (.t 19)),none⟩,⟨some 168,.t (.len false (.t 167)),none⟩,⟨some 169,.t (.bin .sub (.t 168) (.c (.int .i64 1))),none⟩,⟨some 170,.t (.iaddr 1 (.t 166) (.t 169)),none⟩,⟨some 171,.m (.load false 1 (.t 170)),none⟩,⟨some 172,.t (.bin .sub (.t 171) (.c (.int .i64 1))),none⟩,⟨some 173,.t (.iaddr 1 (.t 166) (.t 169)),none⟩,⟨none,.m (.store 1 (.t 173) (.t 172)),none⟩]
def vI:List AOper:=[⟨some 20,.t (.mv (.c (.int .i64 0))),none⟩]
def ld:List AOper:=[⟨some 174,.t (.mv (.t 20)),none⟩,⟨some 175,.t (.mv (.t 16)),none⟩,⟨some 176,.t (.bin .lss (.t 174) (.t 175)),none⟩]
def qF:List AOper:=[⟨some 179,.t (.mv (.t 9)),none⟩,⟨some 180,.t (.mv (.t 15)),none⟩,⟨some 181,.t (.mv (.t 20)),none⟩,⟨some 182,.t (.iaddr 13 (.t 180) (.t 181)),none⟩,⟨some 183,.t (.faddr 1 (.t 182)),none⟩,⟨some 184,.m (.load false 1 (.t 183)),none⟩,⟨some 185,.t (.mv (.t 19)),none⟩,⟨some 186,.call (.c (.clo 23 [] [])) [(.t 184),(.t 185)],none⟩,⟨some 187,.t (.mv (.t 186)),none⟩,⟨some 188,.t (.mv (.t 15)),(some (187,true))⟩,
 ⟨some 189,.t (.mv (.t 20)),(some (187,true))⟩,
 ⟨some 190,.t (.iaddr 13 (.t 188) (.t 189)),(some (187,true))⟩,
 ⟨some 191,.t (.faddr 2 (.t 190)),(some (187,true))⟩,
 ⟨some 192,.m (.load true 11 (.t 191)),(some (187,true))⟩,
 ⟨some 193,.call (.c (.clo 45 [] [])) [(.t 192)],(some (187,true))⟩,
 ⟨some 194,.t (.pick (.t 187) (.t 193) (.c (.bool false))),none⟩,⟨some 195,.t (.mv (.t 18)),none⟩,⟨some 196,.call (.t 179) [(.t 194),(.c (.int .i64 7)),(.c (.str [])),(.t 195)],none⟩]
def qE:List AOper:=[⟨some 177,.t (.mv (.t 20)),none⟩,⟨some 178,.t (.bin .add (.t 177) (.c (.int .i64 1))),none⟩,⟨some 20,.t (.mv (.t 178)),none⟩]
def jf:ACode:=
(.seq ((.seq (.ops ld [2,3,8,9,15,16,17,18,19,20,176])
(.cond (.t 176)
(.skip)
(.exit 4))))
((.seq (.block 5 (.ops qF [2,3,8,9,15,16,17,18,19,20]))
(.ops qE [2,3,8,9,15,16,17,18,19,20]))))
def mF:List AOper:=[⟨some 197,.m (.load true 11 (.t 17)),none⟩,⟨some 198,.call (.c (.clo 94 [] [])) [(.t 197)],none⟩,⟨some 199,.t (.not (.t 198)),none⟩]
def FC:List AOper:=[⟨some 200,.t (.mv (.t 9)),none⟩,⟨some 201,.t (.mv (.t 18)),none⟩,⟨some 202,.call (.t 200) [(.c (.bool true)),(.c (.int .i64 5)),(.c (.str [])),(.t 201)],none⟩]
def qD:List AOper:=[⟨some 203,.t (.faddr 1 (.t 17)),none⟩,⟨some 204,.m (.load false 1 (.t 203)),none⟩,⟨some 205,.t (.bin .eql (.t 204) (.c (.int .i64 13))),none⟩]
def vH:List AOper:=[⟨some 207,.m (.load true 5 (.t 3)),none⟩,⟨some 208,.t (.faddr 5 (.t 17)),none⟩,⟨some 209,.m (.load false 1 (.t 208)),none⟩,⟨some 210,.call (.c (.clo 13 [] [])) [(.t 207),(.t 209)],none⟩,⟨some 206,.t (.mv (.t 210)),none⟩,⟨some 211,.t (.ext (.t 206) 0),none⟩,⟨some 212,.t (.ext (.t 206) 1),none⟩,⟨some 21,.m (.alloc 39 [(.str []),(.int .i64 0),(.str []),(.int .i64 0),(.int .i64 0),(.int .i64 0),.nils]),none⟩,⟨none,.m (.store 7 (.t 21) (.t 211)),none⟩,⟨some 22,.t (.mv (.t 212)),none⟩]
def vG:List AOper:=[⟨some 213,.t (.mv (.t 9)),none⟩,⟨some 214,.t (.mv (.t 22)),none⟩,⟨some 215,.t (.not (.t 214)),none⟩,⟨some 216,.t (.faddr 5 (.t 17)),none⟩,⟨some 217,.m (.load false 1 (.t 216)),none⟩,⟨some 218,.t (.mv (.t 18)),none⟩,⟨some 219,.call (.t 213) [(.t 215),(.c (.int .i64 3)),(.t 217),(.t 218)],none⟩]
def vF:List AOper:=[⟨some 220,.t (.mv (.t 9)),none⟩,⟨some 221,.t (.mv (.t 22)),none⟩,⟨some 222,.t (.mv (.t 221)),none⟩,⟨some 223,.t (.faddr 1 (.t 21)),(some (222,true))⟩,
 ⟨some 224,.m (.load false 1 (.t 223)),(some (222,true))⟩,
 ⟨some 225,.t (.bin .eql (.t 224) (.c (.int .i64 1))),(some (222,true))⟩,
 ⟨some 226,.t (.pick (.t 222) (.t 225) (.c (.bool false))),none⟩,⟨some 227,.t (.faddr 5 (.t 17)),none⟩,⟨some 228,.m (.load false 1 (.t 227)),none⟩,⟨some 229,.t (.mv (.t 18)),none⟩,⟨some 230,.call (.t 220) [(.t 226),(.c (.int .i64 4)),(.t 228),(.t 229)],none⟩]
def je:List AOper:=[⟨some 231,.t (.mv (.t 9)),none⟩,⟨some 232,.t (.faddr 6 (.t 17)),none⟩,⟨some 233,.m (.load false 1 (.t 232)),none⟩,⟨some 234,.t (.bin .neq (.t 233) (.c (.str []))),none⟩,⟨some 235,.t (.mv (.t 234)),none⟩,⟨some 236,.m (.load true 5 (.t 3)),(some (235,true))⟩,
 ⟨some 237,.t (.faddr 6 (.t 17)),(some (235,true))⟩,
 ⟨some 238,.m (.load false 1 (.t 237)),(some (235,true))⟩,
 ⟨some 239,.call (.c (.clo 14 [] [])) [(.t 236),(.t 238)],(some (235,true))⟩,
 ⟨some 240,.t (.bin .lss (.t 239) (.c (.int .i64 0))),(some (235,true))⟩,
 ⟨some 241,.t (.pick (.t 235) (.t 240) (.c (.bool false))),none⟩,⟨some 242,.t (.faddr 6 (.t 17)),none⟩,⟨some 243,.m (.load false 1 (.t 242)),none⟩,⟨some 244,.t (.mv (.t 18)),none⟩]
def jc:List AOper:=[⟨some 245,.call (.t 231) [(.t 241),(.c (.int .i64 3)),(.t 243),(.t 244)],none⟩]
def Lf:List (List Nat):=[[],[],[1],[2,1],[3,2,1],[4,3,2,1],[4,3,2,1],[6,4,3,2,1],[5,7,6,4,3,2,1],[8,5,7,6,4,3,2,1],[9,8,5,7,6,4,3,2,1],[],[11],[],[0,10,12,13,9,8,11,5,7,6,4,3,2,1]]
def jd:List AOper:=[⟨some 23,.t (.mv (.c (.int .i64 0))),none⟩]
def fE:List AOper:=[⟨some 246,.t (.mv (.t 23)),none⟩,⟨some 247,.t (.faddr 9 (.t 17)),none⟩,⟨some 248,.m (.load false 1 (.t 247)),none⟩,⟨some 249,.t (.len false (.t 248)),none⟩,⟨some 250,.t (.bin .lss (.t 246) (.t 249)),none⟩]
def qC:List AOper:=[⟨some 254,.m (.load true 5 (.t 3)),none⟩,⟨some 255,.t (.faddr 9 (.t 17)),none⟩,⟨some 256,.m (.load false 1 (.t 255)),none⟩,⟨some 257,.t (.mv (.t 23)),none⟩,⟨some 258,.t (.iaddr 2 (.t 256) (.t 257)),none⟩,⟨some 259,.t (.faddr 0 (.t 258)),none⟩,⟨some 260,.m (.load false 1 (.t 259)),none⟩,⟨some 261,.call (.c (.clo 15 [] [])) [(.t 254),(.t 260)],none⟩,⟨some 253,.t (.mv (.t 261)),none⟩,⟨some 262,.t (.ext (.t 253) 0),none⟩,⟨some 263,.t (.ext (.t 253) 1),none⟩,⟨some 24,.m (.alloc 41 [(.str []),(.str []),(.str []),(.bool false)]),none⟩,⟨none,.m (.store 4 (.t 24) (.t 262)),none⟩]
def qy:List AOper:=[⟨some 25,.t (.mv (.t 263)),none⟩]
def Tu:List (List Nat):=[[],[],[1],[],[2,3,1],[4,2,3,1],[5,4,2,3,1],[0,6,5,4,2,3,1],[7,0,6,5,4,2,3,1],[8,7,0,6,5,4,2,3,1],[8,7,0,6,5,4,2,3,1],[],[9,11,8,7,0,6,5,4,2,3,1],[10,12,9,11,8,7,0,6,5,4,2,3,1]]
def qB:List AOper:=[⟨some 264,.t (.mv (.t 9)),none⟩,⟨some 265,.t (.mv (.t 25)),none⟩,⟨some 266,.t (.not (.t 265)),none⟩,⟨some 267,.t (.faddr 9 (.t 17)),none⟩,⟨some 268,.m (.load false 1 (.t 267)),none⟩,⟨some 269,.t (.mv (.t 23)),none⟩,⟨some 270,.t (.iaddr 2 (.t 268) (.t 269)),none⟩,⟨some 271,.t (.faddr 0 (.t 270)),none⟩,⟨some 272,.m (.load false 1 (.t 271)),none⟩,⟨some 273,.t (.mv (.t 18)),none⟩,⟨some 274,.call (.t 264) [(.t 266),(.c (.int .i64 3)),(.t 272),(.t 273)],none⟩]
def qA:List AOper:=[⟨some 275,.t (.mv (.t 9)),none⟩,⟨some 276,.t (.mv (.t 25)),none⟩,⟨some 277,.t (.mv (.t 276)),none⟩,⟨some 278,.t (.faddr 1 (.t 17)),(some (277,true))⟩,
 ⟨some 279,.m (.load false 1 (.t 278)),(some (277,true))⟩,
 ⟨some 280,.t (.bin .eql (.t 279) (.c (.int .i64 10))),(some (277,true))⟩,
 ⟨some 281,.t (.pick (.t 277) (.t 280) (.c (.bool false))),none⟩,⟨some 282,.t (.mv (.t 281)),none⟩,⟨some 283,.t (.mv (.t 23)),(some (282,true))⟩,
 ⟨some 284,.t (.bin .add (.t 283) (.c (.int .i64 1))),(some (282,true))⟩,
 ⟨some 285,.t (.faddr 9 (.t 17)),(some (282,true))⟩,
 ⟨some 286,.m (.load false 1 (.t 285)),(some (282,true))⟩,
 ⟨some 287,.t (.len false (.t 286)),(some (282,true))⟩,
 ⟨some 288,.t (.bin .lss (.t 284) (.t 287)),(some (282,true))⟩,
 ⟨some 289,.t (.pick (.t 282) (.t 288) (.c (.bool false))),none⟩,⟨some 290,.t (.mv (.t 289)),none⟩,⟨some 291,.t (.faddr 3 (.t 24)),(some (290,true))⟩,
 ⟨some 292,.m (.load false 1 (.t 291)),(some (290,true))⟩,
 ⟨some 293,.t (.not (.t 292)),(some (290,true))⟩,
 ⟨some 294,.t (.pick (.t 290) (.t 293) (.c (.bool false))),none⟩,⟨some 295,.t (.faddr 9 (.t 17)),none⟩,⟨some 296,.m (.load false 1 (.t 295)),none⟩,⟨some 297,.t (.mv (.t 23)),none⟩,⟨some 298,.t (.iaddr 2 (.t 296) (.t 297)),none⟩,⟨some 299,.t (.faddr 0 (.t 298)),none⟩,⟨some 300,.m (.load false 1 (.t 299)),none⟩,⟨some 301,.t (.mv (.t 18)),none⟩]
def qu:List AOper:=[⟨some 302,.call (.t 275) [(.t 294),(.c (.int .i64 12)),(.t 300),(.t 301)],none⟩]
def Tt:List (List Nat):=[[],[],[1],[2,1],[3,2,1],[4,3,2,1],[5,4,3,2,1],[6,5,4,3,2,1],[7,6,5,4,3,2,1],[8,7,6,5,4,3,2,1],[7,6,5,4,3,2,1],[10,7,6,5,4,3,2,1],[11,10,7,6,5,4,3,2,1],[9,12,8,11,10,7,6,5,4,3,2,1],[13,9,12,8,11,10,7,6,5,4,3,2,1],[14,13,9,12,8,11,10,7,6,5,4,3,2,1],[15,14,13,9,12,8,11,10,7,6,5,4,3,2,1],[16,15,14,13,9,12,8,11,10,7,6,5,4,3,2,1],[17,16,15,14,13,9,12,8,11,10,7,6,5,4,3,2,1],[18,17,16,15,14,13,9,12,8,11,10,7,6,5,4,3,2,1],[],[20],[],[21,22,20],[23,21,22,20],[24,23,21,22,20],[],[0,19,25,26,18,17,16,15,24,23,21,22,20,14,13,9,12,8,11,10,7,6,5,4,3,2,1]]
def qz:List AOper:=[⟨some 251,.t (.mv (.t 23)),none⟩,⟨some 252,.t (.bin .add (.t 251) (.c (.int .i64 1))),none⟩,⟨some 23,.t (.mv (.t 252)),none⟩]
def er:ACode:=
(.seq ((.seq (.ops fE [2,3,8,9,15,16,17,18,23,250])
(.cond (.t 250)
(.skip)
(.exit 6))))
((.seq (.block 7 ((.seq (.draw Tu qC qy [2,3,8,9,15,16,17,18,23,24,25])
((.seq (.ops qB [2,3,8,9,15,16,17,18,23,24,25])
(.draw Tt qA qu [2,3,8,9,15,16,17,18,23]))))))
(.ops qz [2,3,8,9,15,16,17,18,23]))))
def gh:List AOper:=[⟨some 116,.t (.mv (.t 16)),none⟩,⟨some 117,.t (.bin .add (.t 116) (.c (.int .i64 1))),none⟩,⟨some 16,.t (.mv (.t 117)),none⟩]
def FI:ACode:=
(.seq ((.seq (.ops mG [2,3,8,9,15,16,115])
(.cond (.t 115)
(.skip)
(.exit 2))))
((.seq (.block 3 ((.seq (.draw Li vO vE [2,3,8,9,15,16,17,18])
((.seq (.draw Lh vN vD [2,3,8,9,15,16,17,18])
((.seq (.draw Lg vM vC [2,3,8,9,15,16,17,18])
((.seq (.ops vL [2,3,8,9,15,16,17,18])
((.seq (.ops vK [2,3,8,9,15,16,17,18,19])
((.seq (.ops vJ [2,3,8,9,15,16,17,18,19])
((.seq ((.seq (.ops vI [2,3,8,9,15,16,17,18,19,20])
(.block 4 (.loop [2,3,8,9,15,16,17,18,19,20] jf))))
((.seq ((.seq (.ops mF [2,3,8,9,15,16,17,18,199])
(.cond (.t 199)
((.seq (.ops FC [2,3,8,9,15,16])
(.exit 3)))
(.skip))))
((.seq ((.seq (.ops qD [2,3,8,9,15,16,17,18,205])
(.cond (.t 205)
((.seq (.ops vH [2,3,8,9,15,16,17,18,21,22])
((.seq (.ops vG [2,3,8,9,15,16,17,18,21,22])
(.ops vF [2,3,8,9,15,16,17,18])))))
(.skip))))
((.seq (.draw Lf je jc [2,3,8,9,15,16,17,18])
((.seq (.ops jd [2,3,8,9,15,16,17,18,23])
(.block 6 (.loop [2,3,8,9,15,16,17,18,23] er)))))))))))))))))))))))))
(.ops gh [2,3,8,9,15,16]))))
def FB:List AOper:=[⟨some 303,.m (.load false 1 (.t 8)),none⟩,⟨some 6,.t (.mv (.t 303)),none⟩]
def V3:ACode:=
(.seq (.ops Tq [1,2,3])
((.seq (.ops Tp [1,2,3,7])
((.seq (.ops To [1,2,3,7,8])
((.seq (.ops Tn [1,2,3,7,8,9])
((.seq (.draw VJ Tm Th [1,2,3,7,8,9])
((.seq (.ops Tl [1,2,3,7,8,9,10,11])
((.seq ((.seq (.ops Tk [1,2,3,7,8,9,10,11,12])
(.block 0 (.loop [1,2,3,7,8,9,10,11,12] FJ))))
((.seq (.ops Le [1,2,3,7,8,9,11])
((.seq (.ops Ld [1,2,3,7,8,9,11,13,14])
((.seq (.ops FH [1,2,3,7,8,9,11,13,14])
((.seq (.ops FG [1,2,3,7,8,9,11])
((.seq (.ops FF [1,2,3,7,8,9])
((.seq (.ops qG [1,2,3,7,8,9])
((.seq (.ops FE [2,3,8,9,15])
((.seq ((.seq (.ops FD [2,3,8,9,15,16])
(.block 2 (.loop [2,3,8,9,15,16] FI))))
((.seq (.ops FB [6])
(.ret))))))))))))))))))))))))))))))))
def F42:AFn:=⟨304,[.tmp 6],V3⟩
theorem Ts:cFn Tryz.prog [163,165,3] 42=some F42:=by kernel_rfl
def FT:List AOper:=[⟨some 1,.m (.cbox 27 (.t 0)),none⟩,⟨some 2,.t (.mv (.c .nils)),none⟩]
def FS:List AOper:=[⟨some 3,.t (.mv (.c .nils)),none⟩]
def FQ:List AOper:=[⟨some 10,.m (.load true 5 (.t 1)),none⟩,⟨some 11,.call (.c (.clo 11 [] [])) [(.t 10)],none⟩,⟨some 4,.t (.mv (.t 11)),none⟩]
def FP:List AOper:=[⟨some 5,.t (.mv (.c (.bool false))),none⟩]
def FO:List AOper:=[⟨some 6,.t (.mv (.c (.int .i64 0))),none⟩]
def FN:List AOper:=[⟨some 12,.t (.mv (.t 6)),none⟩,⟨some 13,.t (.mv (.t 4)),none⟩,⟨some 14,.t (.len false (.t 13)),none⟩,⟨some 15,.t (.bin .lss (.t 12) (.t 14)),none⟩]
def FM:List AOper:=[⟨some 18,.t (.mv (.t 5)),none⟩,⟨some 19,.t (.mv (.t 18)),none⟩,⟨some 20,.t (.mv (.t 4)),(some (19,false))⟩,
 ⟨some 21,.t (.mv (.t 6)),(some (19,false))⟩,
 ⟨some 22,.t (.iaddr 13 (.t 20) (.t 21)),(some (19,false))⟩,
 ⟨some 23,.t (.faddr 1 (.t 22)),(some (19,false))⟩,
 ⟨some 24,.m (.load false 1 (.t 23)),(some (19,false))⟩,
 ⟨some 25,.t (.len false (.t 24)),(some (19,false))⟩,
 ⟨some 26,.t (.bin .gtr (.t 25) (.c (.int .i64 7))),(some (19,false))⟩,
 ⟨some 27,.t (.pick (.t 19) (.c (.bool true)) (.t 26)),none⟩,⟨some 5,.t (.mv (.t 27)),none⟩]
def FL:List AOper:=[⟨some 16,.t (.mv (.t 6)),none⟩,⟨some 17,.t (.bin .add (.t 16) (.c (.int .i64 1))),none⟩,⟨some 6,.t (.mv (.t 17)),none⟩]
def FU:ACode:=
(.seq ((.seq (.ops FN [1,3,4,5,6,15])
(.cond (.t 15)
(.skip)
(.exit 0))))
((.seq (.block 1 (.ops FM [1,3,4,5,6]))
(.ops FL [1,3,4,5,6]))))
def FK:List AOper:=[⟨some 28,.m (.xop (.bslf 1 7 [(.c (.str [115,99,104,101,109,97,115])),(.c (.str [101,110,100,112,111,105,110,116,115])),(.c (.str [115,101,114,118,105,99,101,115])),(.c (.str [114,111,117,116,101,115])),(.c (.str [115,116,101,112,115])),(.c (.str [108,101,118,101,108,115])),(.c (.str [110,111,100,101,115]))])),none⟩,⟨some 7,.t (.mv (.t 28)),none⟩]
def vV:List AOper:=[⟨some 29,.t (.faddr 1 (.t 1)),none⟩,⟨some 30,.m (.load false 1 (.t 29)),none⟩,⟨some 31,.t (.len false (.t 30)),none⟩,⟨some 32,.t (.bin .gtr (.t 31) (.c (.int .i64 64))),none⟩,⟨some 33,.t (.faddr 2 (.t 1)),none⟩,⟨some 34,.m (.load false 1 (.t 33)),none⟩,⟨some 35,.t (.len false (.t 34)),none⟩,⟨some 36,.t (.bin .gtr (.t 35) (.c (.int .i64 64))),none⟩,⟨some 37,.t (.faddr 3 (.t 1)),none⟩,⟨some 38,.m (.load false 1 (.t 37)),none⟩,⟨some 39,.t (.len false (.t 38)),none⟩,⟨some 40,.t (.bin .gtr (.t 39) (.c (.int .i64 64))),none⟩,⟨some 41,.t (.faddr 4 (.t 1)),none⟩,⟨some 42,.m (.load false 1 (.t 41)),none⟩,⟨some 43,.t (.len false (.t 42)),none⟩,⟨some 44,.t (.bin .gtr (.t 43) (.c (.int .i64 64))),none⟩,⟨some 45,.t (.mv (.t 4)),none⟩,⟨some 46,.t (.len false (.t 45)),none⟩,⟨some 47,.t (.bin .gtr (.t 46) (.c (.int .i64 64))),none⟩,⟨some 48,.t (.mv (.t 5)),none⟩,⟨some 49,.t (.faddr 2 (.t 1)),none⟩,⟨some 50,.m (.load false 1 (.t 49)),none⟩,⟨some 51,.t (.len false (.t 50)),none⟩,⟨some 52,.t (.faddr 3 (.t 1)),none⟩,⟨some 53,.m (.load false 1 (.t 52)),none⟩,⟨some 54,.t (.len false (.t 53)),none⟩,⟨some 55,.t (.bin .add (.t 51) (.t 54)),none⟩,⟨some 56,.t (.mv (.t 4)),none⟩,⟨some 57,.t (.len false (.t 56)),none⟩,⟨some 58,.t (.bin .add (.t 55) (.t 57)),none⟩,⟨some 59,.t (.bin .gtr (.t 58) (.c (.int .i64 128))),none⟩,⟨some 60,.m (.xop (.bslf 1 7 [(.t 32),(.t 36),(.t 40),(.t 44),(.t 47),(.t 48),(.t 59)])),none⟩,⟨some 8,.t (.mv (.t 60)),none⟩]
def vU:List AOper:=[⟨some 9,.t (.mv (.c (.int .i64 0))),none⟩]
def vT:List AOper:=[⟨some 61,.t (.mv (.t 9)),none⟩,⟨some 62,.t (.mv (.t 7)),none⟩,⟨some 63,.t (.len false (.t 62)),none⟩,⟨some 64,.t (.bin .lss (.t 61) (.t 63)),none⟩]
def vS:List AOper:=[⟨some 67,.t (.mv (.t 8)),none⟩,⟨some 68,.t (.mv (.t 9)),none⟩,⟨some 69,.t (.iaddr 1 (.t 67) (.t 68)),none⟩,⟨some 70,.m (.load false 1 (.t 69)),none⟩]
def vR:List AOper:=[⟨some 71,.t (.mv (.t 3)),none⟩,⟨some 72,.t (.mv (.t 7)),none⟩,⟨some 73,.t (.mv (.t 9)),none⟩,⟨some 74,.t (.iaddr 1 (.t 72) (.t 73)),none⟩,⟨some 75,.m (.load false 1 (.t 74)),none⟩,⟨some 76,.t (.build [(.int .i64 0),(.str []),.nils,(.str [])] [(0,1,(.c (.int .i64 16))),(3,1,(.t 75))]),none⟩,⟨some 77,.m (.bslice false 82 4 1 [(.t 76)]),none⟩,⟨some 78,.m (.append false 82 4 64 (.t 71) (.t 77)),none⟩,⟨some 3,.t (.mv (.t 78)),none⟩]
def vQ:List AOper:=[⟨some 65,.t (.mv (.t 9)),none⟩,⟨some 66,.t (.bin .add (.t 65) (.c (.int .i64 1))),none⟩,⟨some 9,.t (.mv (.t 66)),none⟩]
def vW:ACode:=
(.seq ((.seq (.ops vT [3,7,8,9,64])
(.cond (.t 64)
(.skip)
(.exit 2))))
((.seq (.block 3 ((.seq (.ops vS [3,7,8,9,70])
(.cond (.t 70)
(.ops vR [3,7,8,9])
(.skip)))))
(.ops vQ [3,7,8,9]))))
def vP:List AOper:=[⟨some 79,.t (.mv (.t 3)),none⟩,⟨some 2,.t (.mv (.t 79)),none⟩]
def Lj:ACode:=
(.seq (.ops FT [1])
((.seq (.ops FS [1,3])
((.seq (.ops FQ [1,3,4])
((.seq (.ops FP [1,3,4,5])
((.seq ((.seq (.ops FO [1,3,4,5,6])
(.block 0 (.loop [1,3,4,5,6] FU))))
((.seq (.ops FK [1,3,4,5,7])
((.seq (.ops vV [3,7,8])
((.seq ((.seq (.ops vU [3,7,8,9])
(.block 2 (.loop [3,7,8,9] vW))))
((.seq (.ops vP [2])
(.ret))))))))))))))))))
def Ps:AFn:=⟨80,[.tmp 2],Lj⟩
theorem Kk:cFn Tryz.prog [1,1000028,1000060] 37=some Ps:=by kernel_rfl
