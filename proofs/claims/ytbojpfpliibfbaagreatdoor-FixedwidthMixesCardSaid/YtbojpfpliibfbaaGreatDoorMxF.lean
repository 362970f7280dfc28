/- Functions of the program as the logic reads them, each with the proof that it is so read. -/
import Derived.Test.YtbojpfpliibfbaaGreatDoorProg
import Derived.KernelRfl
import Derived.Test.YtbojpfpliibfbaaGreatDoorMxQa
import Derived.Test.YtbojpfpliibfbaaGreatDoorMxQb
import Derived.Test.YtbojpfpliibfbaaGreatDoorMxQc
set_option maxRecDepth 100000
namespace Go.Ab
def zV (d s:Nat):AOper:=⟨some d,.t (.mv (.t s)),none⟩
def zT (d:Nat)(o:TOp):AOper:=⟨some d,.t o,none⟩
def zM (d:Nat)(o:MOp):AOper:=⟨some d,.m o,none⟩
def zC (d f:Nat)(l:List AX):AOper:=⟨some d,.call (.c (.clo f [] [])) l,none⟩
def zL (d k s:Nat):AOper:=⟨some d,.m (.load false k (.t s)),none⟩
def zR (d k s:Nat):AOper:=⟨some d,.m (.load true k (.t s)),none⟩
def zA (d k s:Nat):AOper:=⟨some d,.t (.faddr k (.t s)),none⟩
def zX (d s k:Nat):AOper:=⟨some d,.t (.ext (.t s) k),none⟩
def zS (k x y:Nat):AOper:=⟨none,.m (.store k (.t x) (.t y)),none⟩
def zB (d:Nat)(o:BinOp)(x y:AX):AOper:=⟨some d,.t (.bin o x y),none⟩
def zN (o:MOp):AOper:=⟨none,.m o,none⟩
def yV (d s g:Nat)(b:Bool):AOper:=⟨some d,.t (.mv (.t s)),some (g,b)⟩
def yT (d:Nat)(o:TOp)(g:Nat)(b:Bool):AOper:=⟨some d,.t o,some (g,b)⟩
def yM (d:Nat)(o:MOp)(g:Nat)(b:Bool):AOper:=⟨some d,.m o,some (g,b)⟩
def yL (d k s g:Nat)(b:Bool):AOper:=⟨some d,.m (.load false k (.t s)),some (g,b)⟩
def yA (d k s g:Nat)(b:Bool):AOper:=⟨some d,.t (.faddr k (.t s)),some (g,b)⟩
def yB (d:Nat)(o:BinOp)(x y:AX)(g:Nat)(b:Bool):AOper:=⟨some d,.t (.bin o x y),some (g,b)⟩
def yC (d f:Nat)(l:List AX)(g:Nat)(b:Bool):AOper:=⟨some d,.call (.c (.clo f [] [])) l,some (g,b)⟩
def kI (n:Int):AX:=.c (.int .i64 n)
def kF:AX:=.c (.bool false)
def kT:AX:=.c (.bool true)
def kS (l:List UInt8):AX:=.c (.str l)
def zQ (a:List AOper)(l:List Nat)(c:ACode):ACode:=.seq (.ops a l) c
def zK (s:Nat)(a b:ACode):ACode:=.cond (.t s) a b
def zi (d:Nat)(o:BinOp)(x:Nat)(n:Int):AOper:=⟨some d,.t (.bin o (.t x) (.c (.int .i64 n))),none⟩
def zt (d:Nat)(o:BinOp)(x y:Nat):AOper:=⟨some d,.t (.bin o (.t x) (.t y)),none⟩
def yi (d:Nat)(o:BinOp)(x:Nat)(n:Int)(g:Nat)(b:Bool):AOper:=⟨some d,.t (.bin o (.t x) (.c (.int .i64 n))),some (g,b)⟩
def yt (d:Nat)(o:BinOp)(x y g:Nat)(b:Bool):AOper:=⟨some d,.t (.bin o (.t x) (.t y)),some (g,b)⟩
def zv (d:Nat)(x:AX):AOper:=⟨some d,.t (.mv x),none⟩
def zp (d s t:Nat):AOper:=⟨some d,.t (.pick (.t s) (.t t) (.c (.bool false))),none⟩
def zo (d s t:Nat):AOper:=⟨some d,.t (.pick (.t s) (.c (.bool true)) (.t t)),none⟩
def zl (d s:Nat):AOper:=⟨some d,.t (.len true (.t s)),none⟩
def zk (d s:Nat):AOper:=⟨some d,.t (.len false (.t s)),none⟩
def zn (d s:Nat):AOper:=⟨some d,.t (.nilck (.t s)),none⟩
def p0:PV:=.int .i64 0
attribute [push_cast] zV zT zM zC zL zR zA zX zS zB zN yV yT yM yL yA yB yC kI kF kT kS zQ zK zi zt yi yt zv zp zo zl zk zn p0
end Go.Ab
namespace Go.Proofs.YtbojpfpliibfbaaGreatDoor
open Go Go.Ab
def TE:List (List Nat):=[[],[],[],[],[2,3],[],[],[],[],[],[8,9],[10,8,9],[7,11,10,8,9],[5,6,12,7,11,10,8,9],[4,13,2,3,5,6,12,7,11,10,8,9],[],[],[],[],[17,18],[19,17,18],[16,20,19,17,18],[15,21,16,20,19,17,18],[14,22,4,13,2,3,5,6,12,7,11,10,8,9,15,21,16,20,19,17,18],[0,1,23,14,22,4,13,2,3,5,6,12,7,11,10,8,9,15,21,16,20,19,17,18],[24,0,1,23,14,22,4,13,2,3,5,6,12,7,11,10,8,9,15,21,16,20,19,17,18],[25,24,0,1,23,14,22,4,13,2,3,5,6,12,7,11,10,8,9,15,21,16,20,19,17,18],[25,24,0,1,23,14,22,4,13,2,3,5,6,12,7,11,10,8,9,15,21,16,20,19,17,18],[25,24,0,1,23,14,22,4,13,2,3,5,6,12,7,11,10,8,9,15,21,16,20,19,17,18],[],[26,29,25,24,0,1,23,14,22,4,13,2,3,5,6,12,7,11,10,8,9,15,21,16,20,19,17,18],[27,30,26,29,25,24,0,1,23,14,22,4,13,2,3,5,6,12,7,11,10,8,9,15,21,16,20,19,17,18],[28,31,27,30,26,29,25,24,0,1,23,14,22,4,13,2,3,5,6,12,7,11,10,8,9,15,21,16,20,19,17,18]]
def TD:List (List Nat):=[[],[],[],[2],[3,2],[],[4,5,3,2],[6,4,5,3,2],[7,6,4,5,3,2],[0,1,8,7,6,4,5,3,2],[9,0,1,8,7,6,4,5,3,2],[10,9,0,1,8,7,6,4,5,3,2],[10,9,0,1,8,7,6,4,5,3,2],[11,10,9,0,1,8,7,6,4,5,3,2]]
def F8:AFn:=⟨194,[.tmp 6],zQ [zM 3 (.box 26 (.t 0)),zM 4 (.box 50 (.t 1)),zv 6 kF] [2,3,4] (zQ [zR 24 7 3,zC 25 23 [.t 24],zV 23 25,zX 26 23 0,zX 27 23 1,zV 7 26,zV 8 27] [2,3,4,7,8] (.seq (zQ [zC 28 11 [],zT 29 (.not (.t 28)),zV 30 29,yV 31 8 30 false,yi 32 .neq 31 0 30 false,zo 33 30 32] [2,3,4,7,33] (zK 33 (zQ [zC 34 11 [],zV 6 34] [6] .ret) .skip)) (zQ [zR 36 7 3,zV 37 7,zT 38 (.iaddrA 2 6 (.t 4) (kI 0)),zR 39 6 38,zC 40 14 [.t 36,.t 37,.t 39],zV 35 40,zX 41 35 0,zX 42 35 1,zV 9 41,zV 10 42] [2,3,4,7,9,10] (zQ [zR 44 7 3,zV 45 7,zT 46 (.iaddrA 2 6 (.t 4) (kI 1)),zR 47 6 46,zC 48 14 [.t 44,.t 45,.t 47],zV 43 48,zX 49 43 0,zX 50 43 1,zV 11 49,zV 12 50] [2,3,4,7,9,10,11,12] (.seq (zQ [zV 51 10,zi 52 .neq 51 0,zV 53 52,yV 54 12 53 false,yi 55 .neq 54 0 53 false,zo 56 53 55,zV 57 56,yV 58 9 57 false,yT 59 (.len true (.t 58)) 57 false,yV 60 11 57 false,yT 61 (.len true (.t 60)) 57 false,yt 62 .neq 59 61 57 false,zo 63 57 62,zV 64 63,yV 65 7 64 false,yT 66 (.len false (.t 65)) 64 false,yA 67 6 3 64 false,yL 68 1 67 64 false,yT 69 (.len false (.t 68)) 64 false,yt 70 .neq 66 69 64 false,zo 71 64 70] [2,3,4,7,9,10,11,12,71] (zK 71 (zQ [zV 72 10,zi 73 .neq 72 0,zV 74 73,yV 75 12 74 false,yi 76 .neq 75 0 74 false,zo 77 74 76,zV 6 77] [6] .ret) .skip)) (zQ [zV 78 2,zT 79 (.conv .i64 (.t 78)),zV 80 7,zk 81 80,zt 82 .rem 79 81,zV 13 82] [3,4,7,9,11,13] (zQ [zv 14 (kI 0)] [3,4,7,9,11,13,14] (.seq (zQ [zv 15 (kI 0)] [3,4,7,9,11,13,14,15] (.block 0 (.loop [3,4,7,9,11,13,14,15] (.seq (zQ [zV 83 15,zV 84 13,zt 85 .lss 83 84] [3,4,7,9,11,13,14,15,85] (zK 85 .skip (.exit 0))) (.seq (.block 1 (.ops [zV 88 14,zV 89 7,zV 90 15,zT 91 (.iaddr 1 (.t 89) (.t 90)),zL 92 1 91,zt 93 .add 88 92,zV 14 93] [3,4,7,9,11,13,14,15])) (.ops [zV 86 15,zi 87 .add 86 1,zV 15 87] [3,4,7,9,11,13,14,15])))))) (.seq (zQ [zV 94 14,zi 95 .lss 94 0,zV 96 95,yV 97 7 96 false,yV 98 13 96 false,yT 99 (.iaddr 1 (.t 97) (.t 98)) 96 false,yL 100 1 99 96 false,yi 101 .lss 100 0 96 false,zo 102 96 101,zV 103 102,yV 104 14 103 false,yV 105 9 103 false,yT 106 (.len true (.t 105)) 103 false,yV 107 7 103 false,yV 108 13 103 false,yT 109 (.iaddr 1 (.t 107) (.t 108)) 103 false,yL 110 1 109 103 false,yt 111 .sub 106 110 103 false,yt 112 .gtr 104 111 103 false,zo 113 103 112] [3,4,7,9,11,13,14,113] (zK 113 (zQ [zv 6 kF] [6] .ret) .skip)) (.seq (.draw TE [zR 115 7 3,zV 116 7,zV 117 9,zV 118 14,zT 119 (.sliceS (.t 117) none (some (.t 118))),zV 120 11,zV 121 14,zV 122 14,zV 123 7,zV 124 13,zT 125 (.iaddr 1 (.t 123) (.t 124)),zL 126 1 125,zt 127 .add 122 126,zT 128 (.sliceS (.t 120) (some (.t 121)) (some (.t 127))),zt 129 .add 119 128,zV 130 9,zV 131 14,zV 132 7,zV 133 13,zT 134 (.iaddr 1 (.t 132) (.t 133)),zL 135 1 134,zt 136 .add 131 135,zT 137 (.sliceS (.t 130) (some (.t 136)) none),zt 138 .add 129 137,zC 139 17 [.t 115,.t 116,.t 138],zV 114 139,zX 140 114 0,zX 141 114 1,zX 142 114 2,zM 16 (.alloc 36 [p0,p0,p0,.str [],.nils,.nils]),zS 6 16 140,zV 17 141] [zV 18 142] [3,4,13,16,18]) (zQ [zA 143 6 3,zL 144 1 143,zV 145 13,zT 146 (.iaddr 11 (.t 144) (.t 145)),zA 147 1 146,zL 148 1 147,zV 19 148] [3,4,13,16,18,19] (zQ [zT 149 (.iaddrA 2 6 (.t 4) (kI 0)),zR 150 6 149,zV 151 19,zC 152 24 [.t 150,.t 151],zM 20 (.alloc 36 [p0,p0,p0,.str [],.nils,.nils]),zS 6 20 152] [3,4,13,16,18,19,20] (.seq (zQ [zT 153 (.iaddrA 2 6 (.t 4) (kI 1)),zR 154 6 153,zV 155 19,zC 156 25 [.t 154,.t 155],zV 21 156] [3,4,13,16,18,19,20,21] (zQ [zV 157 21,zi 158 .geq 157 0] [3,4,13,16,18,19,20,21,158] (zK 158 (.draw TD [zR 160 6 20,zV 161 19,zT 162 (.iaddrA 2 6 (.t 4) (kI 1)),zA 163 5 162,zL 164 1 163,zV 165 21,zT 166 (.iaddr 7 (.t 164) (.t 165)),zA 167 1 166,zR 168 6 167,zC 169 26 [.t 160,.t 161,.t 168],zV 159 169,zX 170 159 0,zX 171 159 1,zS 6 20 170] [] [3,4,13,16,18,19,20]) .skip))) (.seq (zQ [zT 172 (.iaddrA 2 6 (.t 4) (kI 1)),zR 173 6 172,zV 174 19,zC 175 25 [.t 173,.t 174],zV 22 175] [3,13,16,18,20,22] (zQ [zV 176 22,zi 177 .lss 176 0,zV 178 177,yA 179 6 3 178 true,yL 180 1 179 178 true,yV 181 13 178 true,yT 182 (.iaddr 11 (.t 180) (.t 181)) 178 true,yA 183 2 182 178 true,yL 184 1 183 178 true,yi 185 .eql 184 3 178 true,zp 186 178 185] [16,18,20,186] (zK 186 (zQ [zv 6 kT] [6] .ret) .skip))) (zQ [zV 187 18,zi 188 .eql 187 0,zV 189 188,yM 190 (.load true 6 (.t 16)) 189 true,yM 191 (.load true 6 (.t 20)) 189 true,yC 192 19 [.t 190,.t 191] 189 true,zp 193 189 192,zV 6 193] [6] .ret)))))))))))))))⟩
theorem M8:cFn Tryz.prog [] 8=some F8:=by kernel_rfl
def F97:AFn:=⟨20,[],zQ [zV 2 0,zn 3 2,zA 4 0 3,zL 5 1 4,zT 6 (.beq 1 false (.t 5) (.c .nilp))] [0,6] (zK 6 (.ops [zV 7 0,zV 8 0,zM 9 (.xop (.ucast 0 0 false (.t 8))),zM 10 (.xop (.noesc (.t 9))),zM 11 (.xop (.ucast 76 2 true (.t 10))),zn 12 7,zA 13 0 12,zS 1 13 11] []) (zQ [zV 14 0,zn 15 14,zA 16 0 15,zL 17 1 16,zV 18 0,zM 19 (.xop (.peq true (.t 17) (.t 18)))] [19] (zK 19 (.ops [⟨none,.call (.c .undef) [],none⟩] []) .skip)))⟩
theorem QV:cFn Tryz.prog [19] 97=some F97:=by kernel_rfl
def TF:AFn:=⟨8,[.tmp 4],zQ [zv 4 (kI 0)] [0,1] (zQ [zV 5 0,zV 6 1,zM 7 (.xop (.idxb (.t 5) (.t 6))),zV 4 7] [4] .ret)⟩
theorem M9:cFn Tryz.prog [] 250=some TF:=by kernel_rfl
end Go.Proofs.YtbojpfpliibfbaaGreatDoor
