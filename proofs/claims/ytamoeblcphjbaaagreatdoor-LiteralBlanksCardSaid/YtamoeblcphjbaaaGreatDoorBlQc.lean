/- Functions of the program as the logic reads them: the elaborator reckons each. -/
import Derived.Test.YtamoeblcphjbaaaGreatDoorProg
import Derived.Test.YtamoeblcphjbaaaGreatDoorBlCore5
import Derived.KernelRfl
set_option linter.unusedVariables false
set_option linter.unusedSimpArgs false
set_option maxRecDepth 100000
set_option maxHeartbeats 16000000
namespace Go.Proofs.YtamoeblcphjbaaaGreatDoor
open Go Go.Ab
abbrev gTc (m:List Nat)(f:Nat):Type:={F // cFn Tryz.prog m f=some F}
theorem gRc {m:List Nat}{f:Nat}{F:AFn}(g:Func)(h:cFn ⟨Tryz.progTables,Array.replicate (f+1) g⟩ m f=some F:=by
 refine (?f:?P->?P) ?h
 case h=>
  conv=>
   lhs
   cbv
 case f=>
  intro _
  kernel_rfl) (k:cFn Tryz.prog m f=some F:=by kernel_rfl):cFn Tryz.prog m f=some F:=k
def Q27:gTc [] 27:=⟨_,gRc Tryz.f27⟩
def Q38:gTc [] 38:=⟨_,gRc Tryz.f38⟩
def Q44:gTc [] 44:=⟨_,gRc Tryz.f44⟩
def Q47:gTc [] 47:=⟨_,gRc Tryz.f47⟩
def Q50:gTc [14] 50:=⟨_,gRc Tryz.f50⟩
def Q56:gTc [124,1000123,1000159,1000071] 56:=⟨_,gRc Tryz.f56⟩
def Q59:gTc [] 59:=⟨_,gRc Tryz.f59⟩
def Q63:gTc [3] 63:=⟨_,gRc Tryz.f63⟩
def Q70:gTc [] 70:=⟨_,gRc Tryz.f70⟩
def Q73:gTc [] 73:=⟨_,gRc Tryz.f73⟩
def Q77:gTc [1] 77:=⟨_,gRc Tryz.f77⟩
def Q80:gTc [1] 80:=⟨_,gRc Tryz.f80⟩
def Q83:gTc [1] 83:=⟨_,gRc Tryz.f83⟩
def Q89:gTc [] 89:=⟨_,gRc Tryz.f89⟩
def Q92:gTc [] 92:=⟨_,gRc Tryz.f92⟩
def Q95:gTc [] 95:=⟨_,gRc Tryz.f95⟩
def Q98:gTc [1000028] 98:=⟨_,gRc Tryz.f98⟩
def TA:gTc [] 101:=⟨_,gRc Tryz.f101⟩
def Tx:gTc [] 105:=⟨_,gRc Tryz.f105⟩
def Tu:gTc [] 110:=⟨_,gRc Tryz.f110⟩
def kD:gTc [44] 113:=⟨_,gRc Tryz.f113⟩
def IB:gTc [] 121:=⟨_,gRc Tryz.f121⟩
def Ts:gTc [] 124:=⟨_,gRc Tryz.f124⟩
def Iz:gTc [] 127:=⟨_,gRc Tryz.f127⟩
def d6:gTc [] 130:=⟨_,gRc Tryz.f130⟩
def To:gTc [1000044] 133:=⟨_,gRc Tryz.f133⟩
def Iw:gTc [1] 143:=⟨_,gRc Tryz.f143⟩
def QR:gTc [] 154:=⟨_,gRc Tryz.f154⟩
def Tj:gTc [] 157:=⟨_,gRc Tryz.f157⟩
def Th:gTc [] 160:=⟨_,gRc Tryz.f160⟩
def NW:gTc [] 163:=⟨_,gRc Tryz.f163⟩
def Iv:gTc [] 166:=⟨_,gRc Tryz.f166⟩
def Te:gTc [] 171:=⟨_,gRc Tryz.f171⟩
def Tb:gTc [] 180:=⟨_,gRc Tryz.f180⟩
def JI:gTc [] 183:=⟨_,gRc Tryz.f183⟩
def S9:gTc [] 190:=⟨_,gRc Tryz.f190⟩
def Rn:gTc [] 193:=⟨_,gRc Tryz.f193⟩
def S6:gTc [] 196:=⟨_,gRc Tryz.f196⟩
def g8:gTc [2,3] 199:=⟨_,gRc Tryz.f199⟩
def NT:gTc [] 205:=⟨_,gRc Tryz.f205⟩
def S3:gTc [] 209:=⟨_,gRc Tryz.f209⟩
def NR:gTc [] 220:=⟨_,gRc Tryz.f220⟩
def JH:gTc [] 225:=⟨_,gRc Tryz.f225⟩
def Rk:gTc [] 228:=⟨_,gRc Tryz.f228⟩
def QK:gTc [2] 231:=⟨_,gRc Tryz.f231⟩
def Rh:gTc [] 236:=⟨_,gRc Tryz.f236⟩
def SZ:gTc [] 255:=⟨_,gRc Tryz.f255⟩
def SX:gTc [2] 258:=⟨_,gRc Tryz.f258⟩
def QI:gTc [] 261:=⟨_,gRc Tryz.f261⟩
def SS:gTc [2] 275:=⟨_,gRc Tryz.f275⟩
def zj:gTc [124,1000123,1000159,1000071,1000168] 56:=⟨_,gRc Tryz.f56⟩
