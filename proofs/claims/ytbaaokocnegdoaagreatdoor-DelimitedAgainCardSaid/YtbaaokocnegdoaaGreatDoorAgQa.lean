/- Functions of the program as the logic reads them: the elaborator reckons each. -/
import Derived.Test.YtbaaokocnegdoaaGreatDoorProg
import Derived.Test.YtbaaokocnegdoaaGreatDoorAgCore5
import Derived.KernelRfl
set_option linter.unusedVariables false
set_option linter.unusedSimpArgs false
set_option maxRecDepth 100000
set_option maxHeartbeats 16000000
namespace Go.Proofs.YtbaaokocnegdoaaGreatDoor
open Go Go.Ab
abbrev gTa (m:List Nat)(f:Nat):Type:={F // cFn Tryz.prog m f=some F}
theorem gRa {m:List Nat}{f:Nat}{F:AFn}(g:Func)(h:cFn ⟨Tryz.progTables,Array.replicate (f+1) g⟩ m f=some F:=by
 refine (?f:?P->?P) ?h
 case h=>
  conv=>
   lhs
   cbv
 case f=>
  intro _
  kernel_rfl) (k:cFn Tryz.prog m f=some F:=by kernel_rfl):cFn Tryz.prog m f=some F:=k
def Q7:gTa [] 7:=⟨_,gRa Tryz.f7⟩
def Q15:gTa [2,3] 15:=⟨_,gRa Tryz.f15⟩
def Q19:gTa [] 19:=⟨_,gRa Tryz.f19⟩
def Q31:gTa [] 31:=⟨_,gRa Tryz.f31⟩
def Q34:gTa [] 34:=⟨_,gRa Tryz.f34⟩
def Q37:gTa [2,3] 37:=⟨_,gRa Tryz.f37⟩
def Q43:gTa [14] 43:=⟨_,gRa Tryz.f43⟩
def Q46:gTa [] 46:=⟨_,gRa Tryz.f46⟩
def Q52:gTa [2] 52:=⟨_,gRa Tryz.f52⟩
def Q64:gTa [3,4] 64:=⟨_,gRa Tryz.f64⟩
def Q68:gTa [] 68:=⟨_,gRa Tryz.f68⟩
def Q74:gTa [] 74:=⟨_,gRa Tryz.f74⟩
def Q77:gTa [] 77:=⟨_,gRa Tryz.f77⟩
def Q80:gTa [5,6] 80:=⟨_,gRa Tryz.f80⟩
def Q88:gTa [] 88:=⟨_,gRa Tryz.f88⟩
def Q93:gTa [] 93:=⟨_,gRa Tryz.f93⟩
def Q97:gTa [1] 97:=⟨_,gRa Tryz.f97⟩
def Rn:gTa [] 109:=⟨_,gRa Tryz.f109⟩
def TB:gTa [] 115:=⟨_,gRa Tryz.f115⟩
def KL:gTa [] 120:=⟨_,gRa Tryz.f120⟩
def Rl:gTa [] 126:=⟨_,gRa Tryz.f126⟩
def RI:gTa [] 129:=⟨_,gRa Tryz.f129⟩
def RH:gTa [] 132:=⟨_,gRa Tryz.f132⟩
def KK:gTa [] 143:=⟨_,gRa Tryz.f143⟩
def JB:gTa [] 146:=⟨_,gRa Tryz.f146⟩
def Rj:gTa [2] 152:=⟨_,gRa Tryz.f152⟩
def Ri:gTa [] 161:=⟨_,gRa Tryz.f161⟩
def KG:gTa [] 176:=⟨_,gRa Tryz.f176⟩
def Tv:gTa [] 179:=⟨_,gRa Tryz.f179⟩
def NW:gTa [] 187:=⟨_,gRa Tryz.f187⟩
def Oo:gTa [1] 190:=⟨_,gRa Tryz.f190⟩
def Tt:gTa [1] 194:=⟨_,gRa Tryz.f194⟩
def Om:gTa [] 222:=⟨_,gRa Tryz.f222⟩
def Fu:gTa [] 241:=⟨_,gRa Tryz.f241⟩
def To:gTa [1] 244:=⟨_,gRa Tryz.f244⟩
def RF:gTa [2,3] 247:=⟨_,gRa Tryz.f247⟩
def Rd:gTa [] 269:=⟨_,gRa Tryz.f269⟩
def Ti:gTa [] 272:=⟨_,gRa Tryz.f272⟩
def Th:gTa [1] 275:=⟨_,gRa Tryz.f275⟩
def Te:gTa [1] 278:=⟨_,gRa Tryz.f278⟩
def Tc:gTa [] 283:=⟨_,gRa Tryz.f283⟩
def AI:gTa [1] 294:=⟨_,gRa Tryz.f294⟩
def RD:gTa [] 297:=⟨_,gRa Tryz.f297⟩
def N3:gTa [33,1000039] 59:=⟨_,gRa Tryz.f59⟩
end Go.Proofs.YtbaaokocnegdoaaGreatDoor
