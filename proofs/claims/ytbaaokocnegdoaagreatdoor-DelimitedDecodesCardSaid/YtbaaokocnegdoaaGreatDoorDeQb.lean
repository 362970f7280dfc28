/- Functions of the program as the logic reads them: the elaborator reckons each. -/
import Derived.Test.YtbaaokocnegdoaaGreatDoorProg
import Derived.Test.YtbaaokocnegdoaaGreatDoorDeCore5
import Derived.KernelRfl
set_option linter.unusedVariables false
set_option linter.unusedSimpArgs false
set_option maxRecDepth 100000
set_option maxHeartbeats 16000000
namespace Go.Proofs.YtbaaokocnegdoaaGreatDoor
open Go Go.Ab
abbrev gTb (m:List Nat)(f:Nat):Type:={F // cFn Tryz.prog m f=some F}
theorem gRb {m:List Nat}{f:Nat}{F:AFn}(g:Func)(h:cFn ⟨Tryz.progTables,Array.replicate (f+1) g⟩ m f=some F:=by
 refine (?f:?P->?P) ?h
 case h=>
  conv=>
   lhs
   cbv
 case f=>
  intro _
  kernel_rfl) (k:cFn Tryz.prog m f=some F:=by kernel_rfl):cFn Tryz.prog m f=some F:=k
def Q11:gTb [] 11:=⟨_,gRb Tryz.f11⟩
def Q15:gTb [2,3] 15:=⟨_,gRb Tryz.f15⟩
def Q19:gTb [] 19:=⟨_,gRb Tryz.f19⟩
def Q24:gTb [3,4] 24:=⟨_,gRb Tryz.f24⟩
def Q32:gTb [] 32:=⟨_,gRb Tryz.f32⟩
def Q35:gTb [] 35:=⟨_,gRb Tryz.f35⟩
def Q38:gTb [] 38:=⟨_,gRb Tryz.f38⟩
def Q43:gTb [14] 43:=⟨_,gRb Tryz.f43⟩
def Q49:gTb [1] 49:=⟨_,gRb Tryz.f49⟩
def Q52:gTb [2] 52:=⟨_,gRb Tryz.f52⟩
def Q61:gTb [1] 61:=⟨_,gRb Tryz.f61⟩
def Q70:gTb [] 70:=⟨_,gRb Tryz.f70⟩
def Q74:gTb [] 74:=⟨_,gRb Tryz.f74⟩
def Q77:gTb [] 77:=⟨_,gRb Tryz.f77⟩
def Q80:gTb [5,6] 80:=⟨_,gRb Tryz.f80⟩
def Q83:gTb [] 83:=⟨_,gRb Tryz.f83⟩
def Q88:gTb [] 88:=⟨_,gRb Tryz.f88⟩
def Q97:gTb [1] 97:=⟨_,gRb Tryz.f97⟩
def R0:gTb [2,3] 100:=⟨_,gRb Tryz.f100⟩
def we:gTb [] 108:=⟨_,gRb Tryz.f108⟩
def RY:gTb [] 111:=⟨_,gRb Tryz.f111⟩
def J3:gTb [] 124:=⟨_,gRb Tryz.f124⟩
def Ox:gTb [] 127:=⟨_,gRb Tryz.f127⟩
def Ow:gTb [1] 130:=⟨_,gRb Tryz.f130⟩
def Sj:gTb [] 135:=⟨_,gRb Tryz.f135⟩
def K4:gTb [] 143:=⟨_,gRb Tryz.f143⟩
def J1:gTb [] 146:=⟨_,gRb Tryz.f146⟩
def O8:gTb [2,3] 149:=⟨_,gRb Tryz.f149⟩
def RW:gTb [2] 152:=⟨_,gRb Tryz.f152⟩
def Uf:gTb [] 159:=⟨_,gRb Tryz.f159⟩
def l6:gTb [] 165:=⟨_,gRb Tryz.f165⟩
def Ot:gTb [] 177:=⟨_,gRb Tryz.f177⟩
def FF:gTb [] 182:=⟨_,gRb Tryz.f182⟩
def RT:gTb [] 189:=⟨_,gRb Tryz.f189⟩
def gG:gTb [2,3] 193:=⟨_,gRb Tryz.f193⟩
def T9:gTb [1] 196:=⟨_,gRb Tryz.f196⟩
def O0:gTb [3] 199:=⟨_,gRb Tryz.f199⟩
def T8:gTb [1] 203:=⟨_,gRb Tryz.f203⟩
def OY:gTb [] 221:=⟨_,gRb Tryz.f221⟩
def T7:gTb [] 239:=⟨_,gRb Tryz.f239⟩
def T6:gTb [] 242:=⟨_,gRb Tryz.f242⟩
def Sg:gTb [] 245:=⟨_,gRb Tryz.f245⟩
def RR:gTb [2] 248:=⟨_,gRb Tryz.f248⟩
def oM:gTb [1] 251:=⟨_,gRb Tryz.f251⟩
def TY:gTb [1] 268:=⟨_,gRb Tryz.f268⟩
def TW:gTb [1] 271:=⟨_,gRb Tryz.f271⟩
def Se:gTb [] 274:=⟨_,gRb Tryz.f274⟩
def TS:gTb [1] 277:=⟨_,gRb Tryz.f277⟩
def RN:gTb [1] 280:=⟨_,gRb Tryz.f280⟩
def TP:gTb [2] 285:=⟨_,gRb Tryz.f285⟩
def RL:gTb [] 288:=⟨_,gRb Tryz.f288⟩
def Au:gTb [1] 294:=⟨_,gRb Tryz.f294⟩
def Sc:gTb [] 297:=⟨_,gRb Tryz.f297⟩
def OB:gTb [33,1000039] 59:=⟨_,gRb Tryz.f59⟩
def Oz:gTb [1,11,61] 201:=⟨_,gRb Tryz.f201⟩
end Go.Proofs.YtbaaokocnegdoaaGreatDoor
