/- Functions of the program as the logic reads them: the elaborator reckons each. -/
import Derived.Test.YtbaaokocnegdoaaGreatDoorProg
import Derived.Test.YtbaaokocnegdoaaGreatDoorAgCore5
import Derived.KernelRfl
set_option linter.unusedVariables false
set_option linter.unusedSimpArgs false
set_option maxRecDepth 100000
set_option maxHeartbeats 16000000
namespace Go.Proofs.YtbaaokocnegdoaaGreatDoor
open Go Go.Ab
abbrev gTb (m:List Nat)(f:Nat):Type:={F // cFn Tryz.prog m f=some F}
theorem gRb {m:List Nat}{f:Nat}{F:AFn}(g:Func)(h:cFn ⟨Tryz.progTables,Array.replicate (f+1) g⟩ m f=some F:=by
 refine (?f:?P->?P) ?h
 case h=>
  conv=>
   lhs
   cbv
 case f=>
  intro _
  kernel_rfl) (k:cFn Tryz.prog m f=some F:=by kernel_rfl):cFn Tryz.prog m f=some F:=k
def Q11:gTb [] 11:=⟨_,gRb Tryz.f11⟩
def Q16:gTb [] 16:=⟨_,gRb Tryz.f16⟩
def Q20:gTb [] 20:=⟨_,gRb Tryz.f20⟩
def Q24:gTb [3,4] 24:=⟨_,gRb Tryz.f24⟩
def Q32:gTb [] 32:=⟨_,gRb Tryz.f32⟩
def Q35:gTb [] 35:=⟨_,gRb Tryz.f35⟩
def Q41:gTb [] 41:=⟨_,gRb Tryz.f41⟩
def Q44:gTb [] 44:=⟨_,gRb Tryz.f44⟩
def Q47:gTb [] 47:=⟨_,gRb Tryz.f47⟩
def Q53:gTb [] 53:=⟨_,gRb Tryz.f53⟩
def Q61:gTb [1] 61:=⟨_,gRb Tryz.f61⟩
def Q65:gTb [2] 65:=⟨_,gRb Tryz.f65⟩
def Q71:gTb [] 71:=⟨_,gRb Tryz.f71⟩
def Q75:gTb [] 75:=⟨_,gRb Tryz.f75⟩
def Q78:gTb [] 78:=⟨_,gRb Tryz.f78⟩
def Q85:gTb [] 85:=⟨_,gRb Tryz.f85⟩
def Q91:gTb [] 91:=⟨_,gRb Tryz.f91⟩
def Q95:gTb [] 95:=⟨_,gRb Tryz.f95⟩
def Ro:gTb [2,3] 100:=⟨_,gRb Tryz.f100⟩
def KM:gTb [2] 110:=⟨_,gRb Tryz.f110⟩
def TA:gTb [2] 117:=⟨_,gRb Tryz.f117⟩
def JC:gTb [] 124:=⟨_,gRb Tryz.f124⟩
def N0:gTb [] 127:=⟨_,gRb Tryz.f127⟩
def NZ:gTb [1] 130:=⟨_,gRb Tryz.f130⟩
def Rk:gTb [5,6] 133:=⟨_,gRb Tryz.f133⟩
def Fw:gTb [] 144:=⟨_,gRb Tryz.f144⟩
def KJ:gTb [] 147:=⟨_,gRb Tryz.f147⟩
def Tz:gTb [] 159:=⟨_,gRb Tryz.f159⟩
def l8:gTb [] 165:=⟨_,gRb Tryz.f165⟩
def NX:gTb [] 177:=⟨_,gRb Tryz.f177⟩
def Oq:gTb [] 180:=⟨_,gRb Tryz.f180⟩
def Rg:gTb [] 188:=⟨_,gRb Tryz.f188⟩
def Tu:gTb [1] 192:=⟨_,gRb Tryz.f192⟩
def KF:gTb [] 209:=⟨_,gRb Tryz.f209⟩
def Ts:gTb [] 239:=⟨_,gRb Tryz.f239⟩
def Tq:gTb [] 242:=⟨_,gRb Tryz.f242⟩
def RG:gTb [] 245:=⟨_,gRb Tryz.f245⟩
def Re:gTb [2] 248:=⟨_,gRb Tryz.f248⟩
def Tk:gTb [1] 270:=⟨_,gRb Tryz.f270⟩
def Rc:gTb [1] 273:=⟨_,gRb Tryz.f273⟩
def Tg:gTb [1] 276:=⟨_,gRb Tryz.f276⟩
def Ol:gTb [1] 279:=⟨_,gRb Tryz.f279⟩
def Ra:gTb [2] 284:=⟨_,gRb Tryz.f284⟩
def Ta:gTb [] 295:=⟨_,gRb Tryz.f295⟩
def Fx:gTb [1] 48:=⟨_,gRb Tryz.f48⟩
def jH:gTb [3] 94:=⟨_,gRb Tryz.f94⟩
end Go.Proofs.YtbaaokocnegdoaaGreatDoor
