/- Functions of the program as the logic reads them: the elaborator reckons each. -/
import Derived.Test.YtngchmkoadaecaaGreatDoorProg
import Derived.Test.YtngchmkoadaecaaGreatDoorPbCore5
import Derived.KernelRfl
set_option linter.unusedVariables false
set_option linter.unusedSimpArgs false
set_option maxRecDepth 100000
set_option maxHeartbeats 16000000
namespace Go.Proofs.YtngchmkoadaecaaGreatDoor
open Go Go.Ab
abbrev gTc (m:List Nat)(f:Nat):Type:={F // cFn Tryz.prog m f=some F}
theorem gRc {m:List Nat}{f:Nat}{F:AFn}(g:Func)(h:cFn ⟨Tryz.progTables,Array.replicate (f+1) g⟩ m f=some F:=by
 refine (?f:?P->?P) ?h
 case h=>
  conv=>
   lhs
   cbv
 case f=>
  intro _
  kernel_rfl) (k:cFn Tryz.prog m f=some F:=by kernel_rfl):cFn Tryz.prog m f=some F:=k
def Q5:gTc [1] 5:=⟨_,gRc Tryz.f5⟩
def Q10:gTc [1] 10:=⟨_,gRc Tryz.f10⟩
def Q13:gTc [2] 13:=⟨_,gRc Tryz.f13⟩
def Q16:gTc [] 16:=⟨_,gRc Tryz.f16⟩
def Q22:gTc [1] 22:=⟨_,gRc Tryz.f22⟩
def Q25:gTc [] 25:=⟨_,gRc Tryz.f25⟩
def Q28:gTc [4] 28:=⟨_,gRc Tryz.f28⟩
def Q31:gTc [] 31:=⟨_,gRc Tryz.f31⟩
def Q34:gTc [2] 34:=⟨_,gRc Tryz.f34⟩
def Q38:gTc [] 38:=⟨_,gRc Tryz.f38⟩
def Q41:gTc [3] 41:=⟨_,gRc Tryz.f41⟩
def Q45:gTc [1] 45:=⟨_,gRc Tryz.f45⟩
def Q48:gTc [] 48:=⟨_,gRc Tryz.f48⟩
def Q51:gTc [] 51:=⟨_,gRc Tryz.f51⟩
def Q54:gTc [3,4,5] 54:=⟨_,gRc Tryz.f54⟩
def Q57:gTc [] 57:=⟨_,gRc Tryz.f57⟩
def Q60:gTc [] 60:=⟨_,gRc Tryz.f60⟩
def Q63:gTc [] 63:=⟨_,gRc Tryz.f63⟩
def Q66:gTc [] 66:=⟨_,gRc Tryz.f66⟩
def Q69:gTc [1] 69:=⟨_,gRc Tryz.f69⟩
def Q72:gTc [1] 72:=⟨_,gRc Tryz.f72⟩
def Q75:gTc [1] 75:=⟨_,gRc Tryz.f75⟩
def Q78:gTc [1] 78:=⟨_,gRc Tryz.f78⟩
def Q81:gTc [1] 81:=⟨_,gRc Tryz.f81⟩
def Q84:gTc [2] 84:=⟨_,gRc Tryz.f84⟩
def Q87:gTc [1] 87:=⟨_,gRc Tryz.f87⟩
def Q90:gTc [] 90:=⟨_,gRc Tryz.f90⟩
def Q93:gTc [] 93:=⟨_,gRc Tryz.f93⟩
def Q96:gTc [] 96:=⟨_,gRc Tryz.f96⟩
def Tb:gTc [] 101:=⟨_,gRc Tryz.f101⟩
def Ta:gTc [3] 104:=⟨_,gRc Tryz.f104⟩
def VB:gTc [] 107:=⟨_,gRc Tryz.f107⟩
def lC:gTc [3] 110:=⟨_,gRc Tryz.f110⟩
def Lc:gTc [15,34] 113:=⟨_,gRc Tryz.f113⟩
def S6:gTc [1] 116:=⟨_,gRc Tryz.f116⟩
def S3:gTc [] 119:=⟨_,gRc Tryz.f119⟩
def Vy:gTc [] 126:=⟨_,gRc Tryz.f126⟩
def PN:gTc [1] 130:=⟨_,gRc Tryz.f130⟩
def Po:gTc [1] 133:=⟨_,gRc Tryz.f133⟩
def Vt:gTc [] 140:=⟨_,gRc Tryz.f140⟩
def Vs:gTc [2] 143:=⟨_,gRc Tryz.f143⟩
def Vq:gTc [1] 146:=⟨_,gRc Tryz.f146⟩
def Kh:gTc [2] 155:=⟨_,gRc Tryz.f155⟩
def Vm:gTc [1] 158:=⟨_,gRc Tryz.f158⟩
def TL:gTc [] 161:=⟨_,gRc Tryz.f161⟩
def SY:gTc [2] 164:=⟨_,gRc Tryz.f164⟩
def Vj:gTc [1] 172:=⟨_,gRc Tryz.f172⟩
def Vh:gTc [1] 175:=⟨_,gRc Tryz.f175⟩
def TI:gTc [] 178:=⟨_,gRc Tryz.f178⟩
def Vd:gTc [1] 181:=⟨_,gRc Tryz.f181⟩
def SU:gTc [1] 184:=⟨_,gRc Tryz.f184⟩
def SR:gTc [2] 189:=⟨_,gRc Tryz.f189⟩
def Aw:gTc [1] 194:=⟨_,gRc Tryz.f194⟩
def U5:gTc [2] 197:=⟨_,gRc Tryz.f197⟩
