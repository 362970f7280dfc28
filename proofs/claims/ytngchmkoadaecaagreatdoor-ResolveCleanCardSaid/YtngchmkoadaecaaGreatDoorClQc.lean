/- Functions of the program as the logic reads them: the elaborator reckons each. -/
import Derived.Test.YtngchmkoadaecaaGreatDoorProg
import Derived.Test.YtngchmkoadaecaaGreatDoorClCore5
import Derived.KernelRfl
set_option linter.unusedVariables false
set_option linter.unusedSimpArgs false
set_option maxRecDepth 100000
set_option maxHeartbeats 16000000
namespace Go.Proofs.YtngchmkoadaecaaGreatDoor
open Go Go.Ab
abbrev gTc (m:List Nat)(f:Nat):Type:={F // cFn Tryz.prog m f=some F}
theorem gRc {m:List Nat}{f:Nat}{F:AFn}(g:Func)(h:cFn ⟨Tryz.progTables,Array.replicate (f+1) g⟩ m f=some F:=by
 refine (?f:?P->?P) ?h
 case h=>
  conv=>
   lhs
   cbv
 case f=>
  intro _
  kernel_rfl) (k:cFn Tryz.prog m f=some F:=by kernel_rfl):cFn Tryz.prog m f=some F:=k
def Q7:gTc [1] 7:=⟨_,gRc Tryz.f7⟩
def Q12:gTc [1] 12:=⟨_,gRc Tryz.f12⟩
def Q15:gTc [2] 15:=⟨_,gRc Tryz.f15⟩
def Q18:gTc [] 18:=⟨_,gRc Tryz.f18⟩
def Q25:gTc [] 25:=⟨_,gRc Tryz.f25⟩
def Q28:gTc [4] 28:=⟨_,gRc Tryz.f28⟩
def Q31:gTc [] 31:=⟨_,gRc Tryz.f31⟩
def Q34:gTc [2] 34:=⟨_,gRc Tryz.f34⟩
def Q40:gTc [] 40:=⟨_,gRc Tryz.f40⟩
def Q45:gTc [1] 45:=⟨_,gRc Tryz.f45⟩
def Q48:gTc [] 48:=⟨_,gRc Tryz.f48⟩
def Q51:gTc [] 51:=⟨_,gRc Tryz.f51⟩
def Q54:gTc [3,4,5] 54:=⟨_,gRc Tryz.f54⟩
def Q57:gTc [] 57:=⟨_,gRc Tryz.f57⟩
def Q60:gTc [] 60:=⟨_,gRc Tryz.f60⟩
def Q63:gTc [] 63:=⟨_,gRc Tryz.f63⟩
def Q66:gTc [] 66:=⟨_,gRc Tryz.f66⟩
def Q69:gTc [1] 69:=⟨_,gRc Tryz.f69⟩
def Q72:gTc [1] 72:=⟨_,gRc Tryz.f72⟩
def Q75:gTc [1] 75:=⟨_,gRc Tryz.f75⟩
def Q78:gTc [1] 78:=⟨_,gRc Tryz.f78⟩
def Q81:gTc [1] 81:=⟨_,gRc Tryz.f81⟩
def Q84:gTc [2] 84:=⟨_,gRc Tryz.f84⟩
def Q87:gTc [1] 87:=⟨_,gRc Tryz.f87⟩
def Q90:gTc [] 90:=⟨_,gRc Tryz.f90⟩
def Q95:gTc [] 95:=⟨_,gRc Tryz.f95⟩
def Q98:gTc [] 98:=⟨_,gRc Tryz.f98⟩
def S9:gTc [] 103:=⟨_,gRc Tryz.f103⟩
def S7:gTc [] 106:=⟨_,gRc Tryz.f106⟩
def S5:gTc [2,3] 109:=⟨_,gRc Tryz.f109⟩
def Jd:gTc [15,34] 113:=⟨_,gRc Tryz.f113⟩
def QO:gTc [1] 116:=⟨_,gRc Tryz.f116⟩
def QL:gTc [] 119:=⟨_,gRc Tryz.f119⟩
def S3:gTc [] 126:=⟨_,gRc Tryz.f126⟩
def No:gTc [1] 130:=⟨_,gRc Tryz.f130⟩
def M2:gTc [1] 133:=⟨_,gRc Tryz.f133⟩
def SY:gTc [] 140:=⟨_,gRc Tryz.f140⟩
def SW:gTc [2] 143:=⟨_,gRc Tryz.f143⟩
def SU:gTc [1] 146:=⟨_,gRc Tryz.f146⟩
def If:gTc [2] 155:=⟨_,gRc Tryz.f155⟩
def SO:gTc [1] 158:=⟨_,gRc Tryz.f158⟩
def Rh:gTc [] 161:=⟨_,gRc Tryz.f161⟩
def QI:gTc [2] 164:=⟨_,gRc Tryz.f164⟩
def SL:gTc [1] 172:=⟨_,gRc Tryz.f172⟩
def SJ:gTc [1] 175:=⟨_,gRc Tryz.f175⟩
def Rd:gTc [] 178:=⟨_,gRc Tryz.f178⟩
def SF:gTc [1] 181:=⟨_,gRc Tryz.f181⟩
def QF:gTc [1] 184:=⟨_,gRc Tryz.f184⟩
def QE:gTc [2] 189:=⟨_,gRc Tryz.f189⟩
def xW:gTc [1] 194:=⟨_,gRc Tryz.f194⟩
def Sx:gTc [2] 197:=⟨_,gRc Tryz.f197⟩
