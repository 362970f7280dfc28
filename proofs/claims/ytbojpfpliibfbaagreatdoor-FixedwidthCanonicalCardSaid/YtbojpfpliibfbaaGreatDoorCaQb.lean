/- Functions of the program as the logic reads them: the elaborator reckons each. -/
import Derived.Test.YtbojpfpliibfbaaGreatDoorProg
import Derived.Test.YtbojpfpliibfbaaGreatDoorCaCore5
import Derived.KernelRfl
set_option linter.unusedVariables false
set_option linter.unusedSimpArgs false
set_option maxRecDepth 100000
set_option maxHeartbeats 16000000
namespace Go.Proofs.YtbojpfpliibfbaaGreatDoor
open Go Go.Ab
abbrev gTb (m:List Nat)(f:Nat):Type:={F // cFn Tryz.prog m f=some F}
theorem gRb {m:List Nat}{f:Nat}{F:AFn}(g:Func)(h:cFn ⟨Tryz.progTables,Array.replicate (f+1) g⟩ m f=some F:=by
 refine (?f:?P->?P) ?h
 case h=>
  conv=>
   lhs
   cbv
 case f=>
  intro _
  kernel_rfl) (k:cFn Tryz.prog m f=some F:=by kernel_rfl):cFn Tryz.prog m f=some F:=k
def Q10:gTb [] 10:=⟨_,gRb Tryz.f10⟩
def Q16:gTb [] 16:=⟨_,gRb Tryz.f16⟩
def Q21:gTb [] 21:=⟨_,gRb Tryz.f21⟩
def Q34:gTb [] 34:=⟨_,gRb Tryz.f34⟩
def Q37:gTb [] 37:=⟨_,gRb Tryz.f37⟩
def Q40:gTb [] 40:=⟨_,gRb Tryz.f40⟩
def Q44:gTb [2] 44:=⟨_,gRb Tryz.f44⟩
def Q50:gTb [] 50:=⟨_,gRb Tryz.f50⟩
def Q53:gTb [3] 53:=⟨_,gRb Tryz.f53⟩
def Q58:gTb [] 58:=⟨_,gRb Tryz.f58⟩
def Q69:gTb [1] 69:=⟨_,gRb Tryz.f69⟩
def Q75:gTb [] 75:=⟨_,gRb Tryz.f75⟩
def Q78:gTb [] 78:=⟨_,gRb Tryz.f78⟩
def Q81:gTb [5,6] 81:=⟨_,gRb Tryz.f81⟩
def Q84:gTb [] 84:=⟨_,gRb Tryz.f84⟩
def Q87:gTb [] 87:=⟨_,gRb Tryz.f87⟩
def Q90:gTb [] 90:=⟨_,gRb Tryz.f90⟩
def Pf:gTb [] 101:=⟨_,gRb Tryz.f101⟩
def Ml:gTb [] 105:=⟨_,gRb Tryz.f105⟩
def RN:gTb [] 108:=⟨_,gRb Tryz.f108⟩
def Pe:gTb [] 119:=⟨_,gRb Tryz.f119⟩
def RL:gTb [] 128:=⟨_,gRb Tryz.f128⟩
def RK:gTb [] 131:=⟨_,gRb Tryz.f131⟩
def PJ:gTb [] 134:=⟨_,gRb Tryz.f134⟩
def RI:gTb [5,6] 138:=⟨_,gRb Tryz.f138⟩
def RH:gTb [] 141:=⟨_,gRb Tryz.f141⟩
def RE:gTb [] 144:=⟨_,gRb Tryz.f144⟩
def Pb:gTb [] 149:=⟨_,gRb Tryz.f149⟩
def RA:gTb [] 160:=⟨_,gRb Tryz.f160⟩
def Ry:gTb [] 165:=⟨_,gRb Tryz.f165⟩
def Ha:gTb [] 168:=⟨_,gRb Tryz.f168⟩
def G9:gTb [1] 179:=⟨_,gRb Tryz.f179⟩
def PF:gTb [] 191:=⟨_,gRb Tryz.f191⟩
def PE:gTb [] 195:=⟨_,gRb Tryz.f195⟩
def Rw:gTb [] 198:=⟨_,gRb Tryz.f198⟩
def Rv:gTb [] 208:=⟨_,gRb Tryz.f208⟩
def LF:gTb [] 211:=⟨_,gRb Tryz.f211⟩
def Rr:gTb [] 214:=⟨_,gRb Tryz.f214⟩
def dL:gTb [] 230:=⟨_,gRb Tryz.f230⟩
def Ro:gTb [1] 233:=⟨_,gRb Tryz.f233⟩
def PC:gTb [] 240:=⟨_,gRb Tryz.f240⟩
def LE:gTb [] 251:=⟨_,gRb Tryz.f251⟩
def G7:gTb [2] 259:=⟨_,gRb Tryz.f259⟩
def bD:gTb [1] 262:=⟨_,gRb Tryz.f262⟩
def Pz:gTb [2,3] 265:=⟨_,gRb Tryz.f265⟩
def Rj:gTb [1] 282:=⟨_,gRb Tryz.f282⟩
def Rh:gTb [1] 285:=⟨_,gRb Tryz.f285⟩
def Py:gTb [] 288:=⟨_,gRb Tryz.f288⟩
def Rd:gTb [1] 291:=⟨_,gRb Tryz.f291⟩
def O3:gTb [1] 294:=⟨_,gRb Tryz.f294⟩
def Ra:gTb [2] 299:=⟨_,gRb Tryz.f299⟩
def Q9:gTb [] 311:=⟨_,gRb Tryz.f311⟩
def LI:gTb [33,1000039] 55:=⟨_,gRb Tryz.f55⟩
end Go.Proofs.YtbojpfpliibfbaaGreatDoor
