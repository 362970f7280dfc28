/- Functions of the program as the logic reads them: the elaborator reckons each. -/
import Derived.Test.YtbojpfpliibfbaaGreatDoorProg
import Derived.Test.YtbojpfpliibfbaaGreatDoorEnCore5
import Derived.KernelRfl
set_option linter.unusedVariables false
set_option linter.unusedSimpArgs false
set_option maxRecDepth 100000
set_option maxHeartbeats 16000000
namespace Go.Proofs.YtbojpfpliibfbaaGreatDoor
open Go Go.Ab
abbrev gTb (m:List Nat)(f:Nat):Type:={F // cFn Tryz.prog m f=some F}
theorem gRb {m:List Nat}{f:Nat}{F:AFn}(g:Func)(h:cFn ⟨Tryz.progTables,Array.replicate (f+1) g⟩ m f=some F:=by
 refine (?f:?P->?P) ?h
 case h=>
  conv=>
   lhs
   cbv
 case f=>
  intro _
  kernel_rfl) (k:cFn Tryz.prog m f=some F:=by kernel_rfl):cFn Tryz.prog m f=some F:=k
def Q10:gTb [] 10:=⟨_,gRb Tryz.f10⟩
def Q14:gTb [3,5] 14:=⟨_,gRb Tryz.f14⟩
def Q20:gTb [3,4] 20:=⟨_,gRb Tryz.f20⟩
def Q29:gTb [] 29:=⟨_,gRb Tryz.f29⟩
def Q34:gTb [] 34:=⟨_,gRb Tryz.f34⟩
def Q37:gTb [] 37:=⟨_,gRb Tryz.f37⟩
def Q40:gTb [] 40:=⟨_,gRb Tryz.f40⟩
def Q43:gTb [] 43:=⟨_,gRb Tryz.f43⟩
def Q47:gTb [] 47:=⟨_,gRb Tryz.f47⟩
def Q50:gTb [] 50:=⟨_,gRb Tryz.f50⟩
def Q54:gTb [] 54:=⟨_,gRb Tryz.f54⟩
def Q64:gTb [3,4] 64:=⟨_,gRb Tryz.f64⟩
def Q67:gTb [1] 67:=⟨_,gRb Tryz.f67⟩
def Q72:gTb [1] 72:=⟨_,gRb Tryz.f72⟩
def Q75:gTb [] 75:=⟨_,gRb Tryz.f75⟩
def Q78:gTb [] 78:=⟨_,gRb Tryz.f78⟩
def Q81:gTb [5,6] 81:=⟨_,gRb Tryz.f81⟩
def Q84:gTb [] 84:=⟨_,gRb Tryz.f84⟩
def Q87:gTb [] 87:=⟨_,gRb Tryz.f87⟩
def Q90:gTb [] 90:=⟨_,gRb Tryz.f90⟩
def Q98:gTb [] 98:=⟨_,gRb Tryz.f98⟩
def Nb:gTb [] 101:=⟨_,gRb Tryz.f101⟩
def FS:gTb [1] 110:=⟨_,gRb Tryz.f110⟩
def ND:gTb [] 122:=⟨_,gRb Tryz.f122⟩
def fU:gTb [1] 125:=⟨_,gRb Tryz.f125⟩
def PJ:gTb [] 128:=⟨_,gRb Tryz.f128⟩
def PI:gTb [] 131:=⟨_,gRb Tryz.f131⟩
def NC:gTb [] 134:=⟨_,gRb Tryz.f134⟩
def PG:gTb [5,6] 138:=⟨_,gRb Tryz.f138⟩
def PF:gTb [] 141:=⟨_,gRb Tryz.f141⟩
def PC:gTb [] 144:=⟨_,gRb Tryz.f144⟩
def Pz:gTb [] 152:=⟨_,gRb Tryz.f152⟩
def Px:gTb [] 155:=⟨_,gRb Tryz.f155⟩
def kS:gTb [] 174:=⟨_,gRb Tryz.f174⟩
def FP:gTb [1] 179:=⟨_,gRb Tryz.f179⟩
def M8:gTb [] 182:=⟨_,gRb Tryz.f182⟩
def Kz:gTb [] 185:=⟨_,gRb Tryz.f185⟩
def Pt:gTb [1,11,61] 188:=⟨_,gRb Tryz.f188⟩
def Ny:gTb [] 191:=⟨_,gRb Tryz.f191⟩
def Nx:gTb [] 195:=⟨_,gRb Tryz.f195⟩
def Pq:gTb [] 198:=⟨_,gRb Tryz.f198⟩
def Ku:gTb [] 226:=⟨_,gRb Tryz.f226⟩
def Pp:gTb [] 229:=⟨_,gRb Tryz.f229⟩
def Po:gTb [2] 232:=⟨_,gRb Tryz.f232⟩
def Pm:gTb [1] 235:=⟨_,gRb Tryz.f235⟩
def Pl:gTb [2] 238:=⟨_,gRb Tryz.f238⟩
def Kr:gTb [] 242:=⟨_,gRb Tryz.f242⟩
def FN:gTb [2] 259:=⟨_,gRb Tryz.f259⟩
def bS:gTb [1] 262:=⟨_,gRb Tryz.f262⟩
def Nu:gTb [2,3] 265:=⟨_,gRb Tryz.f265⟩
def M2:gTb [] 268:=⟨_,gRb Tryz.f268⟩
def M1:gTb [] 283:=⟨_,gRb Tryz.f283⟩
def Pd:gTb [] 286:=⟨_,gRb Tryz.f286⟩
def Pc:gTb [1] 289:=⟨_,gRb Tryz.f289⟩
def O9:gTb [1] 292:=⟨_,gRb Tryz.f292⟩
def O8:gTb [] 297:=⟨_,gRb Tryz.f297⟩
def wn:gTb [1] 310:=⟨_,gRb Tryz.f310⟩
def Ns:gTb [] 322:=⟨_,gRb Tryz.f322⟩
end Go.Proofs.YtbojpfpliibfbaaGreatDoor
