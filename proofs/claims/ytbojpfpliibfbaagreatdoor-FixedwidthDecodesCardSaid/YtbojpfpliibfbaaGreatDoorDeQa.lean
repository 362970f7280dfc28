/- Functions of the program as the logic reads them: the elaborator reckons each. -/
import Derived.Test.YtbojpfpliibfbaaGreatDoorProg
import Derived.Test.YtbojpfpliibfbaaGreatDoorDeCore5
import Derived.KernelRfl
set_option linter.unusedVariables false
set_option linter.unusedSimpArgs false
set_option maxRecDepth 100000
set_option maxHeartbeats 16000000
namespace Go.Proofs.YtbojpfpliibfbaaGreatDoor
open Go Go.Ab
abbrev gTa (m:List Nat)(f:Nat):Type:={F // cFn Tryz.prog m f=some F}
theorem gRa {m:List Nat}{f:Nat}{F:AFn}(g:Func)(h:cFn ⟨Tryz.progTables,Array.replicate (f+1) g⟩ m f=some F:=by
 refine (?f:?P->?P) ?h
 case h=>
  conv=>
   lhs
   cbv
 case f=>
  intro _
  kernel_rfl) (k:cFn Tryz.prog m f=some F:=by kernel_rfl):cFn Tryz.prog m f=some F:=k
def Q5:gTa [3] 5:=⟨_,gRa Tryz.f5⟩
def Q13:gTa [] 13:=⟨_,gRa Tryz.f13⟩
def Q18:gTa [3] 18:=⟨_,gRa Tryz.f18⟩
def Q21:gTa [] 21:=⟨_,gRa Tryz.f21⟩
def Q29:gTa [] 29:=⟨_,gRa Tryz.f29⟩
def Q34:gTa [] 34:=⟨_,gRa Tryz.f34⟩
def Q37:gTa [] 37:=⟨_,gRa Tryz.f37⟩
def Q40:gTa [] 40:=⟨_,gRa Tryz.f40⟩
def Q43:gTa [] 43:=⟨_,gRa Tryz.f43⟩
def Q51:gTa [] 51:=⟨_,gRa Tryz.f51⟩
def Q54:gTa [] 54:=⟨_,gRa Tryz.f54⟩
def Q58:gTa [] 58:=⟨_,gRa Tryz.f58⟩
def Q61:gTa [1] 61:=⟨_,gRa Tryz.f61⟩
def Q65:gTa [2] 65:=⟨_,gRa Tryz.f65⟩
def Q68:gTa [] 68:=⟨_,gRa Tryz.f68⟩
def Q72:gTa [1] 72:=⟨_,gRa Tryz.f72⟩
def Q75:gTa [] 75:=⟨_,gRa Tryz.f75⟩
def Q78:gTa [] 78:=⟨_,gRa Tryz.f78⟩
def Q81:gTa [5,6] 81:=⟨_,gRa Tryz.f81⟩
def Q91:gTa [2,3] 91:=⟨_,gRa Tryz.f91⟩
def P4:gTa [] 102:=⟨_,gRa Tryz.f102⟩
def Mu:gTa [] 106:=⟨_,gRa Tryz.f106⟩
def Mt:gTa [2] 109:=⟨_,gRa Tryz.f109⟩
def Si:gTa [] 115:=⟨_,gRa Tryz.f115⟩
def ey:gTa [] 118:=⟨_,gRa Tryz.f118⟩
def P2:gTa [] 122:=⟨_,gRa Tryz.f122⟩
def Ms:gTa [1] 125:=⟨_,gRa Tryz.f125⟩
def Sf:gTa [] 128:=⟨_,gRa Tryz.f128⟩
def Se:gTa [] 131:=⟨_,gRa Tryz.f131⟩
def P1:gTa [] 134:=⟨_,gRa Tryz.f134⟩
def HA:gTa [] 140:=⟨_,gRa Tryz.f140⟩
def Sa:gTa [2] 146:=⟨_,gRa Tryz.f146⟩
def R8:gTa [] 156:=⟨_,gRa Tryz.f156⟩
def R6:gTa [3] 164:=⟨_,gRa Tryz.f164⟩
def PZ:gTa [] 167:=⟨_,gRa Tryz.f167⟩
def yo:gTa [] 173:=⟨_,gRa Tryz.f173⟩
def Iv:gTa [] 176:=⟨_,gRa Tryz.f176⟩
def Hy:gTa [1] 179:=⟨_,gRa Tryz.f179⟩
def Pu:gTa [] 182:=⟨_,gRa Tryz.f182⟩
def Ml:gTa [] 185:=⟨_,gRa Tryz.f185⟩
def R0:gTa [1,11,61] 188:=⟨_,gRa Tryz.f188⟩
def PX:gTa [] 191:=⟨_,gRa Tryz.f191⟩
def Pt:gTa [] 197:=⟨_,gRa Tryz.f197⟩
def DL:gTa [] 201:=⟨_,gRa Tryz.f201⟩
def RW:gTa [] 209:=⟨_,gRa Tryz.f209⟩
def RT:gTa [] 212:=⟨_,gRa Tryz.f212⟩
def Mg:gTa [] 226:=⟨_,gRa Tryz.f226⟩
def RR:gTa [] 229:=⟨_,gRa Tryz.f229⟩
def RQ:gTa [2] 232:=⟨_,gRa Tryz.f232⟩
def RO:gTa [1] 235:=⟨_,gRa Tryz.f235⟩
def RM:gTa [2] 238:=⟨_,gRa Tryz.f238⟩
def Md:gTa [] 242:=⟨_,gRa Tryz.f242⟩
def LD:gTa [] 251:=⟨_,gRa Tryz.f251⟩
def Hw:gTa [2] 259:=⟨_,gRa Tryz.f259⟩
def RI:gTa [1] 262:=⟨_,gRa Tryz.f262⟩
def PR:gTa [2,3] 265:=⟨_,gRa Tryz.f265⟩
def Pp:gTa [] 268:=⟨_,gRa Tryz.f268⟩
def RF:gTa [1] 282:=⟨_,gRa Tryz.f282⟩
def RD:gTa [1] 285:=⟨_,gRa Tryz.f285⟩
def PQ:gTa [] 288:=⟨_,gRa Tryz.f288⟩
def Rz:gTa [1] 291:=⟨_,gRa Tryz.f291⟩
def Pm:gTa [1] 294:=⟨_,gRa Tryz.f294⟩
def Rw:gTa [2] 299:=⟨_,gRa Tryz.f299⟩
def Rv:gTa [] 311:=⟨_,gRa Tryz.f311⟩
def LK:gTa [33,1000039] 55:=⟨_,gRa Tryz.f55⟩
end Go.Proofs.YtbojpfpliibfbaaGreatDoor
