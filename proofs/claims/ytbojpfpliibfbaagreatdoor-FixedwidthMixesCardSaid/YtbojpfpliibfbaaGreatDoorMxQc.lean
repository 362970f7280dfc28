/- Functions of the program as the logic reads them: the elaborator reckons each. -/
import Derived.Test.YtbojpfpliibfbaaGreatDoorProg
import Derived.Test.YtbojpfpliibfbaaGreatDoorMxCore5
import Derived.KernelRfl
set_option linter.unusedVariables false
set_option linter.unusedSimpArgs false
set_option maxRecDepth 100000
set_option maxHeartbeats 16000000
namespace Go.Proofs.YtbojpfpliibfbaaGreatDoor
open Go Go.Ab
abbrev gTc (m:List Nat)(f:Nat):Type:={F // cFn Tryz.prog m f=some F}
theorem gRc {m:List Nat}{f:Nat}{F:AFn}(g:Func)(h:cFn ⟨Tryz.progTables,Array.replicate (f+1) g⟩ m f=some F:=by
 refine (?f:?P->?P) ?h
 case h=>
  conv=>
   lhs
   cbv
 case f=>
  intro _
  kernel_rfl) (k:cFn Tryz.prog m f=some F:=by kernel_rfl):cFn Tryz.prog m f=some F:=k
def Q17:gTc [75,1000093,3] 17:=⟨_,gRc Tryz.f17⟩
def Q24:gTc [] 24:=⟨_,gRc Tryz.f24⟩
def Q30:gTc [] 30:=⟨_,gRc Tryz.f30⟩
def Q36:gTc [1] 36:=⟨_,gRc Tryz.f36⟩
def Q39:gTc [] 39:=⟨_,gRc Tryz.f39⟩
def Q43:gTc [] 43:=⟨_,gRc Tryz.f43⟩
def Q47:gTc [] 47:=⟨_,gRc Tryz.f47⟩
def Q52:gTc [2,3] 52:=⟨_,gRc Tryz.f52⟩
def Q60:gTc [2,3] 60:=⟨_,gRc Tryz.f60⟩
def Q68:gTc [] 68:=⟨_,gRc Tryz.f68⟩
def Q74:gTc [1] 74:=⟨_,gRc Tryz.f74⟩
def Q77:gTc [] 77:=⟨_,gRc Tryz.f77⟩
def Q80:gTc [2] 80:=⟨_,gRc Tryz.f80⟩
def Q83:gTc [] 83:=⟨_,gRc Tryz.f83⟩
def Q86:gTc [] 86:=⟨_,gRc Tryz.f86⟩
def Q89:gTc [] 89:=⟨_,gRc Tryz.f89⟩
def Q92:gTc [1] 92:=⟨_,gRc Tryz.f92⟩
def NG:gTc [] 105:=⟨_,gRc Tryz.f105⟩
def TA:gTc [] 108:=⟨_,gRc Tryz.f108⟩
def QS:gTc [] 119:=⟨_,gRc Tryz.f119⟩
def Tx:gTc [] 128:=⟨_,gRc Tryz.f128⟩
def Tw:gTc [] 131:=⟨_,gRc Tryz.f131⟩
def Rj:gTc [] 134:=⟨_,gRc Tryz.f134⟩
def Tu:gTc [5,6] 138:=⟨_,gRc Tryz.f138⟩
def Tt:gTc [] 141:=⟨_,gRc Tryz.f141⟩
def Tp:gTc [] 144:=⟨_,gRc Tryz.f144⟩
def QO:gTc [] 149:=⟨_,gRc Tryz.f149⟩
def Tk:gTc [] 160:=⟨_,gRc Tryz.f160⟩
def Ti:gTc [] 165:=⟨_,gRc Tryz.f165⟩
def IG:gTc [] 168:=⟨_,gRc Tryz.f168⟩
def IF:gTc [1] 179:=⟨_,gRc Tryz.f179⟩
def Rf:gTc [] 191:=⟨_,gRc Tryz.f191⟩
def Re:gTc [] 195:=⟨_,gRc Tryz.f195⟩
def Tg:gTc [] 198:=⟨_,gRc Tryz.f198⟩
def Tf:gTc [] 208:=⟨_,gRc Tryz.f208⟩
def M3:gTc [] 211:=⟨_,gRc Tryz.f211⟩
def S7:gTc [] 214:=⟨_,gRc Tryz.f214⟩
def dG:gTc [] 230:=⟨_,gRc Tryz.f230⟩
def S4:gTc [1] 233:=⟨_,gRc Tryz.f233⟩
def Rc:gTc [] 240:=⟨_,gRc Tryz.f240⟩
def M2:gTc [] 251:=⟨_,gRc Tryz.f251⟩
def ID:gTc [2] 259:=⟨_,gRc Tryz.f259⟩
def S0:gTc [1] 262:=⟨_,gRc Tryz.f262⟩
def Q9:gTc [2,3] 265:=⟨_,gRc Tryz.f265⟩
def SY:gTc [1] 282:=⟨_,gRc Tryz.f282⟩
def SV:gTc [1] 285:=⟨_,gRc Tryz.f285⟩
def Q8:gTc [] 288:=⟨_,gRc Tryz.f288⟩
def SR:gTc [1] 291:=⟨_,gRc Tryz.f291⟩
def QH:gTc [1] 294:=⟨_,gRc Tryz.f294⟩
def SN:gTc [2] 299:=⟨_,gRc Tryz.f299⟩
def SM:gTc [] 311:=⟨_,gRc Tryz.f311⟩
def M6:gTc [33,1000039] 55:=⟨_,gRc Tryz.f55⟩
end Go.Proofs.YtbojpfpliibfbaaGreatDoor
