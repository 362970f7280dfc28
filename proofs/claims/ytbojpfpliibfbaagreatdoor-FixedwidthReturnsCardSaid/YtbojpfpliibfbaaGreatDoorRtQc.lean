/- Functions of the program as the logic reads them: the elaborator reckons each. -/
import Derived.Test.YtbojpfpliibfbaaGreatDoorProg
import Derived.Test.YtbojpfpliibfbaaGreatDoorRtCore5
import Derived.KernelRfl
set_option linter.unusedVariables false
set_option linter.unusedSimpArgs false
set_option maxRecDepth 100000
set_option maxHeartbeats 16000000
namespace Go.Proofs.YtbojpfpliibfbaaGreatDoor
open Go Go.Ab
abbrev gTc (m:List Nat)(f:Nat):Type:={F // cFn Tryz.prog m f=some F}
theorem gRc {m:List Nat}{f:Nat}{F:AFn}(g:Func)(h:cFn ⟨Tryz.progTables,Array.replicate (f+1) g⟩ m f=some F:=by
 refine (?f:?P->?P) ?h
 case h=>
  conv=>
   lhs
   cbv
 case f=>
  intro _
  kernel_rfl) (k:cFn Tryz.prog m f=some F:=by kernel_rfl):cFn Tryz.prog m f=some F:=k
def Q12:gTc [] 12:=⟨_,gRc Tryz.f12⟩
def Q19:gTc [2,3] 19:=⟨_,gRc Tryz.f19⟩
def Q35:gTc [] 35:=⟨_,gRc Tryz.f35⟩
def Q38:gTc [] 38:=⟨_,gRc Tryz.f38⟩
def Q42:gTc [2,3] 42:=⟨_,gRc Tryz.f42⟩
def Q46:gTc [14] 46:=⟨_,gRc Tryz.f46⟩
def Q51:gTc [] 51:=⟨_,gRc Tryz.f51⟩
def Q54:gTc [] 54:=⟨_,gRc Tryz.f54⟩
def Q69:gTc [1] 69:=⟨_,gRc Tryz.f69⟩
def Q75:gTc [] 75:=⟨_,gRc Tryz.f75⟩
def Q78:gTc [] 78:=⟨_,gRc Tryz.f78⟩
def Q81:gTc [5,6] 81:=⟨_,gRc Tryz.f81⟩
def Q84:gTc [] 84:=⟨_,gRc Tryz.f84⟩
def Q87:gTc [] 87:=⟨_,gRc Tryz.f87⟩
def Q90:gTc [] 90:=⟨_,gRc Tryz.f90⟩
def Oy:gTc [] 102:=⟨_,gRc Tryz.f102⟩
def K7:gTc [] 106:=⟨_,gRc Tryz.f106⟩
def K6:gTc [2] 109:=⟨_,gRc Tryz.f109⟩
def kM:gTc [3] 123:=⟨_,gRc Tryz.f123⟩
def Hf:gTc [] 129:=⟨_,gRc Tryz.f129⟩
def Ky:gTc [] 132:=⟨_,gRc Tryz.f132⟩
def bD:gTc [1] 135:=⟨_,gRc Tryz.f135⟩
def Ov:gTc [2,3] 139:=⟨_,gRc Tryz.f139⟩
def Qy:gTc [] 142:=⟨_,gRc Tryz.f142⟩
def K5:gTc [] 145:=⟨_,gRc Tryz.f145⟩
def Qu:gTc [] 155:=⟨_,gRc Tryz.f155⟩
def Ou:gTc [] 163:=⟨_,gRc Tryz.f163⟩
def K4:gTc [] 166:=⟨_,gRc Tryz.f166⟩
def cY:gTc [] 169:=⟨_,gRc Tryz.f169⟩
def K2:gTc [2,3] 180:=⟨_,gRc Tryz.f180⟩
def K1:gTc [] 192:=⟨_,gRc Tryz.f192⟩
def Qo:gTc [2] 196:=⟨_,gRc Tryz.f196⟩
def NX:gTc [] 199:=⟨_,gRc Tryz.f199⟩
def Ql:gTc [] 209:=⟨_,gRc Tryz.f209⟩
def Qj:gTc [] 212:=⟨_,gRc Tryz.f212⟩
def NW:gTc [] 228:=⟨_,gRc Tryz.f228⟩
def KZ:gTc [1] 231:=⟨_,gRc Tryz.f231⟩
def fO:gTc [2,3] 234:=⟨_,gRc Tryz.f234⟩
def KY:gTc [] 242:=⟨_,gRc Tryz.f242⟩
def Ol:gTc [] 252:=⟨_,gRc Tryz.f252⟩
def Qd:gTc [] 260:=⟨_,gRc Tryz.f260⟩
def Ok:gTc [] 263:=⟨_,gRc Tryz.f263⟩
def NV:gTc [2] 266:=⟨_,gRc Tryz.f266⟩
def NU:gTc [] 283:=⟨_,gRc Tryz.f283⟩
def P7:gTc [] 286:=⟨_,gRc Tryz.f286⟩
def P6:gTc [1] 289:=⟨_,gRc Tryz.f289⟩
def P3:gTc [1] 292:=⟨_,gRc Tryz.f292⟩
def P2:gTc [] 297:=⟨_,gRc Tryz.f297⟩
def KU:gTc [] 304:=⟨_,gRc Tryz.f304⟩
def PZ:gTc [] 318:=⟨_,gRc Tryz.f318⟩
end Go.Proofs.YtbojpfpliibfbaaGreatDoor
