/- Functions of the program as the logic reads them: the elaborator reckons each. -/
import Derived.Test.YtbojpfpliibfbaaGreatDoorProg
import Derived.Test.YtbojpfpliibfbaaGreatDoorCaCore5
import Derived.KernelRfl
set_option linter.unusedVariables false
set_option linter.unusedSimpArgs false
set_option maxRecDepth 100000
set_option maxHeartbeats 16000000
namespace Go.Proofs.YtbojpfpliibfbaaGreatDoor
open Go Go.Ab
abbrev gTc (m:List Nat)(f:Nat):Type:={F // cFn Tryz.prog m f=some F}
theorem gRc {m:List Nat}{f:Nat}{F:AFn}(g:Func)(h:cFn ⟨Tryz.progTables,Array.replicate (f+1) g⟩ m f=some F:=by
 refine (?f:?P->?P) ?h
 case h=>
  conv=>
   lhs
   cbv
 case f=>
  intro _
  kernel_rfl) (k:cFn Tryz.prog m f=some F:=by kernel_rfl):cFn Tryz.prog m f=some F:=k
def Q12:gTc [] 12:=⟨_,gRc Tryz.f12⟩
def Q17:gTc [75,1000093,3] 17:=⟨_,gRc Tryz.f17⟩
def Q22:gTc [] 22:=⟨_,gRc Tryz.f22⟩
def Q35:gTc [] 35:=⟨_,gRc Tryz.f35⟩
def Q38:gTc [] 38:=⟨_,gRc Tryz.f38⟩
def Q42:gTc [2,3] 42:=⟨_,gRc Tryz.f42⟩
def Q46:gTc [14] 46:=⟨_,gRc Tryz.f46⟩
def Q51:gTc [] 51:=⟨_,gRc Tryz.f51⟩
def Q54:gTc [] 54:=⟨_,gRc Tryz.f54⟩
def Q60:gTc [2,3] 60:=⟨_,gRc Tryz.f60⟩
def Q73:gTc [] 73:=⟨_,gRc Tryz.f73⟩
def Q76:gTc [] 76:=⟨_,gRc Tryz.f76⟩
def Q79:gTc [] 79:=⟨_,gRc Tryz.f79⟩
def Q82:gTc [] 82:=⟨_,gRc Tryz.f82⟩
def Q85:gTc [1] 85:=⟨_,gRc Tryz.f85⟩
def Q88:gTc [] 88:=⟨_,gRc Tryz.f88⟩
def Q91:gTc [2,3] 91:=⟨_,gRc Tryz.f91⟩
def PL:gTc [] 102:=⟨_,gRc Tryz.f102⟩
def Mk:gTc [] 106:=⟨_,gRc Tryz.f106⟩
def Mj:gTc [2] 109:=⟨_,gRc Tryz.f109⟩
def lB:gTc [3] 123:=⟨_,gRc Tryz.f123⟩
def Ij:gTc [] 129:=⟨_,gRc Tryz.f129⟩
def LH:gTc [] 132:=⟨_,gRc Tryz.f132⟩
def bK:gTc [1] 135:=⟨_,gRc Tryz.f135⟩
def PI:gTc [2,3] 139:=⟨_,gRc Tryz.f139⟩
def RG:gTc [] 142:=⟨_,gRc Tryz.f142⟩
def Mi:gTc [] 145:=⟨_,gRc Tryz.f145⟩
def RC:gTc [] 155:=⟨_,gRc Tryz.f155⟩
def PH:gTc [] 163:=⟨_,gRc Tryz.f163⟩
def Mh:gTc [] 166:=⟨_,gRc Tryz.f166⟩
def di:gTc [] 169:=⟨_,gRc Tryz.f169⟩
def Mf:gTc [2,3] 180:=⟨_,gRc Tryz.f180⟩
def Me:gTc [] 192:=⟨_,gRc Tryz.f192⟩
def Rx:gTc [2] 196:=⟨_,gRc Tryz.f196⟩
def O9:gTc [] 199:=⟨_,gRc Tryz.f199⟩
def Ru:gTc [] 209:=⟨_,gRc Tryz.f209⟩
def Rs:gTc [] 212:=⟨_,gRc Tryz.f212⟩
def O8:gTc [] 228:=⟨_,gRc Tryz.f228⟩
def Mc:gTc [1] 231:=⟨_,gRc Tryz.f231⟩
def ga:gTc [2,3] 234:=⟨_,gRc Tryz.f234⟩
def Mb:gTc [] 242:=⟨_,gRc Tryz.f242⟩
def PB:gTc [] 252:=⟨_,gRc Tryz.f252⟩
def Rm:gTc [] 260:=⟨_,gRc Tryz.f260⟩
def PA:gTc [] 263:=⟨_,gRc Tryz.f263⟩
def O7:gTc [2] 266:=⟨_,gRc Tryz.f266⟩
def O5:gTc [] 283:=⟨_,gRc Tryz.f283⟩
def Rg:gTc [] 286:=⟨_,gRc Tryz.f286⟩
def Rf:gTc [1] 289:=⟨_,gRc Tryz.f289⟩
def Rc:gTc [1] 292:=⟨_,gRc Tryz.f292⟩
def Rb:gTc [] 297:=⟨_,gRc Tryz.f297⟩
def L7:gTc [] 304:=⟨_,gRc Tryz.f304⟩
def Q8:gTc [] 318:=⟨_,gRc Tryz.f318⟩
end Go.Proofs.YtbojpfpliibfbaaGreatDoor
