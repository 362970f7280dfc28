/- Functions of the program as the logic reads them: the elaborator reckons each. -/
import Derived.Test.YtbojpfpliibfbaaGreatDoorProg
import Derived.Test.YtbojpfpliibfbaaGreatDoorMxCore5
import Derived.KernelRfl
set_option linter.unusedVariables false
set_option linter.unusedSimpArgs false
set_option maxRecDepth 100000
set_option maxHeartbeats 16000000
namespace Go.Proofs.YtbojpfpliibfbaaGreatDoor
open Go Go.Ab
abbrev gTa (m:List Nat)(f:Nat):Type:={F // cFn Tryz.prog m f=some F}
theorem gRa {m:List Nat}{f:Nat}{F:AFn}(g:Func)(h:cFn ⟨Tryz.progTables,Array.replicate (f+1) g⟩ m f=some F:=by
 refine (?f:?P->?P) ?h
 case h=>
  conv=>
   lhs
   cbv
 case f=>
  intro _
  kernel_rfl) (k:cFn Tryz.prog m f=some F:=by kernel_rfl):cFn Tryz.prog m f=some F:=k
def Q12:gTa [] 12:=⟨_,gRa Tryz.f12⟩
def Q19:gTa [2,3] 19:=⟨_,gRa Tryz.f19⟩
def Q25:gTa [2] 25:=⟨_,gRa Tryz.f25⟩
def Q34:gTa [] 34:=⟨_,gRa Tryz.f34⟩
def Q37:gTa [] 37:=⟨_,gRa Tryz.f37⟩
def Q40:gTa [] 40:=⟨_,gRa Tryz.f40⟩
def Q44:gTa [2] 44:=⟨_,gRa Tryz.f44⟩
def Q50:gTa [] 50:=⟨_,gRa Tryz.f50⟩
def Q53:gTa [3] 53:=⟨_,gRa Tryz.f53⟩
def Q66:gTa [] 66:=⟨_,gRa Tryz.f66⟩
def Q69:gTa [1] 69:=⟨_,gRa Tryz.f69⟩
def Q75:gTa [] 75:=⟨_,gRa Tryz.f75⟩
def Q78:gTa [] 78:=⟨_,gRa Tryz.f78⟩
def Q81:gTa [5,6] 81:=⟨_,gRa Tryz.f81⟩
def Q84:gTa [] 84:=⟨_,gRa Tryz.f84⟩
def Q87:gTa [] 87:=⟨_,gRa Tryz.f87⟩
def Q90:gTa [] 90:=⟨_,gRa Tryz.f90⟩
def Rl:gTa [] 102:=⟨_,gRa Tryz.f102⟩
def NF:gTa [] 106:=⟨_,gRa Tryz.f106⟩
def NE:gTa [2] 109:=⟨_,gRa Tryz.f109⟩
def lB:gTa [3] 123:=⟨_,gRa Tryz.f123⟩
def JK:gTa [] 129:=⟨_,gRa Tryz.f129⟩
def M5:gTa [] 132:=⟨_,gRa Tryz.f132⟩
def QQ:gTa [1] 135:=⟨_,gRa Tryz.f135⟩
def Ri:gTa [2,3] 139:=⟨_,gRa Tryz.f139⟩
def Ts:gTa [] 142:=⟨_,gRa Tryz.f142⟩
def ND:gTa [] 145:=⟨_,gRa Tryz.f145⟩
def Tn:gTa [] 155:=⟨_,gRa Tryz.f155⟩
def Rh:gTa [] 163:=⟨_,gRa Tryz.f163⟩
def NC:gTa [] 166:=⟨_,gRa Tryz.f166⟩
def dn:gTa [] 169:=⟨_,gRa Tryz.f169⟩
def NA:gTa [2,3] 180:=⟨_,gRa Tryz.f180⟩
def Ny:gTa [] 192:=⟨_,gRa Tryz.f192⟩
def Th:gTa [2] 196:=⟨_,gRa Tryz.f196⟩
def QM:gTa [] 199:=⟨_,gRa Tryz.f199⟩
def Te:gTa [] 209:=⟨_,gRa Tryz.f209⟩
def S8:gTa [] 212:=⟨_,gRa Tryz.f212⟩
def QL:gTa [] 228:=⟨_,gRa Tryz.f228⟩
def Nw:gTa [1] 231:=⟨_,gRa Tryz.f231⟩
def f5:gTa [2,3] 234:=⟨_,gRa Tryz.f234⟩
def Nv:gTa [] 242:=⟨_,gRa Tryz.f242⟩
def Rb:gTa [] 252:=⟨_,gRa Tryz.f252⟩
def S2:gTa [] 260:=⟨_,gRa Tryz.f260⟩
def Ra:gTa [] 263:=⟨_,gRa Tryz.f263⟩
def QK:gTa [2] 266:=⟨_,gRa Tryz.f266⟩
def QJ:gTa [] 283:=⟨_,gRa Tryz.f283⟩
def SU:gTa [] 286:=⟨_,gRa Tryz.f286⟩
def ST:gTa [1] 289:=⟨_,gRa Tryz.f289⟩
def SQ:gTa [1] 292:=⟨_,gRa Tryz.f292⟩
def SO:gTa [] 297:=⟨_,gRa Tryz.f297⟩
def Nr:gTa [] 304:=⟨_,gRa Tryz.f304⟩
def SL:gTa [] 318:=⟨_,gRa Tryz.f318⟩
end Go.Proofs.YtbojpfpliibfbaaGreatDoor
