/- Functions of the program as the logic reads them: the elaborator reckons each. -/
import Derived.Test.YtbojpfpliibfbaaGreatDoorProg
import Derived.Test.YtbojpfpliibfbaaGreatDoorDeCore5
import Derived.KernelRfl
set_option linter.unusedVariables false
set_option linter.unusedSimpArgs false
set_option maxRecDepth 100000
set_option maxHeartbeats 16000000
namespace Go.Proofs.YtbojpfpliibfbaaGreatDoor
open Go Go.Ab
abbrev gTb (m:List Nat)(f:Nat):Type:={F // cFn Tryz.prog m f=some F}
theorem gRb {m:List Nat}{f:Nat}{F:AFn}(g:Func)(h:cFn ⟨Tryz.progTables,Array.replicate (f+1) g⟩ m f=some F:=by
 refine (?f:?P->?P) ?h
 case h=>
  conv=>
   lhs
   cbv
 case f=>
  intro _
  kernel_rfl) (k:cFn Tryz.prog m f=some F:=by kernel_rfl):cFn Tryz.prog m f=some F:=k
def Q10:gTb [] 10:=⟨_,gRb Tryz.f10⟩
def Q16:gTb [] 16:=⟨_,gRb Tryz.f16⟩
def Q19:gTb [2,3] 19:=⟨_,gRb Tryz.f19⟩
def Q25:gTb [2] 25:=⟨_,gRb Tryz.f25⟩
def Q30:gTb [] 30:=⟨_,gRb Tryz.f30⟩
def Q35:gTb [] 35:=⟨_,gRb Tryz.f35⟩
def Q38:gTb [] 38:=⟨_,gRb Tryz.f38⟩
def Q41:gTb [] 41:=⟨_,gRb Tryz.f41⟩
def Q44:gTb [2] 44:=⟨_,gRb Tryz.f44⟩
def Q52:gTb [2,3] 52:=⟨_,gRb Tryz.f52⟩
def Q56:gTb [] 56:=⟨_,gRb Tryz.f56⟩
def Q59:gTb [] 59:=⟨_,gRb Tryz.f59⟩
def Q62:gTb [] 62:=⟨_,gRb Tryz.f62⟩
def Q66:gTb [] 66:=⟨_,gRb Tryz.f66⟩
def Q69:gTb [1] 69:=⟨_,gRb Tryz.f69⟩
def Q73:gTb [] 73:=⟨_,gRb Tryz.f73⟩
def Q76:gTb [] 76:=⟨_,gRb Tryz.f76⟩
def Q79:gTb [] 79:=⟨_,gRb Tryz.f79⟩
def Q82:gTb [] 82:=⟨_,gRb Tryz.f82⟩
def Q92:gTb [1] 92:=⟨_,gRb Tryz.f92⟩
def P3:gTb [] 103:=⟨_,gRb Tryz.f103⟩
def eI:gTb [3] 107:=⟨_,gRb Tryz.f107⟩
def Sj:gTb [1] 110:=⟨_,gRb Tryz.f110⟩
def LJ:gTb [] 116:=⟨_,gRb Tryz.f116⟩
def Pz:gTb [] 119:=⟨_,gRb Tryz.f119⟩
def lM:gTb [3] 123:=⟨_,gRb Tryz.f123⟩
def Mr:gTb [2,3] 126:=⟨_,gRb Tryz.f126⟩
def Iw:gTb [] 129:=⟨_,gRb Tryz.f129⟩
def LG:gTb [] 132:=⟨_,gRb Tryz.f132⟩
def Px:gTb [1] 135:=⟨_,gRb Tryz.f135⟩
def Sb:gTb [] 141:=⟨_,gRb Tryz.f141⟩
def Pv:gTb [] 149:=⟨_,gRb Tryz.f149⟩
def R7:gTb [] 160:=⟨_,gRb Tryz.f160⟩
def R5:gTb [] 165:=⟨_,gRb Tryz.f165⟩
def Hz:gTb [] 168:=⟨_,gRb Tryz.f168⟩
def lx:gTb [] 174:=⟨_,gRb Tryz.f174⟩
def R4:gTb [] 177:=⟨_,gRb Tryz.f177⟩
def Mn:gTb [2,3] 180:=⟨_,gRb Tryz.f180⟩
def R3:gTb [1] 183:=⟨_,gRb Tryz.f183⟩
def Mk:gTb [3] 186:=⟨_,gRb Tryz.f186⟩
def gn:gTb [2,3] 189:=⟨_,gRb Tryz.f189⟩
def Mi:gTb [] 192:=⟨_,gRb Tryz.f192⟩
def RY:gTb [] 198:=⟨_,gRb Tryz.f198⟩
def jJ:gTb [44] 206:=⟨_,gRb Tryz.f206⟩
def RU:gTb [] 210:=⟨_,gRb Tryz.f210⟩
def PW:gTb [] 213:=⟨_,gRb Tryz.f213⟩
def Mf:gTb [] 227:=⟨_,gRb Tryz.f227⟩
def dJ:gTb [] 230:=⟨_,gRb Tryz.f230⟩
def RP:gTb [1] 233:=⟨_,gRb Tryz.f233⟩
def RN:gTb [1] 236:=⟨_,gRb Tryz.f236⟩
def RL:gTb [2,3] 239:=⟨_,gRb Tryz.f239⟩
def Mc:gTb [] 243:=⟨_,gRb Tryz.f243⟩
def PT:gTb [] 252:=⟨_,gRb Tryz.f252⟩
def RK:gTb [] 260:=⟨_,gRb Tryz.f260⟩
def PS:gTb [] 263:=⟨_,gRb Tryz.f263⟩
def Pq:gTb [2] 266:=⟨_,gRb Tryz.f266⟩
def Ma:gTb [] 269:=⟨_,gRb Tryz.f269⟩
def Po:gTb [] 283:=⟨_,gRb Tryz.f283⟩
def RC:gTb [] 286:=⟨_,gRb Tryz.f286⟩
def RB:gTb [1] 289:=⟨_,gRb Tryz.f289⟩
def Ry:gTb [1] 292:=⟨_,gRb Tryz.f292⟩
def Rx:gTb [] 297:=⟨_,gRb Tryz.f297⟩
def L7:gTb [] 304:=⟨_,gRb Tryz.f304⟩
def Ru:gTb [] 318:=⟨_,gRb Tryz.f318⟩
end Go.Proofs.YtbojpfpliibfbaaGreatDoor
