/- Functions of the program as the logic reads them: the elaborator reckons each. -/
import Derived.Test.YtbojpfpliibfbaaGreatDoorProg
import Derived.Test.YtbojpfpliibfbaaGreatDoorEnCore5
import Derived.KernelRfl
set_option linter.unusedVariables false
set_option linter.unusedSimpArgs false
set_option maxRecDepth 100000
set_option maxHeartbeats 16000000
namespace Go.Proofs.YtbojpfpliibfbaaGreatDoor
open Go Go.Ab
abbrev gTc (m:List Nat)(f:Nat):Type:={F // cFn Tryz.prog m f=some F}
theorem gRc {m:List Nat}{f:Nat}{F:AFn}(g:Func)(h:cFn ⟨Tryz.progTables,Array.replicate (f+1) g⟩ m f=some F:=by
 refine (?f:?P->?P) ?h
 case h=>
  conv=>
   lhs
   cbv
 case f=>
  intro _
  kernel_rfl) (k:cFn Tryz.prog m f=some F:=by kernel_rfl):cFn Tryz.prog m f=some F:=k
def Q12:gTc [] 12:=⟨_,gRc Tryz.f12⟩
def Q15:gTc [] 15:=⟨_,gRc Tryz.f15⟩
def Q25:gTc [2] 25:=⟨_,gRc Tryz.f25⟩
def Q30:gTc [] 30:=⟨_,gRc Tryz.f30⟩
def Q35:gTc [] 35:=⟨_,gRc Tryz.f35⟩
def Q38:gTc [] 38:=⟨_,gRc Tryz.f38⟩
def Q41:gTc [] 41:=⟨_,gRc Tryz.f41⟩
def Q44:gTc [2] 44:=⟨_,gRc Tryz.f44⟩
def Q48:gTc [] 48:=⟨_,gRc Tryz.f48⟩
def Q51:gTc [] 51:=⟨_,gRc Tryz.f51⟩
def Q61:gTc [1] 61:=⟨_,gRc Tryz.f61⟩
def Q65:gTc [2] 65:=⟨_,gRc Tryz.f65⟩
def Q69:gTc [1] 69:=⟨_,gRc Tryz.f69⟩
def Q73:gTc [] 73:=⟨_,gRc Tryz.f73⟩
def Q76:gTc [] 76:=⟨_,gRc Tryz.f76⟩
def Q79:gTc [] 79:=⟨_,gRc Tryz.f79⟩
def Q82:gTc [] 82:=⟨_,gRc Tryz.f82⟩
def Q85:gTc [1] 85:=⟨_,gRc Tryz.f85⟩
def Q88:gTc [] 88:=⟨_,gRc Tryz.f88⟩
def Q91:gTc [2,3] 91:=⟨_,gRc Tryz.f91⟩
def Q99:gTc [] 99:=⟨_,gRc Tryz.f99⟩
def NF:gTc [] 102:=⟨_,gRc Tryz.f102⟩
def PM:gTc [] 115:=⟨_,gRc Tryz.f115⟩
def ld:gTc [3] 123:=⟨_,gRc Tryz.f123⟩
def KC:gTc [2,3] 126:=⟨_,gRc Tryz.f126⟩
def GS:gTc [] 129:=⟨_,gRc Tryz.f129⟩
def J7:gTc [] 132:=⟨_,gRc Tryz.f132⟩
def b9:gTc [1] 135:=⟨_,gRc Tryz.f135⟩
def NB:gTc [2,3] 139:=⟨_,gRc Tryz.f139⟩
def PE:gTc [] 142:=⟨_,gRc Tryz.f142⟩
def PB:gTc [] 145:=⟨_,gRc Tryz.f145⟩
def Py:gTc [] 153:=⟨_,gRc Tryz.f153⟩
def Pw:gTc [] 165:=⟨_,gRc Tryz.f165⟩
def Pu:gTc [] 176:=⟨_,gRc Tryz.f176⟩
def KB:gTc [2,3] 180:=⟨_,gRc Tryz.f180⟩
def bL:gTc [1] 183:=⟨_,gRc Tryz.f183⟩
def Ky:gTc [3] 186:=⟨_,gRc Tryz.f186⟩
def gp:gTc [2,3] 189:=⟨_,gRc Tryz.f189⟩
def Kw:gTc [] 192:=⟨_,gRc Tryz.f192⟩
def Pr:gTc [2] 196:=⟨_,gRc Tryz.f196⟩
def M6:gTc [] 199:=⟨_,gRc Tryz.f199⟩
def Kt:gTc [] 227:=⟨_,gRc Tryz.f227⟩
def d9:gTc [] 230:=⟨_,gRc Tryz.f230⟩
def Pn:gTc [1] 233:=⟨_,gRc Tryz.f233⟩
def fc:gTc [1] 236:=⟨_,gRc Tryz.f236⟩
def Pk:gTc [2,3] 239:=⟨_,gRc Tryz.f239⟩
def Kq:gTc [] 243:=⟨_,gRc Tryz.f243⟩
def Pj:gTc [] 260:=⟨_,gRc Tryz.f260⟩
def Nv:gTc [] 263:=⟨_,gRc Tryz.f263⟩
def M3:gTc [2] 266:=⟨_,gRc Tryz.f266⟩
def Kp:gTc [] 269:=⟨_,gRc Tryz.f269⟩
def Pf:gTc [1] 284:=⟨_,gRc Tryz.f284⟩
def M0:gTc [1] 287:=⟨_,gRc Tryz.f287⟩
def Pb:gTc [1] 290:=⟨_,gRc Tryz.f290⟩
def Ko:gTc [1] 293:=⟨_,gRc Tryz.f293⟩
def MY:gTc [2] 298:=⟨_,gRc Tryz.f298⟩
def O5:gTc [] 311:=⟨_,gRc Tryz.f311⟩
end Go.Proofs.YtbojpfpliibfbaaGreatDoor
