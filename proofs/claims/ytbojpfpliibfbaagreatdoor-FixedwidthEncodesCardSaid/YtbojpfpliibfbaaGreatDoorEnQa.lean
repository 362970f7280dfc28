/- Functions of the program as the logic reads them: the elaborator reckons each. -/
import Derived.Test.YtbojpfpliibfbaaGreatDoorProg
import Derived.Test.YtbojpfpliibfbaaGreatDoorEnCore5
import Derived.KernelRfl
set_option linter.unusedVariables false
set_option linter.unusedSimpArgs false
set_option maxRecDepth 100000
set_option maxHeartbeats 16000000
namespace Go.Proofs.YtbojpfpliibfbaaGreatDoor
open Go Go.Ab
abbrev gTa (m:List Nat)(f:Nat):Type:={F // cFn Tryz.prog m f=some F}
theorem gRa {m:List Nat}{f:Nat}{F:AFn}(g:Func)(h:cFn ⟨Tryz.progTables,Array.replicate (f+1) g⟩ m f=some F:=by
 refine (?f:?P->?P) ?h
 case h=>
  conv=>
   lhs
   cbv
 case f=>
  intro _
  kernel_rfl) (k:cFn Tryz.prog m f=some F:=by kernel_rfl):cFn Tryz.prog m f=some F:=k
def Q4:gTa [] 4:=⟨_,gRa Tryz.f4⟩
def Q13:gTa [] 13:=⟨_,gRa Tryz.f13⟩
def Q17:gTa [75,1000093,3] 17:=⟨_,gRa Tryz.f17⟩
def Q28:gTa [1] 28:=⟨_,gRa Tryz.f28⟩
def Q31:gTa [] 31:=⟨_,gRa Tryz.f31⟩
def Q36:gTa [1] 36:=⟨_,gRa Tryz.f36⟩
def Q39:gTa [] 39:=⟨_,gRa Tryz.f39⟩
def Q42:gTa [2,3] 42:=⟨_,gRa Tryz.f42⟩
def Q46:gTa [14] 46:=⟨_,gRa Tryz.f46⟩
def Q49:gTa [] 49:=⟨_,gRa Tryz.f49⟩
def Q52:gTa [2,3] 52:=⟨_,gRa Tryz.f52⟩
def Q62:gTa [] 62:=⟨_,gRa Tryz.f62⟩
def Q66:gTa [] 66:=⟨_,gRa Tryz.f66⟩
def Q71:gTa [3] 71:=⟨_,gRa Tryz.f71⟩
def Q74:gTa [1] 74:=⟨_,gRa Tryz.f74⟩
def Q77:gTa [] 77:=⟨_,gRa Tryz.f77⟩
def Q80:gTa [2] 80:=⟨_,gRa Tryz.f80⟩
def Q83:gTa [] 83:=⟨_,gRa Tryz.f83⟩
def Q86:gTa [] 86:=⟨_,gRa Tryz.f86⟩
def Q89:gTa [] 89:=⟨_,gRa Tryz.f89⟩
def Q92:gTa [1] 92:=⟨_,gRa Tryz.f92⟩
def NG:gTa [] 100:=⟨_,gRa Tryz.f100⟩
def NE:gTa [] 103:=⟨_,gRa Tryz.f103⟩
def PL:gTa [2] 121:=⟨_,gRa Tryz.f121⟩
def PK:gTa [1] 124:=⟨_,gRa Tryz.f124⟩
def J8:gTa [1] 127:=⟨_,gRa Tryz.f127⟩
def Na:gTa [1] 130:=⟨_,gRa Tryz.f130⟩
def PH:gTa [] 133:=⟨_,gRa Tryz.f133⟩
def M9:gTa [5] 136:=⟨_,gRa Tryz.f136⟩
def FQ:gTa [] 140:=⟨_,gRa Tryz.f140⟩
def PD:gTa [] 143:=⟨_,gRa Tryz.f143⟩
def PA:gTa [2] 146:=⟨_,gRa Tryz.f146⟩
def NA:gTa [] 154:=⟨_,gRa Tryz.f154⟩
def Pv:gTa [] 166:=⟨_,gRa Tryz.f166⟩
def fT:gTa [1] 178:=⟨_,gRa Tryz.f178⟩
def J6:gTa [1] 181:=⟨_,gRa Tryz.f181⟩
def KA:gTa [1] 184:=⟨_,gRa Tryz.f184⟩
def Kx:gTa [1] 187:=⟨_,gRa Tryz.f187⟩
def Ps:gTa [1] 190:=⟨_,gRa Tryz.f190⟩
def Kv:gTa [] 193:=⟨_,gRa Tryz.f193⟩
def M7:gTa [] 197:=⟨_,gRa Tryz.f197⟩
def M5:gTa [] 201:=⟨_,gRa Tryz.f201⟩
def M4:gTa [] 228:=⟨_,gRa Tryz.f228⟩
def Ks:gTa [1] 231:=⟨_,gRa Tryz.f231⟩
def go:gTa [2,3] 234:=⟨_,gRa Tryz.f234⟩
def nq:gTa [1] 237:=⟨_,gRa Tryz.f237⟩
def Nw:gTa [] 240:=⟨_,gRa Tryz.f240⟩
def FO:gTa [] 258:=⟨_,gRa Tryz.f258⟩
def Pi:gTa [1] 261:=⟨_,gRa Tryz.f261⟩
def Ph:gTa [2] 264:=⟨_,gRa Tryz.f264⟩
def bR:gTa [1] 267:=⟨_,gRa Tryz.f267⟩
def Pg:gTa [1] 282:=⟨_,gRa Tryz.f282⟩
def Pe:gTa [1] 285:=⟨_,gRa Tryz.f285⟩
def Nt:gTa [] 288:=⟨_,gRa Tryz.f288⟩
def Pa:gTa [1] 291:=⟨_,gRa Tryz.f291⟩
def MZ:gTa [1] 294:=⟨_,gRa Tryz.f294⟩
def O7:gTa [2] 299:=⟨_,gRa Tryz.f299⟩
def O4:gTa [] 318:=⟨_,gRa Tryz.f318⟩
end Go.Proofs.YtbojpfpliibfbaaGreatDoor
