/- Functions of the program as the logic reads them: the elaborator reckons each. -/
import Derived.Test.YtbojpfpliibfbaaGreatDoorProg
import Derived.Test.YtbojpfpliibfbaaGreatDoorCaCore5
import Derived.KernelRfl
set_option linter.unusedVariables false
set_option linter.unusedSimpArgs false
set_option maxRecDepth 100000
set_option maxHeartbeats 16000000
namespace Go.Proofs.YtbojpfpliibfbaaGreatDoor
open Go Go.Ab
abbrev gTa (m:List Nat)(f:Nat):Type:={F // cFn Tryz.prog m f=some F}
theorem gRa {m:List Nat}{f:Nat}{F:AFn}(g:Func)(h:cFn ⟨Tryz.progTables,Array.replicate (f+1) g⟩ m f=some F:=by
 refine (?f:?P->?P) ?h
 case h=>
  conv=>
   lhs
   cbv
 case f=>
  intro _
  kernel_rfl) (k:cFn Tryz.prog m f=some F:=by kernel_rfl):cFn Tryz.prog m f=some F:=k
def Q7:gTa [3] 7:=⟨_,gRa Tryz.f7⟩
def Q14:gTa [3,5] 14:=⟨_,gRa Tryz.f14⟩
def Q19:gTa [2,3] 19:=⟨_,gRa Tryz.f19⟩
def Q30:gTa [] 30:=⟨_,gRa Tryz.f30⟩
def Q36:gTa [1] 36:=⟨_,gRa Tryz.f36⟩
def Q39:gTa [] 39:=⟨_,gRa Tryz.f39⟩
def Q43:gTa [] 43:=⟨_,gRa Tryz.f43⟩
def Q47:gTa [] 47:=⟨_,gRa Tryz.f47⟩
def Q52:gTa [2,3] 52:=⟨_,gRa Tryz.f52⟩
def Q56:gTa [] 56:=⟨_,gRa Tryz.f56⟩
def Q68:gTa [] 68:=⟨_,gRa Tryz.f68⟩
def Q74:gTa [1] 74:=⟨_,gRa Tryz.f74⟩
def Q77:gTa [] 77:=⟨_,gRa Tryz.f77⟩
def Q80:gTa [2] 80:=⟨_,gRa Tryz.f80⟩
def Q83:gTa [] 83:=⟨_,gRa Tryz.f83⟩
def Q86:gTa [] 86:=⟨_,gRa Tryz.f86⟩
def Q89:gTa [] 89:=⟨_,gRa Tryz.f89⟩
def Q92:gTa [1] 92:=⟨_,gRa Tryz.f92⟩
def PK:gTa [] 103:=⟨_,gRa Tryz.f103⟩
def eO:gTa [3] 107:=⟨_,gRa Tryz.f107⟩
def Hc:gTa [1] 110:=⟨_,gRa Tryz.f110⟩
def RM:gTa [1] 124:=⟨_,gRa Tryz.f124⟩
def Pd:gTa [1] 130:=⟨_,gRa Tryz.f130⟩
def RJ:gTa [] 133:=⟨_,gRa Tryz.f133⟩
def Pc:gTa [5] 136:=⟨_,gRa Tryz.f136⟩
def Hb:gTa [] 140:=⟨_,gRa Tryz.f140⟩
def RF:gTa [] 143:=⟨_,gRa Tryz.f143⟩
def RD:gTa [2] 146:=⟨_,gRa Tryz.f146⟩
def RB:gTa [] 156:=⟨_,gRa Tryz.f156⟩
def Rz:gTa [3] 164:=⟨_,gRa Tryz.f164⟩
def PG:gTa [] 167:=⟨_,gRa Tryz.f167⟩
def Mg:gTa [1] 178:=⟨_,gRa Tryz.f178⟩
def LG:gTa [1] 181:=⟨_,gRa Tryz.f181⟩
def Md:gTa [] 193:=⟨_,gRa Tryz.f193⟩
def Pa:gTa [] 197:=⟨_,gRa Tryz.f197⟩
def jD:gTa [44] 206:=⟨_,gRa Tryz.f206⟩
def Rt:gTa [] 210:=⟨_,gRa Tryz.f210⟩
def PD:gTa [] 213:=⟨_,gRa Tryz.f213⟩
def Rq:gTa [] 229:=⟨_,gRa Tryz.f229⟩
def Rp:gTa [2] 232:=⟨_,gRa Tryz.f232⟩
def Rn:gTa [1] 235:=⟨_,gRa Tryz.f235⟩
def Ma:gTa [] 247:=⟨_,gRa Tryz.f247⟩
def G8:gTa [] 258:=⟨_,gRa Tryz.f258⟩
def Rl:gTa [1] 261:=⟨_,gRa Tryz.f261⟩
def Rk:gTa [2] 264:=⟨_,gRa Tryz.f264⟩
def L9:gTa [] 277:=⟨_,gRa Tryz.f277⟩
def Ri:gTa [1] 284:=⟨_,gRa Tryz.f284⟩
def O4:gTa [1] 287:=⟨_,gRa Tryz.f287⟩
def Re:gTa [1] 290:=⟨_,gRa Tryz.f290⟩
def L8:gTa [1] 293:=⟨_,gRa Tryz.f293⟩
def O0:gTa [2] 298:=⟨_,gRa Tryz.f298⟩
def xP:gTa [1] 310:=⟨_,gRa Tryz.f310⟩
def Px:gTa [] 322:=⟨_,gRa Tryz.f322⟩
end Go.Proofs.YtbojpfpliibfbaaGreatDoor
