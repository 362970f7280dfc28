/- Functions of the program as the logic reads them: the elaborator reckons each. -/
import Derived.Test.YtbojpfpliibfbaaGreatDoorProg
import Derived.Test.YtbojpfpliibfbaaGreatDoorRtCore5
import Derived.KernelRfl
set_option linter.unusedVariables false
set_option linter.unusedSimpArgs false
set_option maxRecDepth 100000
set_option maxHeartbeats 16000000
namespace Go.Proofs.YtbojpfpliibfbaaGreatDoor
open Go Go.Ab
abbrev gTa (m:List Nat)(f:Nat):Type:={F // cFn Tryz.prog m f=some F}
theorem gRa {m:List Nat}{f:Nat}{F:AFn}(g:Func)(h:cFn ⟨Tryz.progTables,Array.replicate (f+1) g⟩ m f=some F:=by
 refine (?f:?P->?P) ?h
 case h=>
  conv=>
   lhs
   cbv
 case f=>
  intro _
  kernel_rfl) (k:cFn Tryz.prog m f=some F:=by kernel_rfl):cFn Tryz.prog m f=some F:=k
def Q6:gTa [3] 6:=⟨_,gRa Tryz.f6⟩
def Q14:gTa [3,5] 14:=⟨_,gRa Tryz.f14⟩
def Q30:gTa [] 30:=⟨_,gRa Tryz.f30⟩
def Q36:gTa [1] 36:=⟨_,gRa Tryz.f36⟩
def Q39:gTa [] 39:=⟨_,gRa Tryz.f39⟩
def Q43:gTa [] 43:=⟨_,gRa Tryz.f43⟩
def Q47:gTa [] 47:=⟨_,gRa Tryz.f47⟩
def Q52:gTa [2,3] 52:=⟨_,gRa Tryz.f52⟩
def Q60:gTa [2,3] 60:=⟨_,gRa Tryz.f60⟩
def Q73:gTa [] 73:=⟨_,gRa Tryz.f73⟩
def Q76:gTa [] 76:=⟨_,gRa Tryz.f76⟩
def Q79:gTa [] 79:=⟨_,gRa Tryz.f79⟩
def Q82:gTa [] 82:=⟨_,gRa Tryz.f82⟩
def Q85:gTa [1] 85:=⟨_,gRa Tryz.f85⟩
def Q88:gTa [] 88:=⟨_,gRa Tryz.f88⟩
def Q91:gTa [2,3] 91:=⟨_,gRa Tryz.f91⟩
def Ox:gTa [] 103:=⟨_,gRa Tryz.f103⟩
def eB:gTa [3] 107:=⟨_,gRa Tryz.f107⟩
def F8:gTa [1] 110:=⟨_,gRa Tryz.f110⟩
def QE:gTa [1] 124:=⟨_,gRa Tryz.f124⟩
def N1:gTa [1] 130:=⟨_,gRa Tryz.f130⟩
def QB:gTa [] 133:=⟨_,gRa Tryz.f133⟩
def N0:gTa [5] 136:=⟨_,gRa Tryz.f136⟩
def F7:gTa [] 140:=⟨_,gRa Tryz.f140⟩
def Qx:gTa [] 143:=⟨_,gRa Tryz.f143⟩
def Qv:gTa [2] 146:=⟨_,gRa Tryz.f146⟩
def Qs:gTa [] 156:=⟨_,gRa Tryz.f156⟩
def Qq:gTa [3] 164:=⟨_,gRa Tryz.f164⟩
def Ot:gTa [] 167:=⟨_,gRa Tryz.f167⟩
def K3:gTa [1] 178:=⟨_,gRa Tryz.f178⟩
def Kx:gTa [1] 181:=⟨_,gRa Tryz.f181⟩
def K0:gTa [] 193:=⟨_,gRa Tryz.f193⟩
def NY:gTa [] 197:=⟨_,gRa Tryz.f197⟩
def jb:gTa [44] 206:=⟨_,gRa Tryz.f206⟩
def Qk:gTa [] 210:=⟨_,gRa Tryz.f210⟩
def On:gTa [] 213:=⟨_,gRa Tryz.f213⟩
def Qh:gTa [] 229:=⟨_,gRa Tryz.f229⟩
def Qg:gTa [2] 232:=⟨_,gRa Tryz.f232⟩
def Qe:gTa [1] 235:=⟨_,gRa Tryz.f235⟩
def KX:gTa [] 247:=⟨_,gRa Tryz.f247⟩
def F4:gTa [] 258:=⟨_,gRa Tryz.f258⟩
def Qc:gTa [1] 261:=⟨_,gRa Tryz.f261⟩
def Qb:gTa [2] 264:=⟨_,gRa Tryz.f264⟩
def KW:gTa [] 277:=⟨_,gRa Tryz.f277⟩
def P9:gTa [1] 284:=⟨_,gRa Tryz.f284⟩
def NT:gTa [1] 287:=⟨_,gRa Tryz.f287⟩
def P5:gTa [1] 290:=⟨_,gRa Tryz.f290⟩
def KV:gTa [1] 293:=⟨_,gRa Tryz.f293⟩
def NR:gTa [2] 298:=⟨_,gRa Tryz.f298⟩
def wP:gTa [1] 310:=⟨_,gRa Tryz.f310⟩
def Oh:gTa [] 322:=⟨_,gRa Tryz.f322⟩
end Go.Proofs.YtbojpfpliibfbaaGreatDoor
