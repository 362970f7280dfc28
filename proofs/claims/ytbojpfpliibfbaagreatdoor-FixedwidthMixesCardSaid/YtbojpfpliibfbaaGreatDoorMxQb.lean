/- Functions of the program as the logic reads them: the elaborator reckons each. -/
import Derived.Test.YtbojpfpliibfbaaGreatDoorProg
import Derived.Test.YtbojpfpliibfbaaGreatDoorMxCore5
import Derived.KernelRfl
set_option linter.unusedVariables false
set_option linter.unusedSimpArgs false
set_option maxRecDepth 100000
set_option maxHeartbeats 16000000
namespace Go.Proofs.YtbojpfpliibfbaaGreatDoor
open Go Go.Ab
abbrev gTb (m:List Nat)(f:Nat):Type:={F // cFn Tryz.prog m f=some F}
theorem gRb {m:List Nat}{f:Nat}{F:AFn}(g:Func)(h:cFn ⟨Tryz.progTables,Array.replicate (f+1) g⟩ m f=some F:=by
 refine (?f:?P->?P) ?h
 case h=>
  conv=>
   lhs
   cbv
 case f=>
  intro _
  kernel_rfl) (k:cFn Tryz.prog m f=some F:=by kernel_rfl):cFn Tryz.prog m f=some F:=k
def Q14:gTb [3,5] 14:=⟨_,gRb Tryz.f14⟩
def Q23:gTb [] 23:=⟨_,gRb Tryz.f23⟩
def Q26:gTb [] 26:=⟨_,gRb Tryz.f26⟩
def Q35:gTb [] 35:=⟨_,gRb Tryz.f35⟩
def Q38:gTb [] 38:=⟨_,gRb Tryz.f38⟩
def Q42:gTb [2,3] 42:=⟨_,gRb Tryz.f42⟩
def Q46:gTb [14] 46:=⟨_,gRb Tryz.f46⟩
def Q51:gTb [] 51:=⟨_,gRb Tryz.f51⟩
def Q54:gTb [] 54:=⟨_,gRb Tryz.f54⟩
def Q67:gTb [1] 67:=⟨_,gRb Tryz.f67⟩
def Q73:gTb [] 73:=⟨_,gRb Tryz.f73⟩
def Q76:gTb [] 76:=⟨_,gRb Tryz.f76⟩
def Q79:gTb [] 79:=⟨_,gRb Tryz.f79⟩
def Q82:gTb [] 82:=⟨_,gRb Tryz.f82⟩
def Q85:gTb [1] 85:=⟨_,gRb Tryz.f85⟩
def Q88:gTb [] 88:=⟨_,gRb Tryz.f88⟩
def Q91:gTb [2,3] 91:=⟨_,gRb Tryz.f91⟩
def Rk:gTb [] 103:=⟨_,gRb Tryz.f103⟩
def eL:gTb [3] 107:=⟨_,gRb Tryz.f107⟩
def Tz:gTb [1] 110:=⟨_,gRb Tryz.f110⟩
def Ty:gTb [1] 124:=⟨_,gRb Tryz.f124⟩
def QR:gTb [1] 130:=⟨_,gRb Tryz.f130⟩
def Tv:gTb [] 133:=⟨_,gRb Tryz.f133⟩
def QP:gTb [5] 136:=⟨_,gRb Tryz.f136⟩
def IH:gTb [] 140:=⟨_,gRb Tryz.f140⟩
def Tq:gTb [] 143:=⟨_,gRb Tryz.f143⟩
def To:gTb [2] 146:=⟨_,gRb Tryz.f146⟩
def Tm:gTb [] 156:=⟨_,gRb Tryz.f156⟩
def Tj:gTb [3] 164:=⟨_,gRb Tryz.f164⟩
def Rg:gTb [] 167:=⟨_,gRb Tryz.f167⟩
def NB:gTb [1] 178:=⟨_,gRb Tryz.f178⟩
def M4:gTb [1] 181:=⟨_,gRb Tryz.f181⟩
def Nx:gTb [] 193:=⟨_,gRb Tryz.f193⟩
def QN:gTb [] 197:=⟨_,gRb Tryz.f197⟩
def jA:gTb [44] 206:=⟨_,gRb Tryz.f206⟩
def S9:gTb [] 210:=⟨_,gRb Tryz.f210⟩
def Rd:gTb [] 213:=⟨_,gRb Tryz.f213⟩
def S6:gTb [] 229:=⟨_,gRb Tryz.f229⟩
def S5:gTb [2] 232:=⟨_,gRb Tryz.f232⟩
def S3:gTb [1] 235:=⟨_,gRb Tryz.f235⟩
def Nu:gTb [] 247:=⟨_,gRb Tryz.f247⟩
def IE:gTb [] 258:=⟨_,gRb Tryz.f258⟩
def S1:gTb [1] 261:=⟨_,gRb Tryz.f261⟩
def SZ:gTb [2] 264:=⟨_,gRb Tryz.f264⟩
def Nt:gTb [] 277:=⟨_,gRb Tryz.f277⟩
def SW:gTb [1] 284:=⟨_,gRb Tryz.f284⟩
def QI:gTb [1] 287:=⟨_,gRb Tryz.f287⟩
def SS:gTb [1] 290:=⟨_,gRb Tryz.f290⟩
def Ns:gTb [1] 293:=⟨_,gRb Tryz.f293⟩
def QG:gTb [2] 298:=⟨_,gRb Tryz.f298⟩
def yS:gTb [1] 310:=⟨_,gRb Tryz.f310⟩
def Q7:gTb [] 322:=⟨_,gRb Tryz.f322⟩
end Go.Proofs.YtbojpfpliibfbaaGreatDoor
