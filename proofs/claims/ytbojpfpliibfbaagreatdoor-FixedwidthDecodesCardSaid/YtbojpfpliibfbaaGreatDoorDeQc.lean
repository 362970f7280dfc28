/- Functions of the program as the logic reads them: the elaborator reckons each. -/
import Derived.Test.YtbojpfpliibfbaaGreatDoorProg
import Derived.Test.YtbojpfpliibfbaaGreatDoorDeCore5
import Derived.KernelRfl
set_option linter.unusedVariables false
set_option linter.unusedSimpArgs false
set_option maxRecDepth 100000
set_option maxHeartbeats 16000000
namespace Go.Proofs.YtbojpfpliibfbaaGreatDoor
open Go Go.Ab
abbrev gTc (m:List Nat)(f:Nat):Type:={F // cFn Tryz.prog m f=some F}
theorem gRc {m:List Nat}{f:Nat}{F:AFn}(g:Func)(h:cFn ⟨Tryz.progTables,Array.replicate (f+1) g⟩ m f=some F:=by
 refine (?f:?P->?P) ?h
 case h=>
  conv=>
   lhs
   cbv
 case f=>
  intro _
  kernel_rfl) (k:cFn Tryz.prog m f=some F:=by kernel_rfl):cFn Tryz.prog m f=some F:=k
def Q12:gTc [] 12:=⟨_,gRc Tryz.f12⟩
def Q17:gTc [75,1000093,3] 17:=⟨_,gRc Tryz.f17⟩
def Q20:gTc [3,4] 20:=⟨_,gRc Tryz.f20⟩
def Q28:gTc [1] 28:=⟨_,gRc Tryz.f28⟩
def Q31:gTc [] 31:=⟨_,gRc Tryz.f31⟩
def Q36:gTc [1] 36:=⟨_,gRc Tryz.f36⟩
def Q39:gTc [] 39:=⟨_,gRc Tryz.f39⟩
def Q42:gTc [2,3] 42:=⟨_,gRc Tryz.f42⟩
def Q50:gTc [] 50:=⟨_,gRc Tryz.f50⟩
def Q53:gTc [3] 53:=⟨_,gRc Tryz.f53⟩
def Q57:gTc [] 57:=⟨_,gRc Tryz.f57⟩
def Q60:gTc [2,3] 60:=⟨_,gRc Tryz.f60⟩
def Q64:gTc [3,4] 64:=⟨_,gRc Tryz.f64⟩
def Q67:gTc [1] 67:=⟨_,gRc Tryz.f67⟩
def Q71:gTc [3] 71:=⟨_,gRc Tryz.f71⟩
def Q74:gTc [1] 74:=⟨_,gRc Tryz.f74⟩
def Q77:gTc [] 77:=⟨_,gRc Tryz.f77⟩
def Q80:gTc [2] 80:=⟨_,gRc Tryz.f80⟩
def Q83:gTc [] 83:=⟨_,gRc Tryz.f83⟩
def PA:gTc [] 101:=⟨_,gRc Tryz.f101⟩
def Mv:gTc [] 105:=⟨_,gRc Tryz.f105⟩
def Sk:gTc [] 108:=⟨_,gRc Tryz.f108⟩
def HB:gTc [] 114:=⟨_,gRc Tryz.f114⟩
def LI:gTc [] 117:=⟨_,gRc Tryz.f117⟩
def Sh:gTc [2] 121:=⟨_,gRc Tryz.f121⟩
def Sg:gTc [1] 124:=⟨_,gRc Tryz.f124⟩
def LH:gTc [1] 127:=⟨_,gRc Tryz.f127⟩
def Py:gTc [1] 130:=⟨_,gRc Tryz.f130⟩
def Sc:gTc [] 133:=⟨_,gRc Tryz.f133⟩
def Pw:gTc [5] 136:=⟨_,gRc Tryz.f136⟩
def Mq:gTc [] 145:=⟨_,gRc Tryz.f145⟩
def R9:gTc [] 155:=⟨_,gRc Tryz.f155⟩
def P0:gTc [] 163:=⟨_,gRc Tryz.f163⟩
def Mp:gTc [] 166:=⟨_,gRc Tryz.f166⟩
def dv:gTc [] 169:=⟨_,gRc Tryz.f169⟩
def PY:gTc [] 175:=⟨_,gRc Tryz.f175⟩
def Mo:gTc [1] 178:=⟨_,gRc Tryz.f178⟩
def LF:gTc [1] 181:=⟨_,gRc Tryz.f181⟩
def Mm:gTc [1] 184:=⟨_,gRc Tryz.f184⟩
def Mj:gTc [1] 187:=⟨_,gRc Tryz.f187⟩
def RZ:gTc [1] 190:=⟨_,gRc Tryz.f190⟩
def Mh:gTc [] 193:=⟨_,gRc Tryz.f193⟩
def Ps:gTc [] 199:=⟨_,gRc Tryz.f199⟩
def RX:gTc [] 208:=⟨_,gRc Tryz.f208⟩
def LE:gTc [] 211:=⟨_,gRc Tryz.f211⟩
def RS:gTc [] 214:=⟨_,gRc Tryz.f214⟩
def Pr:gTc [] 228:=⟨_,gRc Tryz.f228⟩
def Me:gTc [1] 231:=⟨_,gRc Tryz.f231⟩
def gm:gTc [2,3] 234:=⟨_,gRc Tryz.f234⟩
def oa:gTc [1] 237:=⟨_,gRc Tryz.f237⟩
def PU:gTc [] 240:=⟨_,gRc Tryz.f240⟩
def Mb:gTc [] 247:=⟨_,gRc Tryz.f247⟩
def Hx:gTc [] 258:=⟨_,gRc Tryz.f258⟩
def RJ:gTc [1] 261:=⟨_,gRc Tryz.f261⟩
def RH:gTc [2] 264:=⟨_,gRc Tryz.f264⟩
def RG:gTc [1] 267:=⟨_,gRc Tryz.f267⟩
def L9:gTc [] 277:=⟨_,gRc Tryz.f277⟩
def RE:gTc [1] 284:=⟨_,gRc Tryz.f284⟩
def Pn:gTc [1] 287:=⟨_,gRc Tryz.f287⟩
def RA:gTc [1] 290:=⟨_,gRc Tryz.f290⟩
def L8:gTc [1] 293:=⟨_,gRc Tryz.f293⟩
def Pl:gTc [2] 298:=⟨_,gRc Tryz.f298⟩
def ym:gTc [1] 310:=⟨_,gRc Tryz.f310⟩
def PP:gTc [] 322:=⟨_,gRc Tryz.f322⟩
end Go.Proofs.YtbojpfpliibfbaaGreatDoor
