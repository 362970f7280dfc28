/- Functions of the program as the logic reads them: the elaborator reckons each. -/
import Derived.Test.YtbojpfpliibfbaaGreatDoorProg
import Derived.Test.YtbojpfpliibfbaaGreatDoorRtCore5
import Derived.KernelRfl
set_option linter.unusedVariables false
set_option linter.unusedSimpArgs false
set_option maxRecDepth 100000
set_option maxHeartbeats 16000000
namespace Go.Proofs.YtbojpfpliibfbaaGreatDoor
open Go Go.Ab
abbrev gTb (m:List Nat)(f:Nat):Type:={F // cFn Tryz.prog m f=some F}
theorem gRb {m:List Nat}{f:Nat}{F:AFn}(g:Func)(h:cFn ⟨Tryz.progTables,Array.replicate (f+1) g⟩ m f=some F:=by
 refine (?f:?P->?P) ?h
 case h=>
  conv=>
   lhs
   cbv
 case f=>
  intro _
  kernel_rfl) (k:cFn Tryz.prog m f=some F:=by kernel_rfl):cFn Tryz.prog m f=some F:=k
def Q10:gTb [] 10:=⟨_,gRb Tryz.f10⟩
def Q17:gTb [75,1000093,3] 17:=⟨_,gRb Tryz.f17⟩
def Q34:gTb [] 34:=⟨_,gRb Tryz.f34⟩
def Q37:gTb [] 37:=⟨_,gRb Tryz.f37⟩
def Q40:gTb [] 40:=⟨_,gRb Tryz.f40⟩
def Q44:gTb [2] 44:=⟨_,gRb Tryz.f44⟩
def Q50:gTb [] 50:=⟨_,gRb Tryz.f50⟩
def Q53:gTb [3] 53:=⟨_,gRb Tryz.f53⟩
def Q68:gTb [] 68:=⟨_,gRb Tryz.f68⟩
def Q74:gTb [1] 74:=⟨_,gRb Tryz.f74⟩
def Q77:gTb [] 77:=⟨_,gRb Tryz.f77⟩
def Q80:gTb [2] 80:=⟨_,gRb Tryz.f80⟩
def Q83:gTb [] 83:=⟨_,gRb Tryz.f83⟩
def Q86:gTb [] 86:=⟨_,gRb Tryz.f86⟩
def Q89:gTb [] 89:=⟨_,gRb Tryz.f89⟩
def Q92:gTb [1] 92:=⟨_,gRb Tryz.f92⟩
def K8:gTb [] 105:=⟨_,gRb Tryz.f105⟩
def QF:gTb [] 108:=⟨_,gRb Tryz.f108⟩
def N2:gTb [] 119:=⟨_,gRb Tryz.f119⟩
def QD:gTb [] 128:=⟨_,gRb Tryz.f128⟩
def QC:gTb [] 131:=⟨_,gRb Tryz.f131⟩
def Ow:gTb [] 134:=⟨_,gRb Tryz.f134⟩
def QA:gTb [5,6] 138:=⟨_,gRb Tryz.f138⟩
def Qz:gTb [] 141:=⟨_,gRb Tryz.f141⟩
def Qw:gTb [] 144:=⟨_,gRb Tryz.f144⟩
def NZ:gTb [] 149:=⟨_,gRb Tryz.f149⟩
def Qr:gTb [] 160:=⟨_,gRb Tryz.f160⟩
def Qp:gTb [] 165:=⟨_,gRb Tryz.f165⟩
def F6:gTb [] 168:=⟨_,gRb Tryz.f168⟩
def F5:gTb [1] 179:=⟨_,gRb Tryz.f179⟩
def Oq:gTb [] 191:=⟨_,gRb Tryz.f191⟩
def Oo:gTb [] 195:=⟨_,gRb Tryz.f195⟩
def Qn:gTb [] 198:=⟨_,gRb Tryz.f198⟩
def Qm:gTb [] 208:=⟨_,gRb Tryz.f208⟩
def Kw:gTb [] 211:=⟨_,gRb Tryz.f211⟩
def Qi:gTb [] 214:=⟨_,gRb Tryz.f214⟩
def dy:gTb [] 230:=⟨_,gRb Tryz.f230⟩
def Qf:gTb [1] 233:=⟨_,gRb Tryz.f233⟩
def Om:gTb [] 240:=⟨_,gRb Tryz.f240⟩
def Kv:gTb [] 251:=⟨_,gRb Tryz.f251⟩
def F3:gTb [2] 259:=⟨_,gRb Tryz.f259⟩
def bw:gTb [1] 262:=⟨_,gRb Tryz.f262⟩
def Oj:gTb [2,3] 265:=⟨_,gRb Tryz.f265⟩
def Qa:gTb [1] 282:=⟨_,gRb Tryz.f282⟩
def P8:gTb [1] 285:=⟨_,gRb Tryz.f285⟩
def Oi:gTb [] 288:=⟨_,gRb Tryz.f288⟩
def P4:gTb [1] 291:=⟨_,gRb Tryz.f291⟩
def NS:gTb [1] 294:=⟨_,gRb Tryz.f294⟩
def P1:gTb [2] 299:=⟨_,gRb Tryz.f299⟩
def P0:gTb [] 311:=⟨_,gRb Tryz.f311⟩
def Kz:gTb [33,1000039] 55:=⟨_,gRb Tryz.f55⟩
end Go.Proofs.YtbojpfpliibfbaaGreatDoor
