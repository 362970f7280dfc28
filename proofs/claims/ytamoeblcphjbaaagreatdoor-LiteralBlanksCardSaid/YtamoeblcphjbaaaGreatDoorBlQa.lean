/- Functions of the program as the logic reads them: the elaborator reckons each. -/
import Derived.Test.YtamoeblcphjbaaaGreatDoorProg
import Derived.Test.YtamoeblcphjbaaaGreatDoorBlCore5
import Derived.KernelRfl
set_option linter.unusedVariables false
set_option linter.unusedSimpArgs false
set_option maxRecDepth 100000
set_option maxHeartbeats 16000000
namespace Go.Proofs.YtamoeblcphjbaaaGreatDoor
open Go Go.Ab
abbrev gTa (m:List Nat)(f:Nat):Type:={F // cFn Tryz.prog m f=some F}
theorem gRa {m:List Nat}{f:Nat}{F:AFn}(g:Func)(h:cFn ⟨Tryz.progTables,Array.replicate (f+1) g⟩ m f=some F:=by
 refine (?f:?P->?P) ?h
 case h=>
  conv=>
   lhs
   cbv
 case f=>
  intro _
  kernel_rfl) (k:cFn Tryz.prog m f=some F:=by kernel_rfl):cFn Tryz.prog m f=some F:=k
def Q15:gTa [1] 15:=⟨_,gRa Tryz.f15⟩
def Q18:gTa [] 18:=⟨_,gRa Tryz.f18⟩
def Q25:gTa [1000029] 25:=⟨_,gRa Tryz.f25⟩
def Q31:gTa [1] 31:=⟨_,gRa Tryz.f31⟩
def Q39:gTa [1] 39:=⟨_,gRa Tryz.f39⟩
def Q42:gTa [] 42:=⟨_,gRa Tryz.f42⟩
def Q45:gTa [] 45:=⟨_,gRa Tryz.f45⟩
def Q48:gTa [2,3] 48:=⟨_,gRa Tryz.f48⟩
def Q52:gTa [] 52:=⟨_,gRa Tryz.f52⟩
def Q57:gTa [] 57:=⟨_,gRa Tryz.f57⟩
def Q60:gTa [] 60:=⟨_,gRa Tryz.f60⟩
def Q64:gTa [1] 64:=⟨_,gRa Tryz.f64⟩
def Q71:gTa [1] 71:=⟨_,gRa Tryz.f71⟩
def Q74:gTa [1] 74:=⟨_,gRa Tryz.f74⟩
def Q78:gTa [1] 78:=⟨_,gRa Tryz.f78⟩
def Q81:gTa [1] 81:=⟨_,gRa Tryz.f81⟩
def Q86:gTa [] 86:=⟨_,gRa Tryz.f86⟩
def Q90:gTa [] 90:=⟨_,gRa Tryz.f90⟩
def Q93:gTa [] 93:=⟨_,gRa Tryz.f93⟩
def Q96:gTa [] 96:=⟨_,gRa Tryz.f96⟩
def Q99:gTa [59,1000058,1000066] 99:=⟨_,gRa Tryz.f99⟩
def Tz:gTa [] 102:=⟨_,gRa Tryz.f102⟩
def Tw:gTa [2,3] 106:=⟨_,gRa Tryz.f106⟩
def Nj:gTa [] 111:=⟨_,gRa Tryz.f111⟩
def Rr:gTa [] 114:=⟨_,gRa Tryz.f114⟩
def IA:gTa [] 122:=⟨_,gRa Tryz.f122⟩
def zJ:gTa [] 125:=⟨_,gRa Tryz.f125⟩
def Iy:gTa [] 128:=⟨_,gRa Tryz.f128⟩
def N0:gTa [] 131:=⟨_,gRa Tryz.f131⟩
def Ix:gTa [] 134:=⟨_,gRa Tryz.f134⟩
def NX:gTa [2,3] 144:=⟨_,gRa Tryz.f144⟩
def zI:gTa [1] 149:=⟨_,gRa Tryz.f149⟩
def Tl:gTa [] 155:=⟨_,gRa Tryz.f155⟩
def Rq:gTa [] 158:=⟨_,gRa Tryz.f158⟩
def Tg:gTa [] 161:=⟨_,gRa Tryz.f161⟩
def QP:gTa [] 164:=⟨_,gRa Tryz.f164⟩
def Tf:gTa [3] 169:=⟨_,gRa Tryz.f169⟩
def Td:gTa [] 172:=⟨_,gRa Tryz.f172⟩
def QO:gTa [] 181:=⟨_,gRa Tryz.f181⟩
def NV:gTa [] 184:=⟨_,gRa Tryz.f184⟩
def Ng:gTa [] 191:=⟨_,gRa Tryz.f191⟩
def S7:gTa [] 194:=⟨_,gRa Tryz.f194⟩
def NU:gTa [1] 197:=⟨_,gRa Tryz.f197⟩
def S4:gTa [1] 200:=⟨_,gRa Tryz.f200⟩
def pn:gTa [] 207:=⟨_,gRa Tryz.f207⟩
def S2:gTa [1] 212:=⟨_,gRa Tryz.f212⟩
def Nf:gTa [] 223:=⟨_,gRa Tryz.f223⟩
def Iu:gTa [2] 226:=⟨_,gRa Tryz.f226⟩
def S1:gTa [2] 229:=⟨_,gRa Tryz.f229⟩
def Ri:gTa [2] 232:=⟨_,gRa Tryz.f232⟩
def NQ:gTa [] 248:=⟨_,gRa Tryz.f248⟩
def SY:gTa [] 256:=⟨_,gRa Tryz.f256⟩
def SW:gTa [2,3] 259:=⟨_,gRa Tryz.f259⟩
def SV:gTa [] 273:=⟨_,gRa Tryz.f273⟩
def SR:gTa [] 280:=⟨_,gRa Tryz.f280⟩
