/- Functions of the program as the logic reads them: the elaborator reckons each. -/
import Derived.Test.YtbaaokocnegdoaaGreatDoorProg
import Derived.Test.YtbaaokocnegdoaaGreatDoorEnCore5
import Derived.KernelRfl
set_option linter.unusedVariables false
set_option linter.unusedSimpArgs false
set_option maxRecDepth 100000
set_option maxHeartbeats 16000000
namespace Go.Proofs.YtbaaokocnegdoaaGreatDoor
open Go Go.Ab
abbrev gTb (m:List Nat)(f:Nat):Type:={F // cFn Tryz.prog m f=some F}
theorem gRb {m:List Nat}{f:Nat}{F:AFn}(g:Func)(h:cFn ⟨Tryz.progTables,Array.replicate (f+1) g⟩ m f=some F:=by
 refine (?f:?P->?P) ?h
 case h=>
  conv=>
   lhs
   cbv
 case f=>
  intro _
  kernel_rfl) (k:cFn Tryz.prog m f=some F:=by kernel_rfl):cFn Tryz.prog m f=some F:=k
def Q11:gTb [] 11:=⟨_,gRb Tryz.f11⟩
def Q16:gTb [] 16:=⟨_,gRb Tryz.f16⟩
def Q19:gTb [] 19:=⟨_,gRb Tryz.f19⟩
def Q22:gTb [3] 22:=⟨_,gRb Tryz.f22⟩
def Q26:gTb [] 26:=⟨_,gRb Tryz.f26⟩
def Q32:gTb [] 32:=⟨_,gRb Tryz.f32⟩
def Q35:gTb [] 35:=⟨_,gRb Tryz.f35⟩
def Q38:gTb [] 38:=⟨_,gRb Tryz.f38⟩
def Q43:gTb [14] 43:=⟨_,gRb Tryz.f43⟩
def Q46:gTb [] 46:=⟨_,gRb Tryz.f46⟩
def Q50:gTb [] 50:=⟨_,gRb Tryz.f50⟩
def Q53:gTb [] 53:=⟨_,gRb Tryz.f53⟩
def Q56:gTb [] 56:=⟨_,gRb Tryz.f56⟩
def Q61:gTb [1] 61:=⟨_,gRb Tryz.f61⟩
def Q65:gTb [2] 65:=⟨_,gRb Tryz.f65⟩
def Q69:gTb [] 69:=⟨_,gRb Tryz.f69⟩
def Q73:gTb [] 73:=⟨_,gRb Tryz.f73⟩
def Q76:gTb [] 76:=⟨_,gRb Tryz.f76⟩
def Q79:gTb [2] 79:=⟨_,gRb Tryz.f79⟩
def Q86:gTb [] 86:=⟨_,gRb Tryz.f86⟩
def Q92:gTb [] 92:=⟨_,gRb Tryz.f92⟩
def Q96:gTb [] 96:=⟨_,gRb Tryz.f96⟩
def Q99:gTb [1] 99:=⟨_,gRb Tryz.f99⟩
def Ut:gTb [] 103:=⟨_,gRb Tryz.f103⟩
def Uq:gTb [] 106:=⟨_,gRb Tryz.f106⟩
def RR:gTb [] 109:=⟨_,gRb Tryz.f109⟩
def Up:gTb [] 115:=⟨_,gRb Tryz.f115⟩
def KT:gTb [] 120:=⟨_,gRb Tryz.f120⟩
def RP:gTb [] 126:=⟨_,gRb Tryz.f126⟩
def Se:gTb [] 129:=⟨_,gRb Tryz.f129⟩
def Sc:gTb [] 132:=⟨_,gRb Tryz.f132⟩
def Un:gTb [] 136:=⟨_,gRb Tryz.f136⟩
def OS:gTb [2,3] 145:=⟨_,gRb Tryz.f145⟩
def OR:gTb [1] 148:=⟨_,gRb Tryz.f148⟩
def KQ:gTb [] 151:=⟨_,gRb Tryz.f151⟩
def OP:gTb [] 155:=⟨_,gRb Tryz.f155⟩
def Sa:gTb [] 158:=⟨_,gRb Tryz.f158⟩
def RM:gTb [] 161:=⟨_,gRb Tryz.f161⟩
def KO:gTb [] 176:=⟨_,gRb Tryz.f176⟩
def Uh:gTb [] 179:=⟨_,gRb Tryz.f179⟩
def RK:gTb [] 182:=⟨_,gRb Tryz.f182⟩
def RI:gTb [] 189:=⟨_,gRb Tryz.f189⟩
def ib:gTb [2,3] 193:=⟨_,gRb Tryz.f193⟩
def Ue:gTb [1] 196:=⟨_,gRb Tryz.f196⟩
def OK:gTb [3] 199:=⟨_,gRb Tryz.f199⟩
def Ud:gTb [1] 203:=⟨_,gRb Tryz.f203⟩
def OI:gTb [] 221:=⟨_,gRb Tryz.f221⟩
def Uc:gTb [] 239:=⟨_,gRb Tryz.f239⟩
def Ub:gTb [] 242:=⟨_,gRb Tryz.f242⟩
def R8:gTb [] 245:=⟨_,gRb Tryz.f245⟩
def RG:gTb [2] 248:=⟨_,gRb Tryz.f248⟩
def pI:gTb [1] 251:=⟨_,gRb Tryz.f251⟩
def T4:gTb [1] 268:=⟨_,gRb Tryz.f268⟩
def T2:gTb [1] 271:=⟨_,gRb Tryz.f271⟩
def R6:gTb [] 274:=⟨_,gRb Tryz.f274⟩
def TX:gTb [1] 277:=⟨_,gRb Tryz.f277⟩
def RC:gTb [1] 280:=⟨_,gRb Tryz.f280⟩
def TU:gTb [2] 285:=⟨_,gRb Tryz.f285⟩
def RA:gTb [] 288:=⟨_,gRb Tryz.f288⟩
def AY:gTb [1] 294:=⟨_,gRb Tryz.f294⟩
def R5:gTb [] 297:=⟨_,gRb Tryz.f297⟩
def Og:gTb [33,1000039] 59:=⟨_,gRb Tryz.f59⟩
def Oe:gTb [1,11,61] 201:=⟨_,gRb Tryz.f201⟩
