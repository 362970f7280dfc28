/- Functions of the program as the logic reads them: the elaborator reckons each. -/
import Derived.Test.YtamoeblcphjbaaaGreatDoorProg
import Derived.Test.YtamoeblcphjbaaaGreatDoorTyCore5
import Derived.KernelRfl
set_option linter.unusedVariables false
set_option linter.unusedSimpArgs false
set_option maxRecDepth 100000
set_option maxHeartbeats 16000000
namespace Go.Proofs.YtamoeblcphjbaaaGreatDoor
open Go Go.Ab
abbrev gTb (m:List Nat)(f:Nat):Type:={F // cFn Tryz.prog m f=some F}
theorem gRb {m:List Nat}{f:Nat}{F:AFn}(g:Func)(h:cFn ⟨Tryz.progTables,Array.replicate (f+1) g⟩ m f=some F:=by
 refine (?f:?P->?P) ?h
 case h=>
  conv=>
   lhs
   cbv
 case f=>
  intro _
  kernel_rfl) (k:cFn Tryz.prog m f=some F:=by kernel_rfl):cFn Tryz.prog m f=some F:=k
def Q15:gTb [1] 15:=⟨_,gRb Tryz.f15⟩
def Q19:gTb [2,3] 19:=⟨_,gRb Tryz.f19⟩
def Q22:gTb [] 22:=⟨_,gRb Tryz.f22⟩
def Q27:gTb [] 27:=⟨_,gRb Tryz.f27⟩
def Q30:gTb [1] 30:=⟨_,gRb Tryz.f30⟩
def Q34:gTb [1] 34:=⟨_,gRb Tryz.f34⟩
def Q37:gTb [1] 37:=⟨_,gRb Tryz.f37⟩
def Q40:gTb [1] 40:=⟨_,gRb Tryz.f40⟩
def Q43:gTb [] 43:=⟨_,gRb Tryz.f43⟩
def Q46:gTb [] 46:=⟨_,gRb Tryz.f46⟩
def Q49:gTb [14] 49:=⟨_,gRb Tryz.f49⟩
def Q56:gTb [124,1000123,1000159,1000071] 56:=⟨_,gRb Tryz.f56⟩
def Q59:gTb [] 59:=⟨_,gRb Tryz.f59⟩
def Q62:gTb [1] 62:=⟨_,gRb Tryz.f62⟩
def Q65:gTb [] 65:=⟨_,gRb Tryz.f65⟩
def Q69:gTb [1] 69:=⟨_,gRb Tryz.f69⟩
def Q72:gTb [1] 72:=⟨_,gRb Tryz.f72⟩
def Q75:gTb [] 75:=⟨_,gRb Tryz.f75⟩
def Q79:gTb [1] 79:=⟨_,gRb Tryz.f79⟩
def Q82:gTb [] 82:=⟨_,gRb Tryz.f82⟩
def Q87:gTb [] 87:=⟨_,gRb Tryz.f87⟩
def Q91:gTb [] 91:=⟨_,gRb Tryz.f91⟩
def Q94:gTb [] 94:=⟨_,gRb Tryz.f94⟩
def Q97:gTb [] 97:=⟨_,gRb Tryz.f97⟩
def iO:gTb [4] 100:=⟨_,gRb Tryz.f100⟩
def VM:gTb [] 104:=⟨_,gRb Tryz.f104⟩
def lE:gTb [44] 113:=⟨_,gRb Tryz.f113⟩
def KD:gTb [] 122:=⟨_,gRb Tryz.f122⟩
def Bm:gTb [] 125:=⟨_,gRb Tryz.f125⟩
def KB:gTb [] 128:=⟨_,gRb Tryz.f128⟩
def P8:gTb [] 131:=⟨_,gRb Tryz.f131⟩
def KA:gTb [] 134:=⟨_,gRb Tryz.f134⟩
def VC:gTb [] 137:=⟨_,gRb Tryz.f137⟩
def Kz:gTb [1] 140:=⟨_,gRb Tryz.f140⟩
def P5:gTb [2,3] 144:=⟨_,gRb Tryz.f144⟩
def Bl:gTb [1] 149:=⟨_,gRb Tryz.f149⟩
def Vy:gTb [] 155:=⟨_,gRb Tryz.f155⟩
def Tz:gTb [] 158:=⟨_,gRb Tryz.f158⟩
def Vu:gTb [] 161:=⟨_,gRb Tryz.f161⟩
def S5:gTb [] 164:=⟨_,gRb Tryz.f164⟩
def Vt:gTb [3] 169:=⟨_,gRb Tryz.f169⟩
def Vr:gTb [] 172:=⟨_,gRb Tryz.f172⟩
def Tx:gTb [] 182:=⟨_,gRb Tryz.f182⟩
def Vn:gTb [] 190:=⟨_,gRb Tryz.f190⟩
def Tw:gTb [] 193:=⟨_,gRb Tryz.f193⟩
def Vk:gTb [] 196:=⟨_,gRb Tryz.f196⟩
def iN:gTb [2,3] 199:=⟨_,gRb Tryz.f199⟩
def P1:gTb [] 205:=⟨_,gRb Tryz.f205⟩
def Vh:gTb [] 209:=⟨_,gRb Tryz.f209⟩
def PZ:gTb [] 220:=⟨_,gRb Tryz.f220⟩
def Md:gTb [] 225:=⟨_,gRb Tryz.f225⟩
def Tt:gTb [] 228:=⟨_,gRb Tryz.f228⟩
def S1:gTb [2] 231:=⟨_,gRb Tryz.f231⟩
def Tp:gTb [] 236:=⟨_,gRb Tryz.f236⟩
def Vd:gTb [] 255:=⟨_,gRb Tryz.f255⟩
def Vb:gTb [2] 258:=⟨_,gRb Tryz.f258⟩
def SZ:gTb [] 261:=⟨_,gRb Tryz.f261⟩
def U7:gTb [2] 275:=⟨_,gRb Tryz.f275⟩
def PA:gTb [124,1000123,1000159,1000071,1000168] 56:=⟨_,gRb Tryz.f56⟩
