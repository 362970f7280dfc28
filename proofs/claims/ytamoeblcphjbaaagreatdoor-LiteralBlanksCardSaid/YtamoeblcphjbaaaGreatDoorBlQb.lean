/- Functions of the program as the logic reads them: the elaborator reckons each. -/
import Derived.Test.YtamoeblcphjbaaaGreatDoorProg
import Derived.Test.YtamoeblcphjbaaaGreatDoorBlCore5
import Derived.KernelRfl
set_option linter.unusedVariables false
set_option linter.unusedSimpArgs false
set_option maxRecDepth 100000
set_option maxHeartbeats 16000000
namespace Go.Proofs.YtamoeblcphjbaaaGreatDoor
open Go Go.Ab
abbrev gTb (m:List Nat)(f:Nat):Type:={F // cFn Tryz.prog m f=some F}
theorem gRb {m:List Nat}{f:Nat}{F:AFn}(g:Func)(h:cFn ⟨Tryz.progTables,Array.replicate (f+1) g⟩ m f=some F:=by
 refine (?f:?P->?P) ?h
 case h=>
  conv=>
   lhs
   cbv
 case f=>
  intro _
  kernel_rfl) (k:cFn Tryz.prog m f=some F:=by kernel_rfl):cFn Tryz.prog m f=some F:=k
def Q16:gTb [1] 16:=⟨_,gRb Tryz.f16⟩
def Q19:gTb [2,3] 19:=⟨_,gRb Tryz.f19⟩
def Q26:gTb [] 26:=⟨_,gRb Tryz.f26⟩
def Q40:gTb [1] 40:=⟨_,gRb Tryz.f40⟩
def Q43:gTb [] 43:=⟨_,gRb Tryz.f43⟩
def Q46:gTb [] 46:=⟨_,gRb Tryz.f46⟩
def Q49:gTb [14] 49:=⟨_,gRb Tryz.f49⟩
def Q55:gTb [] 55:=⟨_,gRb Tryz.f55⟩
def Q58:gTb [] 58:=⟨_,gRb Tryz.f58⟩
def Q61:gTb [] 61:=⟨_,gRb Tryz.f61⟩
def Q69:gTb [1] 69:=⟨_,gRb Tryz.f69⟩
def Q72:gTb [1] 72:=⟨_,gRb Tryz.f72⟩
def Q75:gTb [] 75:=⟨_,gRb Tryz.f75⟩
def Q79:gTb [1] 79:=⟨_,gRb Tryz.f79⟩
def Q82:gTb [] 82:=⟨_,gRb Tryz.f82⟩
def Q87:gTb [] 87:=⟨_,gRb Tryz.f87⟩
def Q91:gTb [] 91:=⟨_,gRb Tryz.f91⟩
def Q94:gTb [] 94:=⟨_,gRb Tryz.f94⟩
def Q97:gTb [] 97:=⟨_,gRb Tryz.f97⟩
def ib:gTb [4] 100:=⟨_,gRb Tryz.f100⟩
def Ty:gTb [] 104:=⟨_,gRb Tryz.f104⟩
def Tv:gTb [] 109:=⟨_,gRb Tryz.f109⟩
def QS:gTb [] 112:=⟨_,gRb Tryz.f112⟩
def Tt:gTb [] 120:=⟨_,gRb Tryz.f120⟩
def N1:gTb [] 123:=⟨_,gRb Tryz.f123⟩
def Tq:gTb [] 126:=⟨_,gRb Tryz.f126⟩
def Tp:gTb [] 129:=⟨_,gRb Tryz.f129⟩
def NZ:gTb [] 132:=⟨_,gRb Tryz.f132⟩
def NY:gTb [1] 142:=⟨_,gRb Tryz.f142⟩
def Ni:gTb [1] 145:=⟨_,gRb Tryz.f145⟩
def Tn:gTb [] 151:=⟨_,gRb Tryz.f151⟩
def QQ:gTb [] 156:=⟨_,gRb Tryz.f156⟩
def Ti:gTb [] 159:=⟨_,gRb Tryz.f159⟩
def Nh:gTb [] 162:=⟨_,gRb Tryz.f162⟩
def zH:gTb [] 165:=⟨_,gRb Tryz.f165⟩
def Rp:gTb [] 170:=⟨_,gRb Tryz.f170⟩
def Tc:gTb [] 173:=⟨_,gRb Tryz.f173⟩
def Ro:gTb [] 182:=⟨_,gRb Tryz.f182⟩
def Ta:gTb [] 189:=⟨_,gRb Tryz.f189⟩
def S8:gTb [] 192:=⟨_,gRb Tryz.f192⟩
def QN:gTb [] 195:=⟨_,gRb Tryz.f195⟩
def S5:gTb [2] 198:=⟨_,gRb Tryz.f198⟩
def QM:gTb [] 203:=⟨_,gRb Tryz.f203⟩
def QL:gTb [] 208:=⟨_,gRb Tryz.f208⟩
def NS:gTb [] 219:=⟨_,gRb Tryz.f219⟩
def Rm:gTb [] 224:=⟨_,gRb Tryz.f224⟩
def Rl:gTb [] 227:=⟨_,gRb Tryz.f227⟩
def Rj:gTb [2,3] 230:=⟨_,gRb Tryz.f230⟩
def S0:gTb [] 235:=⟨_,gRb Tryz.f235⟩
def NP:gTb [] 254:=⟨_,gRb Tryz.f254⟩
def QJ:gTb [2] 257:=⟨_,gRb Tryz.f257⟩
def Rg:gTb [] 260:=⟨_,gRb Tryz.f260⟩
def SU:gTb [] 274:=⟨_,gRb Tryz.f274⟩
def Rf:gTb [] 281:=⟨_,gRb Tryz.f281⟩
