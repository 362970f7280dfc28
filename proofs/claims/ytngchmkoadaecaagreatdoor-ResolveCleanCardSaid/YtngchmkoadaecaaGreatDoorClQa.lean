/- Functions of the program as the logic reads them: the elaborator reckons each. -/
import Derived.Test.YtngchmkoadaecaaGreatDoorProg
import Derived.Test.YtngchmkoadaecaaGreatDoorClCore5
import Derived.KernelRfl
set_option linter.unusedVariables false
set_option linter.unusedSimpArgs false
set_option maxRecDepth 100000
set_option maxHeartbeats 16000000
namespace Go.Proofs.YtngchmkoadaecaaGreatDoor
open Go Go.Ab
abbrev gTa (m:List Nat)(f:Nat):Type:={F // cFn Tryz.prog m f=some F}
theorem gRa {m:List Nat}{f:Nat}{F:AFn}(g:Func)(h:cFn ⟨Tryz.progTables,Array.replicate (f+1) g⟩ m f=some F:=by
 refine (?f:?P->?P) ?h
 case h=>
  conv=>
   lhs
   cbv
 case f=>
  intro _
  kernel_rfl) (k:cFn Tryz.prog m f=some F:=by kernel_rfl):cFn Tryz.prog m f=some F:=k
def Q9:gTa [1] 9:=⟨_,gRa Tryz.f9⟩
def Q13:gTa [2] 13:=⟨_,gRa Tryz.f13⟩
def Q16:gTa [] 16:=⟨_,gRa Tryz.f16⟩
def Q22:gTa [1] 22:=⟨_,gRa Tryz.f22⟩
def Q26:gTa [1] 26:=⟨_,gRa Tryz.f26⟩
def Q29:gTa [1000012,1000018,1000026,1000034,1000040,1000046,1000052] 29:=⟨_,gRa Tryz.f29⟩
def Q32:gTa [] 32:=⟨_,gRa Tryz.f32⟩
def Q35:gTa [2] 35:=⟨_,gRa Tryz.f35⟩
def Q43:gTa [] 43:=⟨_,gRa Tryz.f43⟩
def Q46:gTa [] 46:=⟨_,gRa Tryz.f46⟩
def Q49:gTa [] 49:=⟨_,gRa Tryz.f49⟩
def Q52:gTa [1] 52:=⟨_,gRa Tryz.f52⟩
def Q55:gTa [2] 55:=⟨_,gRa Tryz.f55⟩
def Q58:gTa [] 58:=⟨_,gRa Tryz.f58⟩
def Q61:gTa [1] 61:=⟨_,gRa Tryz.f61⟩
def Q64:gTa [] 64:=⟨_,gRa Tryz.f64⟩
def Q67:gTa [1] 67:=⟨_,gRa Tryz.f67⟩
def Q70:gTa [1] 70:=⟨_,gRa Tryz.f70⟩
def Q73:gTa [1] 73:=⟨_,gRa Tryz.f73⟩
def Q76:gTa [2] 76:=⟨_,gRa Tryz.f76⟩
def Q79:gTa [2] 79:=⟨_,gRa Tryz.f79⟩
def Q82:gTa [1] 82:=⟨_,gRa Tryz.f82⟩
def Q85:gTa [] 85:=⟨_,gRa Tryz.f85⟩
def Q88:gTa [] 88:=⟨_,gRa Tryz.f88⟩
def Q91:gTa [] 91:=⟨_,gRa Tryz.f91⟩
def Q96:gTa [] 96:=⟨_,gRa Tryz.f96⟩
def QS:gTa [] 101:=⟨_,gRa Tryz.f101⟩
def QR:gTa [3] 104:=⟨_,gRa Tryz.f104⟩
def S6:gTa [] 107:=⟨_,gRa Tryz.f107⟩
def kE:gTa [3] 110:=⟨_,gRa Tryz.f110⟩
def QQ:gTa [] 114:=⟨_,gRa Tryz.f114⟩
def QN:gTa [] 117:=⟨_,gRa Tryz.f117⟩
def QK:gTa [1] 120:=⟨_,gRa Tryz.f120⟩
def S2:gTa [] 128:=⟨_,gRa Tryz.f128⟩
def Ig:gTa [1] 131:=⟨_,gRa Tryz.f131⟩
def S0:gTa [1] 134:=⟨_,gRa Tryz.f134⟩
def dK:gTa [] 141:=⟨_,gRa Tryz.f141⟩
def SV:gTa [1] 144:=⟨_,gRa Tryz.f144⟩
def SR:gTa [] 153:=⟨_,gRa Tryz.f153⟩
def SQ:gTa [] 156:=⟨_,gRa Tryz.f156⟩
def SN:gTa [1] 159:=⟨_,gRa Tryz.f159⟩
def SM:gTa [2] 162:=⟨_,gRa Tryz.f162⟩
def Re:gTa [2] 165:=⟨_,gRa Tryz.f165⟩
def QH:gTa [] 173:=⟨_,gRa Tryz.f173⟩
def SI:gTa [] 176:=⟨_,gRa Tryz.f176⟩
def SH:gTa [1] 179:=⟨_,gRa Tryz.f179⟩
def SE:gTa [1] 182:=⟨_,gRa Tryz.f182⟩
def SD:gTa [] 187:=⟨_,gRa Tryz.f187⟩
def SB:gTa [2] 190:=⟨_,gRa Tryz.f190⟩
def Sz:gTa [] 195:=⟨_,gRa Tryz.f195⟩
def Sw:gTa [] 198:=⟨_,gRa Tryz.f198⟩
