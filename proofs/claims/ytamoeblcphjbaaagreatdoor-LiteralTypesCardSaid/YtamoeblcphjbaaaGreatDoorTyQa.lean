/- Functions of the program as the logic reads them: the elaborator reckons each. -/
import Derived.Test.YtamoeblcphjbaaaGreatDoorProg
import Derived.Test.YtamoeblcphjbaaaGreatDoorTyCore5
import Derived.KernelRfl
set_option linter.unusedVariables false
set_option linter.unusedSimpArgs false
set_option maxRecDepth 100000
set_option maxHeartbeats 16000000
namespace Go.Proofs.YtamoeblcphjbaaaGreatDoor
open Go Go.Ab
abbrev gTa (m:List Nat)(f:Nat):Type:={F // cFn Tryz.prog m f=some F}
theorem gRa {m:List Nat}{f:Nat}{F:AFn}(g:Func)(h:cFn ⟨Tryz.progTables,Array.replicate (f+1) g⟩ m f=some F:=by
 refine (?f:?P->?P) ?h
 case h=>
  conv=>
   lhs
   cbv
 case f=>
  intro _
  kernel_rfl) (k:cFn Tryz.prog m f=some F:=by kernel_rfl):cFn Tryz.prog m f=some F:=k
def Q11:gTa [1] 11:=⟨_,gRa Tryz.f11⟩
def Q17:gTa [1] 17:=⟨_,gRa Tryz.f17⟩
def Q21:gTa [] 21:=⟨_,gRa Tryz.f21⟩
def Q26:gTa [] 26:=⟨_,gRa Tryz.f26⟩
def Q29:gTa [1] 29:=⟨_,gRa Tryz.f29⟩
def Q32:gTa [1] 32:=⟨_,gRa Tryz.f32⟩
def Q36:gTa [] 36:=⟨_,gRa Tryz.f36⟩
def Q39:gTa [1] 39:=⟨_,gRa Tryz.f39⟩
def Q42:gTa [] 42:=⟨_,gRa Tryz.f42⟩
def Q45:gTa [] 45:=⟨_,gRa Tryz.f45⟩
def Q48:gTa [2,3] 48:=⟨_,gRa Tryz.f48⟩
def Q52:gTa [] 52:=⟨_,gRa Tryz.f52⟩
def Q58:gTa [] 58:=⟨_,gRa Tryz.f58⟩
def Q61:gTa [] 61:=⟨_,gRa Tryz.f61⟩
def Q64:gTa [1] 64:=⟨_,gRa Tryz.f64⟩
def Q68:gTa [] 68:=⟨_,gRa Tryz.f68⟩
def Q71:gTa [1] 71:=⟨_,gRa Tryz.f71⟩
def Q74:gTa [1] 74:=⟨_,gRa Tryz.f74⟩
def Q78:gTa [1] 78:=⟨_,gRa Tryz.f78⟩
def Q81:gTa [1] 81:=⟨_,gRa Tryz.f81⟩
def Q86:gTa [] 86:=⟨_,gRa Tryz.f86⟩
def Q90:gTa [] 90:=⟨_,gRa Tryz.f90⟩
def Q93:gTa [] 93:=⟨_,gRa Tryz.f93⟩
def Q96:gTa [] 96:=⟨_,gRa Tryz.f96⟩
def Q99:gTa [59,1000058,1000066] 99:=⟨_,gRa Tryz.f99⟩
def VN:gTa [] 102:=⟨_,gRa Tryz.f102⟩
def VK:gTa [2,3] 106:=⟨_,gRa Tryz.f106⟩
def KE:gTa [] 121:=⟨_,gRa Tryz.f121⟩
def VI:gTa [] 124:=⟨_,gRa Tryz.f124⟩
def KC:gTa [] 127:=⟨_,gRa Tryz.f127⟩
def ek:gTa [] 130:=⟨_,gRa Tryz.f130⟩
def VF:gTa [1000044] 133:=⟨_,gRa Tryz.f133⟩
def VD:gTa [1] 136:=⟨_,gRa Tryz.f136⟩
def VA:gTa [] 139:=⟨_,gRa Tryz.f139⟩
def Ky:gTa [1] 143:=⟨_,gRa Tryz.f143⟩
def TA:gTa [] 146:=⟨_,gRa Tryz.f146⟩
def S7:gTa [] 154:=⟨_,gRa Tryz.f154⟩
def Vx:gTa [] 157:=⟨_,gRa Tryz.f157⟩
def Vv:gTa [] 160:=⟨_,gRa Tryz.f160⟩
def P4:gTa [] 163:=⟨_,gRa Tryz.f163⟩
def Kx:gTa [] 166:=⟨_,gRa Tryz.f166⟩
def Vs:gTa [] 171:=⟨_,gRa Tryz.f171⟩
def Vp:gTa [] 180:=⟨_,gRa Tryz.f180⟩
def Vo:gTa [] 189:=⟨_,gRa Tryz.f189⟩
def Vm:gTa [] 192:=⟨_,gRa Tryz.f192⟩
def S4:gTa [] 195:=⟨_,gRa Tryz.f195⟩
def Vj:gTa [2] 198:=⟨_,gRa Tryz.f198⟩
def S3:gTa [] 203:=⟨_,gRa Tryz.f203⟩
def S2:gTa [] 208:=⟨_,gRa Tryz.f208⟩
def P0:gTa [] 219:=⟨_,gRa Tryz.f219⟩
def Tv:gTa [] 224:=⟨_,gRa Tryz.f224⟩
def Tu:gTa [] 227:=⟨_,gRa Tryz.f227⟩
def Ts:gTa [2,3] 230:=⟨_,gRa Tryz.f230⟩
def Ve:gTa [] 235:=⟨_,gRa Tryz.f235⟩
def PX:gTa [] 254:=⟨_,gRa Tryz.f254⟩
def S0:gTa [2] 257:=⟨_,gRa Tryz.f257⟩
def To:gTa [] 260:=⟨_,gRa Tryz.f260⟩
def U8:gTa [] 274:=⟨_,gRa Tryz.f274⟩
def Tn:gTa [] 281:=⟨_,gRa Tryz.f281⟩
