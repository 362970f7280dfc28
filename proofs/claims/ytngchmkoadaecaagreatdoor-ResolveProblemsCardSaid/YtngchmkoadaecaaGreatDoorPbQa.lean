/- Functions of the program as the logic reads them: the elaborator reckons each. -/
import Derived.Test.YtngchmkoadaecaaGreatDoorProg
import Derived.Test.YtngchmkoadaecaaGreatDoorPbCore5
import Derived.KernelRfl
set_option linter.unusedVariables false
set_option linter.unusedSimpArgs false
set_option maxRecDepth 100000
set_option maxHeartbeats 16000000
namespace Go.Proofs.YtngchmkoadaecaaGreatDoor
open Go Go.Ab
abbrev gTa (m:List Nat)(f:Nat):Type:={F // cFn Tryz.prog m f=some F}
theorem gRa {m:List Nat}{f:Nat}{F:AFn}(g:Func)(h:cFn ⟨Tryz.progTables,Array.replicate (f+1) g⟩ m f=some F:=by
 refine (?f:?P->?P) ?h
 case h=>
  conv=>
   lhs
   cbv
 case f=>
  intro _
  kernel_rfl) (k:cFn Tryz.prog m f=some F:=by kernel_rfl):cFn Tryz.prog m f=some F:=k
def Q7:gTa [1] 7:=⟨_,gRa Tryz.f7⟩
def Q11:gTa [1] 11:=⟨_,gRa Tryz.f11⟩
def Q14:gTa [2] 14:=⟨_,gRa Tryz.f14⟩
def Q17:gTa [] 17:=⟨_,gRa Tryz.f17⟩
def Q23:gTa [] 23:=⟨_,gRa Tryz.f23⟩
def Q26:gTa [1] 26:=⟨_,gRa Tryz.f26⟩
def Q29:gTa [1000012,1000018,1000026,1000034,1000040,1000046,1000052] 29:=⟨_,gRa Tryz.f29⟩
def Q32:gTa [] 32:=⟨_,gRa Tryz.f32⟩
def Q35:gTa [2] 35:=⟨_,gRa Tryz.f35⟩
def Q39:gTa [] 39:=⟨_,gRa Tryz.f39⟩
def Q43:gTa [] 43:=⟨_,gRa Tryz.f43⟩
def Q46:gTa [] 46:=⟨_,gRa Tryz.f46⟩
def Q49:gTa [] 49:=⟨_,gRa Tryz.f49⟩
def Q52:gTa [1] 52:=⟨_,gRa Tryz.f52⟩
def Q55:gTa [2] 55:=⟨_,gRa Tryz.f55⟩
def Q58:gTa [] 58:=⟨_,gRa Tryz.f58⟩
def Q61:gTa [1] 61:=⟨_,gRa Tryz.f61⟩
def Q64:gTa [] 64:=⟨_,gRa Tryz.f64⟩
def Q67:gTa [1] 67:=⟨_,gRa Tryz.f67⟩
def Q70:gTa [1] 70:=⟨_,gRa Tryz.f70⟩
def Q73:gTa [1] 73:=⟨_,gRa Tryz.f73⟩
def Q76:gTa [2] 76:=⟨_,gRa Tryz.f76⟩
def Q79:gTa [2] 79:=⟨_,gRa Tryz.f79⟩
def Q82:gTa [1] 82:=⟨_,gRa Tryz.f82⟩
def Q85:gTa [] 85:=⟨_,gRa Tryz.f85⟩
def Q88:gTa [] 88:=⟨_,gRa Tryz.f88⟩
def Q91:gTa [] 91:=⟨_,gRa Tryz.f91⟩
def Q94:gTa [1] 94:=⟨_,gRa Tryz.f94⟩
def Q97:gTa [] 97:=⟨_,gRa Tryz.f97⟩
def VF:gTa [] 102:=⟨_,gRa Tryz.f102⟩
def VD:gTa [] 105:=⟨_,gRa Tryz.f105⟩
def Ax:gTa [1] 108:=⟨_,gRa Tryz.f108⟩
def Vz:gTa [1] 111:=⟨_,gRa Tryz.f111⟩
def S8:gTa [] 114:=⟨_,gRa Tryz.f114⟩
def S5:gTa [] 117:=⟨_,gRa Tryz.f117⟩
def S0:gTa [1] 120:=⟨_,gRa Tryz.f120⟩
def Vx:gTa [] 128:=⟨_,gRa Tryz.f128⟩
def Ki:gTa [1] 131:=⟨_,gRa Tryz.f131⟩
def Vv:gTa [1] 134:=⟨_,gRa Tryz.f134⟩
def ee:gTa [] 141:=⟨_,gRa Tryz.f141⟩
def Vr:gTa [1] 144:=⟨_,gRa Tryz.f144⟩
def Vp:gTa [] 153:=⟨_,gRa Tryz.f153⟩
def Vo:gTa [] 156:=⟨_,gRa Tryz.f156⟩
def Vl:gTa [1] 159:=⟨_,gRa Tryz.f159⟩
def Vk:gTa [2] 162:=⟨_,gRa Tryz.f162⟩
def TJ:gTa [2] 165:=⟨_,gRa Tryz.f165⟩
def SW:gTa [] 173:=⟨_,gRa Tryz.f173⟩
def Vg:gTa [] 176:=⟨_,gRa Tryz.f176⟩
def Vf:gTa [1] 179:=⟨_,gRa Tryz.f179⟩
def Vc:gTa [1] 182:=⟨_,gRa Tryz.f182⟩
def Vb:gTa [] 187:=⟨_,gRa Tryz.f187⟩
def U9:gTa [2] 190:=⟨_,gRa Tryz.f190⟩
def U7:gTa [] 195:=⟨_,gRa Tryz.f195⟩
def U4:gTa [] 198:=⟨_,gRa Tryz.f198⟩
