/- Functions of the program as the logic reads them: the elaborator reckons each. -/
import Derived.Test.YtbaaokocnegdoaaGreatDoorProg
import Derived.Test.YtbaaokocnegdoaaGreatDoorEnCore5
import Derived.KernelRfl
set_option linter.unusedVariables false
set_option linter.unusedSimpArgs false
set_option maxRecDepth 100000
set_option maxHeartbeats 16000000
namespace Go.Proofs.YtbaaokocnegdoaaGreatDoor
open Go Go.Ab
abbrev gTa (m:List Nat)(f:Nat):Type:={F // cFn Tryz.prog m f=some F}
theorem gRa {m:List Nat}{f:Nat}{F:AFn}(g:Func)(h:cFn ⟨Tryz.progTables,Array.replicate (f+1) g⟩ m f=some F:=by
 refine (?f:?P->?P) ?h
 case h=>
  conv=>
   lhs
   cbv
 case f=>
  intro _
  kernel_rfl) (k:cFn Tryz.prog m f=some F:=by kernel_rfl):cFn Tryz.prog m f=some F:=k
def Q5:gTa [] 5:=⟨_,gRa Tryz.f5⟩
def Q15:gTa [2,3] 15:=⟨_,gRa Tryz.f15⟩
def Q18:gTa [] 18:=⟨_,gRa Tryz.f18⟩
def Q21:gTa [] 21:=⟨_,gRa Tryz.f21⟩
def Q24:gTa [3,4] 24:=⟨_,gRa Tryz.f24⟩
def Q31:gTa [] 31:=⟨_,gRa Tryz.f31⟩
def Q34:gTa [] 34:=⟨_,gRa Tryz.f34⟩
def Q37:gTa [2,3] 37:=⟨_,gRa Tryz.f37⟩
def Q42:gTa [] 42:=⟨_,gRa Tryz.f42⟩
def Q45:gTa [] 45:=⟨_,gRa Tryz.f45⟩
def Q49:gTa [1] 49:=⟨_,gRa Tryz.f49⟩
def Q52:gTa [2] 52:=⟨_,gRa Tryz.f52⟩
def Q55:gTa [2,3] 55:=⟨_,gRa Tryz.f55⟩
def Q64:gTa [3,4] 64:=⟨_,gRa Tryz.f64⟩
def Q68:gTa [] 68:=⟨_,gRa Tryz.f68⟩
def Q71:gTa [] 71:=⟨_,gRa Tryz.f71⟩
def Q75:gTa [] 75:=⟨_,gRa Tryz.f75⟩
def Q78:gTa [] 78:=⟨_,gRa Tryz.f78⟩
def Q85:gTa [] 85:=⟨_,gRa Tryz.f85⟩
def Q91:gTa [] 91:=⟨_,gRa Tryz.f91⟩
def Q95:gTa [] 95:=⟨_,gRa Tryz.f95⟩
def Q98:gTa [3] 98:=⟨_,gRa Tryz.f98⟩
def AZ:gTa [] 102:=⟨_,gRa Tryz.f102⟩
def Ur:gTa [] 105:=⟨_,gRa Tryz.f105⟩
def w8:gTa [] 108:=⟨_,gRa Tryz.f108⟩
def RQ:gTa [] 111:=⟨_,gRa Tryz.f111⟩
def Sf:gTa [] 118:=⟨_,gRa Tryz.f118⟩
def Od:gTa [] 125:=⟨_,gRa Tryz.f125⟩
def OU:gTa [] 128:=⟨_,gRa Tryz.f128⟩
def Oa:gTa [5] 131:=⟨_,gRa Tryz.f131⟩
def OT:gTa [2,3] 134:=⟨_,gRa Tryz.f134⟩
def FO:gTa [] 144:=⟨_,gRa Tryz.f144⟩
def KR:gTa [] 147:=⟨_,gRa Tryz.f147⟩
def N9:gTa [1] 150:=⟨_,gRa Tryz.f150⟩
def Sb:gTa [] 154:=⟨_,gRa Tryz.f154⟩
def Ul:gTa [] 157:=⟨_,gRa Tryz.f157⟩
def Uj:gTa [] 160:=⟨_,gRa Tryz.f160⟩
def KP:gTa [] 169:=⟨_,gRa Tryz.f169⟩
def Ui:gTa [] 178:=⟨_,gRa Tryz.f178⟩
def RL:gTa [2] 181:=⟨_,gRa Tryz.f181⟩
def RJ:gTa [] 188:=⟨_,gRa Tryz.f188⟩
def Ug:gTa [1] 192:=⟨_,gRa Tryz.f192⟩
def RH:gTa [] 195:=⟨_,gRa Tryz.f195⟩
def OL:gTa [] 198:=⟨_,gRa Tryz.f198⟩
def ia:gTa [2,3] 202:=⟨_,gRa Tryz.f202⟩
def KN:gTa [] 209:=⟨_,gRa Tryz.f209⟩
def OG:gTa [] 233:=⟨_,gRa Tryz.f233⟩
def FM:gTa [] 241:=⟨_,gRa Tryz.f241⟩
def T9:gTa [1] 244:=⟨_,gRa Tryz.f244⟩
def R7:gTa [2,3] 247:=⟨_,gRa Tryz.f247⟩
def T7:gTa [1] 250:=⟨_,gRa Tryz.f250⟩
def T5:gTa [2,3] 253:=⟨_,gRa Tryz.f253⟩
def T3:gTa [1] 270:=⟨_,gRa Tryz.f270⟩
def RD:gTa [1] 273:=⟨_,gRa Tryz.f273⟩
def TY:gTa [1] 276:=⟨_,gRa Tryz.f276⟩
def OF:gTa [1] 279:=⟨_,gRa Tryz.f279⟩
def RB:gTa [2] 284:=⟨_,gRa Tryz.f284⟩
def TS:gTa [1] 287:=⟨_,gRa Tryz.f287⟩
def TR:gTa [2] 290:=⟨_,gRa Tryz.f290⟩
def TP:gTa [] 296:=⟨_,gRa Tryz.f296⟩
def Oh:gTa [1] 58:=⟨_,gRa Tryz.f58⟩
def Of:gTa [2] 191:=⟨_,gRa Tryz.f191⟩
