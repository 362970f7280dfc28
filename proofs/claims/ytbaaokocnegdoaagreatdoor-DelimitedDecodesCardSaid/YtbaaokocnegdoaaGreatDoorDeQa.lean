/- Functions of the program as the logic reads them: the elaborator reckons each. -/
import Derived.Test.YtbaaokocnegdoaaGreatDoorProg
import Derived.Test.YtbaaokocnegdoaaGreatDoorDeCore5
import Derived.KernelRfl
set_option linter.unusedVariables false
set_option linter.unusedSimpArgs false
set_option maxRecDepth 100000
set_option maxHeartbeats 16000000
namespace Go.Proofs.YtbaaokocnegdoaaGreatDoor
open Go Go.Ab
abbrev gTa (m:List Nat)(f:Nat):Type:={F // cFn Tryz.prog m f=some F}
theorem gRa {m:List Nat}{f:Nat}{F:AFn}(g:Func)(h:cFn ⟨Tryz.progTables,Array.replicate (f+1) g⟩ m f=some F:=by
 refine (?f:?P->?P) ?h
 case h=>
  conv=>
   lhs
   cbv
 case f=>
  intro _
  kernel_rfl) (k:cFn Tryz.prog m f=some F:=by kernel_rfl):cFn Tryz.prog m f=some F:=k
def Q6:gTa [] 6:=⟨_,gRa Tryz.f6⟩
def Q13:gTa [] 13:=⟨_,gRa Tryz.f13⟩
def Q18:gTa [] 18:=⟨_,gRa Tryz.f18⟩
def Q23:gTa [3] 23:=⟨_,gRa Tryz.f23⟩
def Q31:gTa [] 31:=⟨_,gRa Tryz.f31⟩
def Q34:gTa [] 34:=⟨_,gRa Tryz.f34⟩
def Q37:gTa [2,3] 37:=⟨_,gRa Tryz.f37⟩
def Q42:gTa [] 42:=⟨_,gRa Tryz.f42⟩
def Q47:gTa [] 47:=⟨_,gRa Tryz.f47⟩
def Q51:gTa [1] 51:=⟨_,gRa Tryz.f51⟩
def Q60:gTa [3] 60:=⟨_,gRa Tryz.f60⟩
def Q66:gTa [14] 66:=⟨_,gRa Tryz.f66⟩
def Q73:gTa [] 73:=⟨_,gRa Tryz.f73⟩
def Q76:gTa [] 76:=⟨_,gRa Tryz.f76⟩
def Q79:gTa [2] 79:=⟨_,gRa Tryz.f79⟩
def Q82:gTa [] 82:=⟨_,gRa Tryz.f82⟩
def Q86:gTa [] 86:=⟨_,gRa Tryz.f86⟩
def Q96:gTa [] 96:=⟨_,gRa Tryz.f96⟩
def Q99:gTa [1] 99:=⟨_,gRa Tryz.f99⟩
def Ui:gTa [] 103:=⟨_,gRa Tryz.f103⟩
def K7:gTa [2] 110:=⟨_,gRa Tryz.f110⟩
def K6:gTa [] 120:=⟨_,gRa Tryz.f120⟩
def RX:gTa [] 126:=⟨_,gRa Tryz.f126⟩
def Sm:gTa [] 129:=⟨_,gRa Tryz.f129⟩
def Sk:gTa [] 132:=⟨_,gRa Tryz.f132⟩
def Ug:gTa [] 137:=⟨_,gRa Tryz.f137⟩
def Pa:gTa [2,3] 145:=⟨_,gRa Tryz.f145⟩
def O9:gTa [1] 148:=⟨_,gRa Tryz.f148⟩
def K2:gTa [] 151:=⟨_,gRa Tryz.f151⟩
def O7:gTa [] 155:=⟨_,gRa Tryz.f155⟩
def RV:gTa [] 161:=⟨_,gRa Tryz.f161⟩
def K0:gTa [] 176:=⟨_,gRa Tryz.f176⟩
def Uc:gTa [] 179:=⟨_,gRa Tryz.f179⟩
def RU:gTa [] 188:=⟨_,gRa Tryz.f188⟩
def Ub:gTa [1] 192:=⟨_,gRa Tryz.f192⟩
def RS:gTa [] 195:=⟨_,gRa Tryz.f195⟩
def O3:gTa [] 198:=⟨_,gRa Tryz.f198⟩
def gE:gTa [2,3] 202:=⟨_,gRa Tryz.f202⟩
def KZ:gTa [] 209:=⟨_,gRa Tryz.f209⟩
def OW:gTa [] 233:=⟨_,gRa Tryz.f233⟩
def FD:gTa [] 241:=⟨_,gRa Tryz.f241⟩
def T4:gTa [1] 244:=⟨_,gRa Tryz.f244⟩
def Sf:gTa [2,3] 247:=⟨_,gRa Tryz.f247⟩
def T2:gTa [1] 250:=⟨_,gRa Tryz.f250⟩
def TZ:gTa [2,3] 253:=⟨_,gRa Tryz.f253⟩
def TX:gTa [1] 270:=⟨_,gRa Tryz.f270⟩
def RO:gTa [1] 273:=⟨_,gRa Tryz.f273⟩
def TT:gTa [1] 276:=⟨_,gRa Tryz.f276⟩
def OV:gTa [1] 279:=⟨_,gRa Tryz.f279⟩
def RM:gTa [2] 284:=⟨_,gRa Tryz.f284⟩
def TN:gTa [1] 287:=⟨_,gRa Tryz.f287⟩
def TM:gTa [2] 290:=⟨_,gRa Tryz.f290⟩
def TK:gTa [] 296:=⟨_,gRa Tryz.f296⟩
def OC:gTa [1] 58:=⟨_,gRa Tryz.f58⟩
def OA:gTa [2] 191:=⟨_,gRa Tryz.f191⟩
end Go.Proofs.YtbaaokocnegdoaaGreatDoor
