/- Functions of the program as the logic reads them: the elaborator reckons each. -/
import Derived.Test.YtbaaokocnegdoaaGreatDoorProg
import Derived.Test.YtbaaokocnegdoaaGreatDoorDeCore5
import Derived.KernelRfl
set_option linter.unusedVariables false
set_option linter.unusedSimpArgs false
set_option maxRecDepth 100000
set_option maxHeartbeats 16000000
namespace Go.Proofs.YtbaaokocnegdoaaGreatDoor
open Go Go.Ab
abbrev gTc (m:List Nat)(f:Nat):Type:={F // cFn Tryz.prog m f=some F}
theorem gRc {m:List Nat}{f:Nat}{F:AFn}(g:Func)(h:cFn ⟨Tryz.progTables,Array.replicate (f+1) g⟩ m f=some F:=by
 refine (?f:?P->?P) ?h
 case h=>
  conv=>
   lhs
   cbv
 case f=>
  intro _
  kernel_rfl) (k:cFn Tryz.prog m f=some F:=by kernel_rfl):cFn Tryz.prog m f=some F:=k
def Q12:gTc [] 12:=⟨_,gRc Tryz.f12⟩
def Q17:gTc [] 17:=⟨_,gRc Tryz.f17⟩
def Q22:gTc [3] 22:=⟨_,gRc Tryz.f22⟩
def Q30:gTc [] 30:=⟨_,gRc Tryz.f30⟩
def Q33:gTc [44] 33:=⟨_,gRc Tryz.f33⟩
def Q36:gTc [] 36:=⟨_,gRc Tryz.f36⟩
def Q39:gTc [] 39:=⟨_,gRc Tryz.f39⟩
def Q44:gTc [] 44:=⟨_,gRc Tryz.f44⟩
def Q50:gTc [] 50:=⟨_,gRc Tryz.f50⟩
def Q57:gTc [24] 57:=⟨_,gRc Tryz.f57⟩
def Q62:gTc [] 62:=⟨_,gRc Tryz.f62⟩
def Q71:gTc [] 71:=⟨_,gRc Tryz.f71⟩
def Q75:gTc [] 75:=⟨_,gRc Tryz.f75⟩
def Q78:gTc [] 78:=⟨_,gRc Tryz.f78⟩
def Q81:gTc [] 81:=⟨_,gRc Tryz.f81⟩
def Q84:gTc [] 84:=⟨_,gRc Tryz.f84⟩
def Q95:gTc [] 95:=⟨_,gRc Tryz.f95⟩
def Q98:gTc [3] 98:=⟨_,gRc Tryz.f98⟩
def Av:gTc [] 102:=⟨_,gRc Tryz.f102⟩
def RZ:gTc [] 109:=⟨_,gRc Tryz.f109⟩
def Uh:gTc [] 115:=⟨_,gRc Tryz.f115⟩
def Oy:gTc [] 125:=⟨_,gRc Tryz.f125⟩
def Pb:gTc [] 128:=⟨_,gRc Tryz.f128⟩
def Ov:gTc [5] 131:=⟨_,gRc Tryz.f131⟩
def K5:gTc [] 136:=⟨_,gRc Tryz.f136⟩
def FG:gTc [] 144:=⟨_,gRc Tryz.f144⟩
def K3:gTc [] 147:=⟨_,gRc Tryz.f147⟩
def Ou:gTc [1] 150:=⟨_,gRc Tryz.f150⟩
def Si:gTc [] 154:=⟨_,gRc Tryz.f154⟩
def Ue:gTc [] 160:=⟨_,gRc Tryz.f160⟩
def K1:gTc [] 169:=⟨_,gRc Tryz.f169⟩
def Ud:gTc [] 178:=⟨_,gRc Tryz.f178⟩
def Oq:gTc [] 187:=⟨_,gRc Tryz.f187⟩
def O5:gTc [1] 190:=⟨_,gRc Tryz.f190⟩
def Ua:gTc [1] 194:=⟨_,gRc Tryz.f194⟩
def O4:gTc [1] 197:=⟨_,gRc Tryz.f197⟩
def OZ:gTc [1] 200:=⟨_,gRc Tryz.f200⟩
def Sh:gTc [] 208:=⟨_,gRc Tryz.f208⟩
def OX:gTc [] 222:=⟨_,gRc Tryz.f222⟩
def FE:gTc [] 240:=⟨_,gRc Tryz.f240⟩
def T5:gTc [1] 243:=⟨_,gRc Tryz.f243⟩
def T3:gTc [2] 246:=⟨_,gRc Tryz.f246⟩
def RQ:gTc [] 249:=⟨_,gRc Tryz.f249⟩
def T1:gTc [2] 252:=⟨_,gRc Tryz.f252⟩
def RP:gTc [] 269:=⟨_,gRc Tryz.f269⟩
def TV:gTc [] 272:=⟨_,gRc Tryz.f272⟩
def TU:gTc [1] 275:=⟨_,gRc Tryz.f275⟩
def TR:gTc [1] 278:=⟨_,gRc Tryz.f278⟩
def TQ:gTc [] 283:=⟨_,gRc Tryz.f283⟩
def TO:gTc [1] 286:=⟨_,gRc Tryz.f286⟩
def OU:gTc [] 289:=⟨_,gRc Tryz.f289⟩
def TL:gTc [] 295:=⟨_,gRc Tryz.f295⟩
def FH:gTc [1] 48:=⟨_,gRc Tryz.f48⟩
def jL:gTc [3] 94:=⟨_,gRc Tryz.f94⟩
end Go.Proofs.YtbaaokocnegdoaaGreatDoor
