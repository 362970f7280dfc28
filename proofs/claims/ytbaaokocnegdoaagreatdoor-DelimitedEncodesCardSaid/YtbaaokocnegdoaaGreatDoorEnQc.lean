/- Functions of the program as the logic reads them: the elaborator reckons each. -/
import Derived.Test.YtbaaokocnegdoaaGreatDoorProg
import Derived.Test.YtbaaokocnegdoaaGreatDoorEnCore5
import Derived.KernelRfl
set_option linter.unusedVariables false
set_option linter.unusedSimpArgs false
set_option maxRecDepth 100000
set_option maxHeartbeats 16000000
namespace Go.Proofs.YtbaaokocnegdoaaGreatDoor
open Go Go.Ab
abbrev gTc (m:List Nat)(f:Nat):Type:={F // cFn Tryz.prog m f=some F}
theorem gRc {m:List Nat}{f:Nat}{F:AFn}(g:Func)(h:cFn ⟨Tryz.progTables,Array.replicate (f+1) g⟩ m f=some F:=by
 refine (?f:?P->?P) ?h
 case h=>
  conv=>
   lhs
   cbv
 case f=>
  intro _
  kernel_rfl) (k:cFn Tryz.prog m f=some F:=by kernel_rfl):cFn Tryz.prog m f=some F:=k
def Q12:gTc [] 12:=⟨_,gRc Tryz.f12⟩
def Q17:gTc [] 17:=⟨_,gRc Tryz.f17⟩
def Q20:gTc [] 20:=⟨_,gRc Tryz.f20⟩
def Q27:gTc [] 27:=⟨_,gRc Tryz.f27⟩
def Q33:gTc [44] 33:=⟨_,gRc Tryz.f33⟩
def Q36:gTc [] 36:=⟨_,gRc Tryz.f36⟩
def Q41:gTc [] 41:=⟨_,gRc Tryz.f41⟩
def Q44:gTc [] 44:=⟨_,gRc Tryz.f44⟩
def Q47:gTc [] 47:=⟨_,gRc Tryz.f47⟩
def Q51:gTc [1] 51:=⟨_,gRc Tryz.f51⟩
def Q54:gTc [2] 54:=⟨_,gRc Tryz.f54⟩
def Q57:gTc [24] 57:=⟨_,gRc Tryz.f57⟩
def Q62:gTc [] 62:=⟨_,gRc Tryz.f62⟩
def Q66:gTc [14] 66:=⟨_,gRc Tryz.f66⟩
def Q70:gTc [] 70:=⟨_,gRc Tryz.f70⟩
def Q74:gTc [] 74:=⟨_,gRc Tryz.f74⟩
def Q77:gTc [] 77:=⟨_,gRc Tryz.f77⟩
def Q80:gTc [5,6] 80:=⟨_,gRc Tryz.f80⟩
def Q88:gTc [] 88:=⟨_,gRc Tryz.f88⟩
def Q93:gTc [] 93:=⟨_,gRc Tryz.f93⟩
def Q97:gTc [1] 97:=⟨_,gRc Tryz.f97⟩
def RS:gTc [2,3] 100:=⟨_,gRc Tryz.f100⟩
def Us:gTc [] 104:=⟨_,gRc Tryz.f104⟩
def Sg:gTc [] 107:=⟨_,gRc Tryz.f107⟩
def KU:gTc [2] 110:=⟨_,gRc Tryz.f110⟩
def Uo:gTc [2] 117:=⟨_,gRc Tryz.f117⟩
def JJ:gTc [] 124:=⟨_,gRc Tryz.f124⟩
def Oc:gTc [] 127:=⟨_,gRc Tryz.f127⟩
def Ob:gTc [1] 130:=⟨_,gRc Tryz.f130⟩
def RO:gTc [5,6] 133:=⟨_,gRc Tryz.f133⟩
def KS:gTc [] 143:=⟨_,gRc Tryz.f143⟩
def JI:gTc [] 146:=⟨_,gRc Tryz.f146⟩
def OQ:gTc [2,3] 149:=⟨_,gRc Tryz.f149⟩
def RN:gTc [2] 152:=⟨_,gRc Tryz.f152⟩
def Um:gTc [] 156:=⟨_,gRc Tryz.f156⟩
def Uk:gTc [] 159:=⟨_,gRc Tryz.f159⟩
def m4:gTc [] 165:=⟨_,gRc Tryz.f165⟩
def N8:gTc [] 177:=⟨_,gRc Tryz.f177⟩
def OO:gTc [] 180:=⟨_,gRc Tryz.f180⟩
def N7:gTc [] 187:=⟨_,gRc Tryz.f187⟩
def ON:gTc [1] 190:=⟨_,gRc Tryz.f190⟩
def Uf:gTc [1] 194:=⟨_,gRc Tryz.f194⟩
def OM:gTc [1] 197:=⟨_,gRc Tryz.f197⟩
def OJ:gTc [1] 200:=⟨_,gRc Tryz.f200⟩
def R9:gTc [] 208:=⟨_,gRc Tryz.f208⟩
def OH:gTc [] 222:=⟨_,gRc Tryz.f222⟩
def FN:gTc [] 240:=⟨_,gRc Tryz.f240⟩
def Ua:gTc [1] 243:=⟨_,gRc Tryz.f243⟩
def T8:gTc [2] 246:=⟨_,gRc Tryz.f246⟩
def RF:gTc [] 249:=⟨_,gRc Tryz.f249⟩
def T6:gTc [2] 252:=⟨_,gRc Tryz.f252⟩
def RE:gTc [] 269:=⟨_,gRc Tryz.f269⟩
def T1:gTc [] 272:=⟨_,gRc Tryz.f272⟩
def TZ:gTc [1] 275:=⟨_,gRc Tryz.f275⟩
def TW:gTc [1] 278:=⟨_,gRc Tryz.f278⟩
def TV:gTc [] 283:=⟨_,gRc Tryz.f283⟩
def TT:gTc [1] 286:=⟨_,gRc Tryz.f286⟩
def OE:gTc [] 289:=⟨_,gRc Tryz.f289⟩
def TQ:gTc [] 295:=⟨_,gRc Tryz.f295⟩
def FP:gTc [1] 48:=⟨_,gRc Tryz.f48⟩
def km:gTc [3] 94:=⟨_,gRc Tryz.f94⟩
