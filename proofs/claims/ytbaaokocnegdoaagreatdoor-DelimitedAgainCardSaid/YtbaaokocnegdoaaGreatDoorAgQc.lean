/- Functions of the program as the logic reads them: the elaborator reckons each. -/
import Derived.Test.YtbaaokocnegdoaaGreatDoorProg
import Derived.Test.YtbaaokocnegdoaaGreatDoorAgCore5
import Derived.KernelRfl
set_option linter.unusedVariables false
set_option linter.unusedSimpArgs false
set_option maxRecDepth 100000
set_option maxHeartbeats 16000000
namespace Go.Proofs.YtbaaokocnegdoaaGreatDoor
open Go Go.Ab
abbrev gTc (m:List Nat)(f:Nat):Type:={F // cFn Tryz.prog m f=some F}
theorem gRc {m:List Nat}{f:Nat}{F:AFn}(g:Func)(h:cFn ⟨Tryz.progTables,Array.replicate (f+1) g⟩ m f=some F:=by
 refine (?f:?P->?P) ?h
 case h=>
  conv=>
   lhs
   cbv
 case f=>
  intro _
  kernel_rfl) (k:cFn Tryz.prog m f=some F:=by kernel_rfl):cFn Tryz.prog m f=some F:=k
def Q12:gTc [] 12:=⟨_,gRc Tryz.f12⟩
def Q17:gTc [] 17:=⟨_,gRc Tryz.f17⟩
def Q22:gTc [3] 22:=⟨_,gRc Tryz.f22⟩
def Q26:gTc [] 26:=⟨_,gRc Tryz.f26⟩
def Q33:gTc [44] 33:=⟨_,gRc Tryz.f33⟩
def Q36:gTc [] 36:=⟨_,gRc Tryz.f36⟩
def Q42:gTc [] 42:=⟨_,gRc Tryz.f42⟩
def Q45:gTc [] 45:=⟨_,gRc Tryz.f45⟩
def Q49:gTc [1] 49:=⟨_,gRc Tryz.f49⟩
def Q57:gTc [24] 57:=⟨_,gRc Tryz.f57⟩
def Q62:gTc [] 62:=⟨_,gRc Tryz.f62⟩
def Q66:gTc [14] 66:=⟨_,gRc Tryz.f66⟩
def Q73:gTc [] 73:=⟨_,gRc Tryz.f73⟩
def Q76:gTc [] 76:=⟨_,gRc Tryz.f76⟩
def Q79:gTc [2] 79:=⟨_,gRc Tryz.f79⟩
def Q86:gTc [] 86:=⟨_,gRc Tryz.f86⟩
def Q92:gTc [] 92:=⟨_,gRc Tryz.f92⟩
def Q96:gTc [] 96:=⟨_,gRc Tryz.f96⟩
def wm:gTc [] 108:=⟨_,gRc Tryz.f108⟩
def Rm:gTc [] 111:=⟨_,gRc Tryz.f111⟩
def RJ:gTc [] 118:=⟨_,gRc Tryz.f118⟩
def N1:gTc [] 125:=⟨_,gRc Tryz.f125⟩
def Ov:gTc [] 128:=⟨_,gRc Tryz.f128⟩
def NY:gTc [5] 131:=⟨_,gRc Tryz.f131⟩
def Ou:gTc [2,3] 134:=⟨_,gRc Tryz.f134⟩
def Ot:gTc [2,3] 145:=⟨_,gRc Tryz.f145⟩
def KI:gTc [] 151:=⟨_,gRc Tryz.f151⟩
def Ty:gTc [] 160:=⟨_,gRc Tryz.f160⟩
def KH:gTc [] 169:=⟨_,gRc Tryz.f169⟩
def Tw:gTc [] 178:=⟨_,gRc Tryz.f178⟩
def Rh:gTc [2] 181:=⟨_,gRc Tryz.f181⟩
def Rf:gTc [] 189:=⟨_,gRc Tryz.f189⟩
def go:gTc [2,3] 193:=⟨_,gRc Tryz.f193⟩
def On:gTc [] 221:=⟨_,gRc Tryz.f221⟩
def Fv:gTc [] 240:=⟨_,gRc Tryz.f240⟩
def Tp:gTc [1] 243:=⟨_,gRc Tryz.f243⟩
def Tn:gTc [2] 246:=⟨_,gRc Tryz.f246⟩
def Tm:gTc [1] 268:=⟨_,gRc Tryz.f268⟩
def Tj:gTc [1] 271:=⟨_,gRc Tryz.f271⟩
def RE:gTc [] 274:=⟨_,gRc Tryz.f274⟩
def Tf:gTc [1] 277:=⟨_,gRc Tryz.f277⟩
def Rb:gTc [1] 280:=⟨_,gRc Tryz.f280⟩
def Tb:gTc [2] 285:=⟨_,gRc Tryz.f285⟩
def S9:gTc [] 296:=⟨_,gRc Tryz.f296⟩
def N4:gTc [1] 58:=⟨_,gRc Tryz.f58⟩
def N2:gTc [2] 191:=⟨_,gRc Tryz.f191⟩
end Go.Proofs.YtbaaokocnegdoaaGreatDoor
