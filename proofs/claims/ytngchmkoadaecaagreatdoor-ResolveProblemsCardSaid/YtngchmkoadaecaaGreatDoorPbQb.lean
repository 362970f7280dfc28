/- Functions of the program as the logic reads them: the elaborator reckons each. -/
import Derived.Test.YtngchmkoadaecaaGreatDoorProg
import Derived.Test.YtngchmkoadaecaaGreatDoorPbCore5
import Derived.KernelRfl
set_option linter.unusedVariables false
set_option linter.unusedSimpArgs false
set_option maxRecDepth 100000
set_option maxHeartbeats 16000000
namespace Go.Proofs.YtngchmkoadaecaaGreatDoor
open Go Go.Ab
abbrev gTb (m:List Nat)(f:Nat):Type:={F // cFn Tryz.prog m f=some F}
theorem gRb {m:List Nat}{f:Nat}{F:AFn}(g:Func)(h:cFn ⟨Tryz.progTables,Array.replicate (f+1) g⟩ m f=some F:=by
 refine (?f:?P->?P) ?h
 case h=>
  conv=>
   lhs
   cbv
 case f=>
  intro _
  kernel_rfl) (k:cFn Tryz.prog m f=some F:=by kernel_rfl):cFn Tryz.prog m f=some F:=k
def Q3:gTb [] 3:=⟨_,gRb Tryz.f3⟩
def Q9:gTb [1] 9:=⟨_,gRb Tryz.f9⟩
def Q12:gTb [1] 12:=⟨_,gRb Tryz.f12⟩
def Q15:gTb [2] 15:=⟨_,gRb Tryz.f15⟩
def Q18:gTb [] 18:=⟨_,gRb Tryz.f18⟩
def Q24:gTb [] 24:=⟨_,gRb Tryz.f24⟩
def Q27:gTb [3] 27:=⟨_,gRb Tryz.f27⟩
def Q30:gTb [2,3] 30:=⟨_,gRb Tryz.f30⟩
def Q33:gTb [] 33:=⟨_,gRb Tryz.f33⟩
def Q36:gTb [7] 36:=⟨_,gRb Tryz.f36⟩
def Q40:gTb [] 40:=⟨_,gRb Tryz.f40⟩
def Q44:gTb [] 44:=⟨_,gRb Tryz.f44⟩
def Q47:gTb [2,3] 47:=⟨_,gRb Tryz.f47⟩
def Q50:gTb [1] 50:=⟨_,gRb Tryz.f50⟩
def Q53:gTb [] 53:=⟨_,gRb Tryz.f53⟩
def Q56:gTb [] 56:=⟨_,gRb Tryz.f56⟩
def Q59:gTb [] 59:=⟨_,gRb Tryz.f59⟩
def Q62:gTb [] 62:=⟨_,gRb Tryz.f62⟩
def Q65:gTb [1] 65:=⟨_,gRb Tryz.f65⟩
def Q68:gTb [1] 68:=⟨_,gRb Tryz.f68⟩
def Q71:gTb [1] 71:=⟨_,gRb Tryz.f71⟩
def Q74:gTb [1] 74:=⟨_,gRb Tryz.f74⟩
def Q77:gTb [1] 77:=⟨_,gRb Tryz.f77⟩
def Q80:gTb [1] 80:=⟨_,gRb Tryz.f80⟩
def Q83:gTb [] 83:=⟨_,gRb Tryz.f83⟩
def Q86:gTb [] 86:=⟨_,gRb Tryz.f86⟩
def Q89:gTb [4,5] 89:=⟨_,gRb Tryz.f89⟩
def Q92:gTb [1] 92:=⟨_,gRb Tryz.f92⟩
def Q95:gTb [] 95:=⟨_,gRb Tryz.f95⟩
def Q98:gTb [] 98:=⟨_,gRb Tryz.f98⟩
def VE:gTb [] 103:=⟨_,gRb Tryz.f103⟩
def VC:gTb [] 106:=⟨_,gRb Tryz.f106⟩
def VA:gTb [2,3] 109:=⟨_,gRb Tryz.f109⟩
def S9:gTb [] 112:=⟨_,gRb Tryz.f112⟩
def S7:gTb [1] 115:=⟨_,gRb Tryz.f115⟩
def S4:gTb [] 118:=⟨_,gRb Tryz.f118⟩
def SZ:gTb [] 121:=⟨_,gRb Tryz.f121⟩
def Vw:gTb [2] 129:=⟨_,gRb Tryz.f129⟩
def PM:gTb [2,3] 132:=⟨_,gRb Tryz.f132⟩
def Vu:gTb [] 139:=⟨_,gRb Tryz.f139⟩
def PL:gTb [1] 142:=⟨_,gRb Tryz.f142⟩
def gC:gTb [2,3] 145:=⟨_,gRb Tryz.f145⟩
def Lb:gTb [] 154:=⟨_,gRb Tryz.f154⟩
def Vn:gTb [1] 157:=⟨_,gRb Tryz.f157⟩
def TM:gTb [] 160:=⟨_,gRb Tryz.f160⟩
def TK:gTb [2,3] 163:=⟨_,gRb Tryz.f163⟩
def PK:gTb [] 171:=⟨_,gRb Tryz.f171⟩
def Vi:gTb [1] 174:=⟨_,gRb Tryz.f174⟩
def SV:gTb [1] 177:=⟨_,gRb Tryz.f177⟩
def Ve:gTb [1] 180:=⟨_,gRb Tryz.f180⟩
def PJ:gTb [1] 183:=⟨_,gRb Tryz.f183⟩
def Va:gTb [] 188:=⟨_,gRb Tryz.f188⟩
def U8:gTb [2,3] 191:=⟨_,gRb Tryz.f191⟩
def U6:gTb [] 196:=⟨_,gRb Tryz.f196⟩
def TH:gTb [] 199:=⟨_,gRb Tryz.f199⟩
