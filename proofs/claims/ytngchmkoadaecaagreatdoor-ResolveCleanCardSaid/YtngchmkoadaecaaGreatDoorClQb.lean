/- Functions of the program as the logic reads them: the elaborator reckons each. -/
import Derived.Test.YtngchmkoadaecaaGreatDoorProg
import Derived.Test.YtngchmkoadaecaaGreatDoorClCore5
import Derived.KernelRfl
set_option linter.unusedVariables false
set_option linter.unusedSimpArgs false
set_option maxRecDepth 100000
set_option maxHeartbeats 16000000
namespace Go.Proofs.YtngchmkoadaecaaGreatDoor
open Go Go.Ab
abbrev gTb (m:List Nat)(f:Nat):Type:={F // cFn Tryz.prog m f=some F}
theorem gRb {m:List Nat}{f:Nat}{F:AFn}(g:Func)(h:cFn ⟨Tryz.progTables,Array.replicate (f+1) g⟩ m f=some F:=by
 refine (?f:?P->?P) ?h
 case h=>
  conv=>
   lhs
   cbv
 case f=>
  intro _
  kernel_rfl) (k:cFn Tryz.prog m f=some F:=by kernel_rfl):cFn Tryz.prog m f=some F:=k
def Q5:gTb [1] 5:=⟨_,gRb Tryz.f5⟩
def Q11:gTb [1] 11:=⟨_,gRb Tryz.f11⟩
def Q14:gTb [2] 14:=⟨_,gRb Tryz.f14⟩
def Q17:gTb [] 17:=⟨_,gRb Tryz.f17⟩
def Q24:gTb [] 24:=⟨_,gRb Tryz.f24⟩
def Q27:gTb [3] 27:=⟨_,gRb Tryz.f27⟩
def Q30:gTb [2,3] 30:=⟨_,gRb Tryz.f30⟩
def Q33:gTb [] 33:=⟨_,gRb Tryz.f33⟩
def Q36:gTb [7] 36:=⟨_,gRb Tryz.f36⟩
def Q44:gTb [] 44:=⟨_,gRb Tryz.f44⟩
def Q47:gTb [2,3] 47:=⟨_,gRb Tryz.f47⟩
def Q50:gTb [1] 50:=⟨_,gRb Tryz.f50⟩
def Q53:gTb [] 53:=⟨_,gRb Tryz.f53⟩
def Q56:gTb [] 56:=⟨_,gRb Tryz.f56⟩
def Q59:gTb [] 59:=⟨_,gRb Tryz.f59⟩
def Q62:gTb [] 62:=⟨_,gRb Tryz.f62⟩
def Q65:gTb [1] 65:=⟨_,gRb Tryz.f65⟩
def Q68:gTb [1] 68:=⟨_,gRb Tryz.f68⟩
def Q71:gTb [1] 71:=⟨_,gRb Tryz.f71⟩
def Q74:gTb [1] 74:=⟨_,gRb Tryz.f74⟩
def Q77:gTb [1] 77:=⟨_,gRb Tryz.f77⟩
def Q80:gTb [1] 80:=⟨_,gRb Tryz.f80⟩
def Q83:gTb [] 83:=⟨_,gRb Tryz.f83⟩
def Q86:gTb [] 86:=⟨_,gRb Tryz.f86⟩
def Q89:gTb [4,5] 89:=⟨_,gRb Tryz.f89⟩
def Q92:gTb [1] 92:=⟨_,gRb Tryz.f92⟩
def Q97:gTb [] 97:=⟨_,gRb Tryz.f97⟩
def Ta:gTb [] 102:=⟨_,gRb Tryz.f102⟩
def S8:gTb [] 105:=⟨_,gRb Tryz.f105⟩
def xX:gTb [1] 108:=⟨_,gRb Tryz.f108⟩
def S4:gTb [1] 111:=⟨_,gRb Tryz.f111⟩
def QP:gTb [1] 115:=⟨_,gRb Tryz.f115⟩
def QM:gTb [] 118:=⟨_,gRb Tryz.f118⟩
def QJ:gTb [] 121:=⟨_,gRb Tryz.f121⟩
def S1:gTb [2] 129:=⟨_,gRb Tryz.f129⟩
def Nn:gTb [2,3] 132:=⟨_,gRb Tryz.f132⟩
def SZ:gTb [] 139:=⟨_,gRb Tryz.f139⟩
def Nm:gTb [1] 142:=⟨_,gRb Tryz.f142⟩
def f6:gTb [2,3] 145:=⟨_,gRb Tryz.f145⟩
def Jc:gTb [] 154:=⟨_,gRb Tryz.f154⟩
def SP:gTb [1] 157:=⟨_,gRb Tryz.f157⟩
def Ri:gTb [] 160:=⟨_,gRb Tryz.f160⟩
def Rg:gTb [2,3] 163:=⟨_,gRb Tryz.f163⟩
def Nl:gTb [] 171:=⟨_,gRb Tryz.f171⟩
def SK:gTb [1] 174:=⟨_,gRb Tryz.f174⟩
def QG:gTb [1] 177:=⟨_,gRb Tryz.f177⟩
def SG:gTb [1] 180:=⟨_,gRb Tryz.f180⟩
def Nk:gTb [1] 183:=⟨_,gRb Tryz.f183⟩
def SC:gTb [] 188:=⟨_,gRb Tryz.f188⟩
def SA:gTb [2,3] 191:=⟨_,gRb Tryz.f191⟩
def Sy:gTb [] 196:=⟨_,gRb Tryz.f196⟩
def Rc:gTb [] 199:=⟨_,gRb Tryz.f199⟩
