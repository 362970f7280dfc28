/- Functions of the program as the logic reads them: the elaborator reckons each. -/
import Derived.Test.YtamoeblcphjbaaaGreatDoorProg
import Derived.Test.YtamoeblcphjbaaaGreatDoorTyCore5
import Derived.KernelRfl
set_option linter.unusedVariables false
set_option linter.unusedSimpArgs false
set_option maxRecDepth 100000
set_option maxHeartbeats 16000000
namespace Go.Proofs.YtamoeblcphjbaaaGreatDoor
open Go Go.Ab
abbrev gTc (m:List Nat)(f:Nat):Type:={F // cFn Tryz.prog m f=some F}
theorem gRc {m:List Nat}{f:Nat}{F:AFn}(g:Func)(h:cFn ⟨Tryz.progTables,Array.replicate (f+1) g⟩ m f=some F:=by
 refine (?f:?P->?P) ?h
 case h=>
  conv=>
   lhs
   cbv
 case f=>
  intro _
  kernel_rfl) (k:cFn Tryz.prog m f=some F:=by kernel_rfl):cFn Tryz.prog m f=some F:=k
def Q16:gTc [1] 16:=⟨_,gRc Tryz.f16⟩
def Q20:gTc [] 20:=⟨_,gRc Tryz.f20⟩
def Q23:gTc [] 23:=⟨_,gRc Tryz.f23⟩
def Q28:gTc [1] 28:=⟨_,gRc Tryz.f28⟩
def Q31:gTc [1] 31:=⟨_,gRc Tryz.f31⟩
def Q35:gTc [1] 35:=⟨_,gRc Tryz.f35⟩
def Q38:gTc [] 38:=⟨_,gRc Tryz.f38⟩
def Q41:gTc [] 41:=⟨_,gRc Tryz.f41⟩
def Q44:gTc [] 44:=⟨_,gRc Tryz.f44⟩
def Q47:gTc [] 47:=⟨_,gRc Tryz.f47⟩
def Q50:gTc [14] 50:=⟨_,gRc Tryz.f50⟩
def Q57:gTc [] 57:=⟨_,gRc Tryz.f57⟩
def Q60:gTc [] 60:=⟨_,gRc Tryz.f60⟩
def Q63:gTc [3] 63:=⟨_,gRc Tryz.f63⟩
def Q67:gTc [] 67:=⟨_,gRc Tryz.f67⟩
def Q70:gTc [] 70:=⟨_,gRc Tryz.f70⟩
def Q73:gTc [] 73:=⟨_,gRc Tryz.f73⟩
def Q77:gTc [1] 77:=⟨_,gRc Tryz.f77⟩
def Q80:gTc [1] 80:=⟨_,gRc Tryz.f80⟩
def Q83:gTc [1] 83:=⟨_,gRc Tryz.f83⟩
def Q89:gTc [] 89:=⟨_,gRc Tryz.f89⟩
def Q92:gTc [] 92:=⟨_,gRc Tryz.f92⟩
def Q95:gTc [] 95:=⟨_,gRc Tryz.f95⟩
def Q98:gTc [1000028] 98:=⟨_,gRc Tryz.f98⟩
def VO:gTc [] 101:=⟨_,gRc Tryz.f101⟩
def VL:gTc [] 105:=⟨_,gRc Tryz.f105⟩
def VJ:gTc [] 120:=⟨_,gRc Tryz.f120⟩
def P9:gTc [] 123:=⟨_,gRc Tryz.f123⟩
def VH:gTc [] 126:=⟨_,gRc Tryz.f126⟩
def VG:gTc [] 129:=⟨_,gRc Tryz.f129⟩
def P7:gTc [] 132:=⟨_,gRc Tryz.f132⟩
def VE:gTc [] 135:=⟨_,gRc Tryz.f135⟩
def VB:gTc [] 138:=⟨_,gRc Tryz.f138⟩
def P6:gTc [1] 142:=⟨_,gRc Tryz.f142⟩
def Pz:gTc [1] 145:=⟨_,gRc Tryz.f145⟩
def Vz:gTc [] 151:=⟨_,gRc Tryz.f151⟩
def S6:gTc [] 156:=⟨_,gRc Tryz.f156⟩
def Vw:gTc [] 159:=⟨_,gRc Tryz.f159⟩
def Py:gTc [] 162:=⟨_,gRc Tryz.f162⟩
def Bk:gTc [] 165:=⟨_,gRc Tryz.f165⟩
def Ty:gTc [] 170:=⟨_,gRc Tryz.f170⟩
def Vq:gTc [] 173:=⟨_,gRc Tryz.f173⟩
def P3:gTc [] 184:=⟨_,gRc Tryz.f184⟩
def Px:gTc [] 191:=⟨_,gRc Tryz.f191⟩
def Vl:gTc [] 194:=⟨_,gRc Tryz.f194⟩
def P2:gTc [1] 197:=⟨_,gRc Tryz.f197⟩
def Vi:gTc [1] 200:=⟨_,gRc Tryz.f200⟩
def qy:gTc [] 207:=⟨_,gRc Tryz.f207⟩
def Vg:gTc [1] 212:=⟨_,gRc Tryz.f212⟩
def Pw:gTc [] 223:=⟨_,gRc Tryz.f223⟩
def Kw:gTc [2] 226:=⟨_,gRc Tryz.f226⟩
def Vf:gTc [2] 229:=⟨_,gRc Tryz.f229⟩
def Tq:gTc [2] 232:=⟨_,gRc Tryz.f232⟩
def PY:gTc [] 248:=⟨_,gRc Tryz.f248⟩
def Vc:gTc [] 256:=⟨_,gRc Tryz.f256⟩
def Va:gTc [2,3] 259:=⟨_,gRc Tryz.f259⟩
def U9:gTc [] 273:=⟨_,gRc Tryz.f273⟩
def U6:gTc [] 280:=⟨_,gRc Tryz.f280⟩
