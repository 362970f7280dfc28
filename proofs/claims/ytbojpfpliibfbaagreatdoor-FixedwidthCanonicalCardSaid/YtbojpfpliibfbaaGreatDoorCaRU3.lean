/- A part of the proof. -/
import Derived.Test.YtbojpfpliibfbaaGreatDoorCaR4
set_option maxRecDepth 100000
set_option linter.unusedVariables false
set_option linter.unusedSimpArgs false
namespace Go.Proofs.YtbojpfpliibfbaaGreatDoor
open Go Go.Ab
attribute [local irreducible] vc
section
variable (n s:Int)(t:List UInt8)(l:List Val)(fs:List Fld)
end
section
variable (m M s:Int)(w:List (List UInt8))(e:List Typ)(f:List TFd)
end
def MC (k nd:Int)(d:List Val):Int:=if inB nd 1 3=false then 11 else if k=10/\¬ nd=1 then 11 else if nd=3/\d.length=0 then 4 else if 1<d.length then 3 else if ¬ nd=3/\0<d.length then 3 else 0
theorem kL (k:Int)(b:List TFd)(n:Int)(nm:List UInt8)(nd:Int)(t:Typ)(d:List Val):cB k b (.mk n nm nd t d)=if cJ nm=false then 12 else if inB n 1 9999=false then 2 else if b.any (nT n nm)=true then 7 else MC k nd d:=rfl
theorem pvs_map:∀ (l:List PV),pvs (l.map AV.pv)=some l
 | []=>rfl
 | x::r=>by rw[List.map_cons,mX];rw[pvs_map r];rfl
section
variable (m M s:Int)(w:List (List UInt8))(e:List Typ)(f:List TFd)
end
inductive Mis where
 | mk (path:List UInt8) (code:Int)
def Mis.path:Mis->List UInt8
 | .mk path _=>path
def Mis.pv:Mis->PV
 | .mk path code=>.agg ([.str path,.int .i64 code])
theorem Mis.pv_mk (path:List UInt8)(code:Int):(Mis.mk path code).pv = .agg ([.str path,.int .i64 code]):=by rw[Mis.pv]
def stepM:Bool->List Mis->Mis->Bool×List Mis
 | true,l,_=>(true,l)
 | false,l,m=>(!decide (l.length+1<64),l++[m])
def accP (l:List UInt8)(a:Nat):Nat->Nat
 | 0=>a
 | i+1=>64*accP l a i+(byN l (i+1) - 128)
end Go.Proofs.YtbojpfpliibfbaaGreatDoor
