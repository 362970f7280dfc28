/- A part of the proof for FixedwidthRefusesCardSaid. -/
import Derived.Test.YtedanlflegfomaaGreatDoorRefJ1
import Derived.Test.YtedanlflegfomaaGreatDoorRefG5
import Derived.Test.YtedanlflegfomaaGreatDoorRefF
set_option maxRecDepth 100000
set_option linter.unusedVariables false
set_option linter.unusedSimpArgs false
-- many steps
namespace Go.Proofs.YtedanlflegfomaaGreatDoor
open Go Go.Ab
attribute [local irreducible] vc
theorem sl (n:Int):aq Tryz.prog aA 90 [.int .i64 n,.int .i64 n] (.int .i64 0):=by
 refine aq.intro G0 (by simp[F90]) ?_
 simp(maxSteps:=9^7) (disch:=first|exact dI|fail) only[F90,Int.lt_irrefl,push_cast,seval]
theorem rX (s:List UInt8)(hs:s.length≤1000000):aq Tryz.prog aA 91 [.str s,.str s] (.int .i64 0):=by
 have h90:=sl (s.length:Int)
 refine aq.intro GZ (by simp[F91]) ?_
 simp(maxSteps:=9^7) (disch:=first|exact dI|fail) only[F91,push_cast,seval]
 refine az ([]) (fun m:Nat=>[(5,.pv (.int .i64 (m:Int)))]) (fun m=>[]) (fun m=>m≤s.length) (fun m=>s.length - m) (0) ?_;intro e0 σ0 n0 h0;simp(maxSteps:=9^7) (disch:=first|exact dI|fail) only[push_cast,seval] at h0;obtain⟨rfl,rfl,rfl⟩:=h0;refine⟨?_,?_,?_⟩
 ·simp(maxSteps:=9^7) (disch:=first|exact dI|fail) only[push_cast,seval]
 ·omega
 ·rintro m hm
  by_cases hlt:m<s.length
  ·have hltI:(m:Int)<s.length:=by omega
   obtain⟨x,hx⟩:∃ x,s[m]? = some x:=⟨_,List.getElem?_eq_getElem hlt⟩
   simp(maxSteps:=9^7) (disch:=first|exact dI|fail) only[hx,push_cast,seval]
   exact⟨m+1,bl (by simp(maxSteps:=9^7) (disch:=first|exact dI|fail) only[push_cast,seval]),by omega,by omega⟩
  ·have h1:m=s.length:=by omega
   subst h1
   simp(maxSteps:=9^7) (disch:=first|exact dI|fail) only[Int.lt_irrefl,push_cast,seval]
   refine ae.pure h90 rfl ?_
   simp(maxSteps:=9^7) (disch:=first|exact dI|fail) only[push_cast,seval]
def tV (s:List UInt8):Val:=.mk 4 0 0 s [] []
def rV (s:List UInt8):Val:=.mk 9 0 0 [] [] [.mk [97] (tV s)]
theorem m6 (s:List UInt8)(hs:s.length≤1000000):aq Tryz.prog aA 41 [(tV s).pv,(tV s).pv] (.int .i64 0):=by
 have h91:=rX s hs
 have h90:=sl 0
 simp only[tV]
 refine aq.intro BI (by simp[F41]) ?_
 simp(maxSteps:=9^7) (disch:=first|exact dI|fail) only[F41,Val.pv_mk,List.map_nil,push_cast,seval]
 refine ae.pure h91 rfl ?_
 simp(maxSteps:=9^7) (disch:=first|exact dI|fail) only[push_cast,seval]
 refine az ([]) (fun i:Nat=>[(6,.pv (.int .i64 (i:Int)))]) (fun _=>[]) (fun i=>i=0) (fun i=>1 - i) (0) ?_;intro e0 σ0 n0 h0;simp(maxSteps:=9^7) (disch:=first|exact dI|fail) only[push_cast,seval] at h0;obtain⟨rfl,rfl,rfl⟩:=h0;refine⟨?_,?_,?_⟩
 ·simp(maxSteps:=9^7) (disch:=first|exact dI|fail) only[push_cast,seval]
 ·rfl
 rintro i rfl
 simp(maxSteps:=9^7) (disch:=first|exact dI|fail) only[Int.lt_irrefl,push_cast,seval]
 refine az ([]) (fun i:Nat=>[(8,.pv (.int .i64 (i:Int)))]) (fun _=>[]) (fun i=>i=0) (fun i=>1 - i) (0) ?_;intro e0 σ0 n0 h0;simp(maxSteps:=9^7) (disch:=first|exact dI|fail) only[push_cast,seval] at h0;obtain⟨rfl,rfl,rfl⟩:=h0;refine⟨?_,?_,?_⟩
 ·simp(maxSteps:=9^7) (disch:=first|exact dI|fail) only[push_cast,seval]
 ·rfl
 rintro i rfl
 simp(maxSteps:=9^7) (disch:=first|exact dI|fail) only[Int.lt_irrefl,push_cast,seval]
 refine ae.pure h90 rfl ?_
 simp(maxSteps:=9^7) (disch:=first|exact dI|fail) only[push_cast,seval]
theorem m7 (s:List UInt8)(hs:s.length≤1000000):aq Tryz.prog aA 41 [(rV s).pv,(rV s).pv] (.int .i64 0):=by
 have h91:=rX [] (by decide)
 have h91a:=rX [97] (by decide)
 have h90:=sl 1
 have hc:=m6 s hs
 simp only[rV,tV,Val.pv_mk,Fld.pv_mk,List.map_cons,List.map_nil] at hc ⊢
 refine aq.intro BI (by simp[F41]) ?_
 simp(maxSteps:=9^7) (disch:=first|exact dI|fail) only[F41,push_cast,seval]
 refine ae.pure h91 rfl ?_
 simp(maxSteps:=9^7) (disch:=first|exact dI|fail) only[push_cast,seval]
 refine az ([]) (fun i:Nat=>[(6,.pv (.int .i64 (i:Int)))]) (fun _=>[]) (fun i=>i=0) (fun i=>1 - i) (0) ?_;intro e0 σ0 n0 h0;simp(maxSteps:=9^7) (disch:=first|exact dI|fail) only[push_cast,seval] at h0;obtain⟨rfl,rfl,rfl⟩:=h0;refine⟨?_,?_,?_⟩
 ·simp(maxSteps:=9^7) (disch:=first|exact dI|fail) only[push_cast,seval]
 ·rfl
 rintro i rfl
 simp(maxSteps:=9^7) (disch:=first|exact dI|fail) only[Int.lt_irrefl,push_cast,seval]
 refine az ([]) (fun i:Nat=>[(8,.pv (.int .i64 (i:Int)))]) (fun _=>[]) (fun i=>i≤1) (fun i=>1 - i) (0) ?_;intro e0 σ0 n0 h0;simp(maxSteps:=9^7) (disch:=first|exact dI|fail) only[push_cast,seval] at h0;obtain⟨rfl,rfl,rfl⟩:=h0;refine⟨?_,?_,?_⟩
 ·simp(maxSteps:=9^7) (disch:=first|exact dI|fail) only[push_cast,seval]
 ·omega
 rintro i hi
 by_cases h0:i=0
 ·subst h0
  simp(maxSteps:=9^7) (disch:=first|exact dI|fail) only[aK,push_cast,seval]
  refine ae.pure h91a rfl ?_
  simp(maxSteps:=9^7) (disch:=first|exact dI|fail) only[aK,push_cast,seval]
  refine ae.pure hc rfl ?_
  simp(maxSteps:=9^7) (disch:=first|exact dI|fail) only[push_cast,seval]
  exact⟨1,bl (by simp(maxSteps:=9^7) (disch:=first|exact dI|fail) only[push_cast,seval]),by omega,by omega⟩
 ·obtain rfl:i=1:=by omega
  simp(maxSteps:=9^7) (disch:=first|exact dI|fail) only[Int.lt_irrefl,push_cast,seval]
  refine ae.pure h90 rfl ?_
  simp(maxSteps:=9^7) (disch:=first|exact dI|fail) only[push_cast,seval]
theorem DE (s:List UInt8)(hs:s.length≤1000000):aq Tryz.prog aA 11 [(rV s).pv,(rV s).pv] (.bool true):=by
 have hc:=m7 s hs
 simp only[rV,tV,Val.pv_mk,Fld.pv_mk,List.map_cons,List.map_nil] at hc ⊢
 refine aq.intro HI (by simp[F11]) ?_
 simp(maxSteps:=9^7) (disch:=first|exact dI|fail) only[F11,push_cast,seval]
 refine ae.pure hc rfl ?_
 simp(maxSteps:=9^7) (disch:=first|exact dI|fail) only[push_cast,seval]
end Go.Proofs.YtedanlflegfomaaGreatDoor
set_option maxRecDepth 100000
set_option linter.unusedVariables false
set_option linter.unusedSimpArgs false
-- many steps
namespace Go.Proofs.YtedanlflegfomaaGreatDoor
open Go Go.Ab
attribute [local irreducible] vc
def T4:Typ:=.mk 4 0 40 0 [] [] []
def T1:Typ:=.mk 9 0 0 0 [] [] [.mk 1 [97] 1 T4 []]
theorem kr (s p:List UInt8)(hs:s.length≤40):aF 1 T4 (tV s) p=if Lib.validD s=true then [] else [.mk p 8]:=by
 show bt (aF 0) T4 (tV s) p=_
 have ho:jF 0 40 p (s.length:Int)=[]:=by
  unfold jF;rw[if_neg (by omega)]
 cases h:Lib.validD s with
 | true=>simp[bt,T4,tV,Typ.kind,Val.kind,ab,h,Typ.words,Typ.min,Typ.max,Val.text,ho]
 | false=>simp[bt,T4,tV,Typ.kind,Val.kind,ab,h]
theorem nP (s p:List UInt8)(hs:s.length≤40):aF 2 T1 (rV s) p=if Lib.validD s=true then [] else [.mk (bc p [97]) 8]:=by
 rw[← kr s (bc p [97]) hs]
 show bt (aF 1) T1 (rV s) p=_
 have h1:ab (rV s)=true:=by
  simp[rV,ab];rfl
 have hf:[Fld.mk [97] (tV s)].find? (bf [97])=some (Fld.mk [97] (tV s)):=by simp[bf,Fld.name]
 have hg:[TFd.mk 1 [97] 1 T4 []].find? (named [97])=some (TFd.mk 1 [97] 1 T4 []):=by simp[named,TFd.name]
 have h9:wI (aF 1) T1 (rV s) p=aF 1 T4 (tV s) (bc p [97]):=by
  simp only[wI,T1,rV,Typ.fields,Val.fields,List.flatMap_cons,List.flatMap_nil,List.append_nil]
  rw[cY (x:=TFd.mk 1 [97] 1 T4 []) hf,ec (x:=Fld.mk [97] (tV s)) hg,List.append_nil]
  rfl
 rw[← h9]
 unfold bt
 rw[if_neg (by simp[T1,rV,Typ.kind,Val.kind]),if_neg (by rw[h1];decide)]
 simp[T1,Typ.kind]
theorem Gk (s:List UInt8)(hs:s.length≤40):dep 1 (tV s):=by simp[dep,tV,Val.lst,Val.fields,Val.text];omega
theorem Gl (s:List UInt8)(hs:s.length≤40):dep 2 (rV s):=by
 have:=Gk s hs
 simp only[dep,rV,Val.lst,Val.fields,Val.text]
 refine⟨by simp,by simp,by simp,by simp,fun f hf=>?_⟩
 simp only[List.mem_singleton] at hf
 subst hf
 exact⟨by simp[Fld.name],this⟩
theorem Jr (s:List UInt8)(hs:s.length≤40):(tV s).ok:=by
 simp only[tV,Val.ok_mk,I64];refine⟨by omega,by omega,by omega,by omega,by simp,by simp,by simp,by simp⟩
theorem Ip (s:List UInt8)(hs:s.length≤40):(rV s).ok:=by
 have:=Jr s hs
 simp only[rV,Val.ok_mk,I64]
 refine⟨by omega,by omega,by omega,by simp,by simp,by simp,by simp,fun x hx=>?_⟩
 simp only[List.mem_singleton] at hx
 subst hx
 rw[Fld.ok_mk]
 exact⟨by simp,this⟩
theorem A5:aQ 2 T1:=by
 simp[aQ,T1,T4,Typ.fields,Typ.words,Typ.elem,TFd.name,TFd.typ]
theorem EY:aQ 1 T4:=by simp[aQ,T4,Typ.fields,Typ.words,Typ.elem]
theorem Du (s:List UInt8)(hs:s.length≤40):aq Tryz.prog aA 21 [t1P,vP s] (.bool (Lib.validD s)):=by
 have h:=Bv 2 T1 (rV s) (Gl s hs) A5 (Ip s hs) (by omega)
 rw[nP s [] hs,show (if Lib.validD s=true then ([]:List Mis) else [.mk (bc [] [97]) 8]).isEmpty=Lib.validD s by cases Lib.validD s<;>rfl] at h
 refine h.nz ?_
 simp only[t1P,vP,T1,T4,rV,tV,Val.pv_mk,Fld.pv_mk,Typ.pv_mk,TFd.pv_mk,List.map_cons,List.map_nil]
 repeat' constructor
theorem Dt (s:List UInt8)(hs:s.length≤40):aq Tryz.prog aA 21 [tyP,xP s] (.bool (Lib.validD s)):=by
 have h:=Bv 1 T4 (tV s) (Gk s hs) EY (Jr s hs) (by omega)
 rw[kr s [] hs,show (if Lib.validD s=true then ([]:List Mis) else [.mk [] 8]).isEmpty=Lib.validD s by cases Lib.validD s<;>rfl] at h
 refine h.nz ?_
 simp only[tyP,xP,T4,tV,Val.pv_mk,Typ.pv_mk,List.map_nil]
 repeat' constructor
def ij (s:List UInt8):List PV:=if Lib.validD s=true then [] else [.agg [.str [97],.int .i64 8]]
theorem JR (s:List UInt8)(hs:s.length≤40):aq Tryz.prog aA 9 [t1P,vP s,.str []] (.list (ij s)):=by
 have h:=JB 2 (by omega) T1 (rV s) [] (Gl s hs) A5 (Ip s hs) (by simp)
 rw[nP s [] hs,show (if Lib.validD s=true then ([]:List Mis) else [.mk (bc [] [97]) 8]).map Mis.pv=ij s by unfold ij;cases Lib.validD s<;>simp[bc,Mis.pv_mk]] at h
 refine h.nz ?_
 simp only[t1P,vP,T1,T4,rV,tV,Val.pv_mk,Fld.pv_mk,Typ.pv_mk,TFd.pv_mk,List.map_cons,List.map_nil]
 repeat' constructor
theorem Dy (s:List UInt8)(hs:s.length≤40):aq Tryz.prog aA 23 [vP s,.str [97]] (.tup [yP s,.bool true]):=by
 have h:=ob (rV s) [97] (Ip s hs) rfl (by simp[rV,Val.fields])
 have hf:(rV s).fields.find? (bf [97])=some (Fld.mk [97] (tV s)):=by simp[rV,Val.fields,bf,Fld.name]
 rw[hf,show vlR ((some (Fld.mk [97] (tV s))).map Fld.value) = .tup [yP s,.bool true] by simp[vlR,Fld.value,yP,tV,Val.pv_mk]] at h
 refine h.nz ?_
 simp only[vP,rV,tV,Val.pv_mk,Fld.pv_mk,List.map_cons,List.map_nil]
 repeat' constructor
theorem Gf (s:List UInt8)(hs:s.length≤40):aq Tryz.prog aA 11 [vP s,vP s] (.bool true):=by
 refine (DE s (by omega)).nz ?_
 simp only[vP,rV,tV,Val.pv_mk,Fld.pv_mk,List.map_cons,List.map_nil]
 repeat' constructor
theorem rK (s:List UInt8):aq Tryz.prog aA 58 [yP s] (.str s):=by
 have h:=wT (tV s)
 rw[show (tV s).pv=yP s by simp[tV,yP,Val.pv_mk],show (tV s).text=s from rfl] at h
 exact h
end Go.Proofs.YtedanlflegfomaaGreatDoor
