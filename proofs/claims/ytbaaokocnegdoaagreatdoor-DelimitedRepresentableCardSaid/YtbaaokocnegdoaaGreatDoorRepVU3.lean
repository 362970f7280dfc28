/- A part of the proof for DelimitedRepresentableCardSaid. -/
import Derived.Test.YtbaaokocnegdoaaGreatDoorRepVSi
set_option maxRecDepth 100000
set_option linter.unusedVariables false
set_option linter.unusedSimpArgs false
-- many steps
namespace Go.Proofs.YtbaaokocnegdoaaGreatDoor
open Go Go.Ab
attribute [local irreducible] vc
def fE (v:Val):Int:=if aJ v=true then 19 else if v.kind<1∨10<v.kind then 11 else if ag v=false then 3 else bt v
theorem r9 (v:Val)(hk:v.kind<1∨10<v.kind):ak Tryz.prog aD 250 [v.pv] (.int .i64 (fE v)):=by
 have hn:=cH v
 rw[show fE v=if aJ v=true then 19 else 11 by unfold fE;rw[if_pos hk]]
 generalize aJ v=b at hn ⊢
 obtain⟨k,n,s,t,l,fs⟩:=v
 simp only[Val.kind] at hk
 simp only[Val.pv_mk] at hn
 by_cases h1:k<1
 ·refine ak.intro cr (by simp[gU]) ?_
  simp(maxSteps:=9^7) (disch:=first|exact dI|fail) only[gU,Val.pv_mk,push_cast,seval]
  refine ab.pure hn rfl ?_
  cases b with
  | true=>simp(maxSteps:=9^7) (disch:=first|exact dI|fail) only[push_cast,seval]
  | false=>simp(maxSteps:=9^7) (disch:=first|exact dI|fail) only[h1,push_cast,seval]
 ·have h2:10<k:=by omega
  refine ak.intro cr (by simp[gU]) ?_
  simp(maxSteps:=9^7) (disch:=first|exact dI|fail) only[gU,Val.pv_mk,push_cast,seval]
  refine ab.pure hn rfl ?_
  cases b with
  | true=>simp(maxSteps:=9^7) (disch:=first|exact dI|fail) only[push_cast,seval]
  | false=>simp(maxSteps:=9^7) (disch:=first|exact dI|fail) only[h1,h2,push_cast,seval]
section
variable (n s:Int)(t:List UInt8)(l:List Val)(fs:List Fld)
set_option maxHeartbeats 2000000 in
theorem Cr:ak Tryz.prog aD 250 [(Val.mk 1 n s t l fs).pv] (.int .i64 (fE (.mk 1 n s t l fs))):=by
 have hn:=cH (.mk 1 n s t l fs)
 have hu:=bC (.mk 1 n s t l fs) (by simp only[Val.kind];omega)
 rw[show fE (.mk 1 n s t l fs)=if aJ (.mk 1 n s t l fs)=true then 19 else if ag (.mk 1 n s t l fs)=false then 3 else db n 0 1 from rfl]
 generalize aJ (.mk 1 n s t l fs)=b1 at hn ⊢
 generalize ag (.mk 1 n s t l fs)=b2 at hu ⊢
 simp only[Val.pv_mk] at hn hu
 have hr:=cb n 0 1
 have hq:db n 0 1=if inB n 0 1=false then 2 else 0:=by unfold db inB;by_cases h1:0≤n<;>by_cases h2:n≤1<;>simp[h1,h2]<;>omega
 rw[hq];clear hq
 generalize inB n 0 1=q at hr ⊢
 refine ak.intro cr (by simp[gU]) ?_
 simp(maxSteps:=9^7) (disch:=first|exact dI|fail) only[gU,Val.pv_mk,push_cast,seval]
 refine ab.pure hn rfl ?_
 cases b1 with
 | true=>simp(maxSteps:=9^7) (disch:=first|exact dI|fail) only[push_cast,seval]
 | false=>
 simp(maxSteps:=9^7) (disch:=first|exact dI|fail) only[push_cast,seval]
 refine ab.pure hu rfl ?_
 cases b2 with
 | false=>simp(maxSteps:=9^7) (disch:=first|exact dI|fail) only[push_cast,seval]
 | true=>
 simp(maxSteps:=9^7) (disch:=first|exact dI|fail) only[push_cast,seval]
 refine ab.pure hr rfl ?_
 cases q with
 | false=>simp(maxSteps:=9^7) (disch:=first|exact dI|fail) only[push_cast,seval]
 | true=>simp(maxSteps:=9^7) (disch:=first|exact dI|fail) only[push_cast,seval]
set_option maxHeartbeats 2000000 in
theorem Cq:ak Tryz.prog aD 250 [(Val.mk 2 n s t l fs).pv] (.int .i64 (fE (.mk 2 n s t l fs))):=by
 have hn:=cH (.mk 2 n s t l fs)
 have hu:=bC (.mk 2 n s t l fs) (by simp only[Val.kind];omega)
 rw[show fE (.mk 2 n s t l fs)=if aJ (.mk 2 n s t l fs)=true then 19 else if ag (.mk 2 n s t l fs)=false then 3 else db n (-999999999999999) 999999999999999 from rfl]
 generalize aJ (.mk 2 n s t l fs)=b1 at hn ⊢
 have hs:ag (.mk 2 n s t l fs)=true→s=0:=by simp only[ag,Bool.and_eq_true,Bool.or_eq_true,decide_eq_true_eq];omega
 have hr2:=cb 0 0 12
 rw[show inB 0 0 12=true from rfl] at hr2
 generalize ag (.mk 2 n s t l fs)=b2 at hu hs ⊢
 simp only[Val.pv_mk] at hn hu
 have hr:=cb n (-999999999999999) 999999999999999
 have hq:db n (-999999999999999) 999999999999999=if inB n (-999999999999999) 999999999999999=false then 2 else 0:=by unfold db inB;by_cases h1:(-999999999999999)≤n<;>by_cases h2:n≤999999999999999<;>simp[h1,h2]<;>omega
 rw[hq];clear hq
 generalize inB n (-999999999999999) 999999999999999=q at hr ⊢
 refine ak.intro cr (by simp[gU]) ?_
 simp(maxSteps:=9^7) (disch:=first|exact dI|fail) only[gU,Val.pv_mk,push_cast,seval]
 refine ab.pure hn rfl ?_
 cases b1 with
 | true=>simp(maxSteps:=9^7) (disch:=first|exact dI|fail) only[push_cast,seval]
 | false=>
 simp(maxSteps:=9^7) (disch:=first|exact dI|fail) only[push_cast,seval]
 refine ab.pure hu rfl ?_
 cases b2 with
 | false=>simp(maxSteps:=9^7) (disch:=first|exact dI|fail) only[push_cast,seval]
 | true=>
 obtain rfl:=hs rfl
 simp(maxSteps:=9^7) (disch:=first|exact dI|fail) only[push_cast,seval]
 refine ab.pure hr rfl ?_
 cases q with
 | false=>simp(maxSteps:=9^7) (disch:=first|exact dI|fail) only[push_cast,seval]
 | true => simp(maxSteps:=9^7) (disch:=first|exact dI|fail) only[push_cast,seval]
           refine ab.pure hr2 rfl ?_
           simp(maxSteps:=9^7) (disch:=first|exact dI|fail) only[push_cast,seval]
set_option maxHeartbeats 2000000 in
theorem Cp:ak Tryz.prog aD 250 [(Val.mk 3 n s t l fs).pv] (.int .i64 (fE (.mk 3 n s t l fs))):=by
 have hn:=cH (.mk 3 n s t l fs)
 have hu:=bC (.mk 3 n s t l fs) (by simp only[Val.kind];omega)
 rw[show fE (.mk 3 n s t l fs)=if aJ (.mk 3 n s t l fs)=true then 19 else if ag (.mk 3 n s t l fs)=false then 3 else (if db n (-999999999999999) 999999999999999=0 then db s 0 12 else db n (-999999999999999) 999999999999999) from rfl]
 generalize aJ (.mk 3 n s t l fs)=b1 at hn ⊢
 generalize ag (.mk 3 n s t l fs)=b2 at hu ⊢
 simp only[Val.pv_mk] at hn hu
 have hr:=cb n (-999999999999999) 999999999999999
 have hr2:=cb s 0 12
 have hq:(if db n (-999999999999999) 999999999999999=0 then db s 0 12 else db n (-999999999999999) 999999999999999)=if inB n (-999999999999999) 999999999999999=false then 2 else if inB s 0 12=false then 2 else 0:=by unfold db inB;by_cases h1:(-999999999999999)≤n<;>by_cases h2:n≤999999999999999<;>by_cases h3:0≤s<;>by_cases h4:s≤12<;>simp[h1,h2,h3,h4]<;>omega
 rw[hq];clear hq
 generalize inB n (-999999999999999) 999999999999999=q at hr ⊢
 generalize inB s 0 12=q2 at hr2 ⊢
 refine ak.intro cr (by simp[gU]) ?_
 simp(maxSteps:=9^7) (disch:=first|exact dI|fail) only[gU,Val.pv_mk,push_cast,seval]
 refine ab.pure hn rfl ?_
 cases b1 with
 | true=>simp(maxSteps:=9^7) (disch:=first|exact dI|fail) only[push_cast,seval]
 | false=>
 simp(maxSteps:=9^7) (disch:=first|exact dI|fail) only[push_cast,seval]
 refine ab.pure hu rfl ?_
 cases b2 with
 | false=>simp(maxSteps:=9^7) (disch:=first|exact dI|fail) only[push_cast,seval]
 | true=>
 simp(maxSteps:=9^7) (disch:=first|exact dI|fail) only[push_cast,seval]
 refine ab.pure hr rfl ?_
 cases q with
 | false=>simp(maxSteps:=9^7) (disch:=first|exact dI|fail) only[push_cast,seval]
 | true=>
 simp(maxSteps:=9^7) (disch:=first|exact dI|fail) only[push_cast,seval]
 refine ab.pure hr2 rfl ?_
 cases q2 with
 | false=>simp(maxSteps:=9^7) (disch:=first|exact dI|fail) only[push_cast,seval]
 | true=>simp(maxSteps:=9^7) (disch:=first|exact dI|fail) only[push_cast,seval]
set_option maxHeartbeats 2000000 in
theorem Co:ak Tryz.prog aD 250 [(Val.mk 4 n s t l fs).pv] (.int .i64 (fE (.mk 4 n s t l fs))):=by
 have hn:=cH (.mk 4 n s t l fs)
 have hu:=bC (.mk 4 n s t l fs) (by simp only[Val.kind];omega)
 rw[show fE (.mk 4 n s t l fs)=if aJ (.mk 4 n s t l fs)=true then 19 else if ag (.mk 4 n s t l fs)=false then 3 else (if cn t.length 1024 5=0 then (if Lib.validD t=true then 0 else 16) else cn t.length 1024 5) from rfl]
 generalize aJ (.mk 4 n s t l fs)=b1 at hn ⊢
 generalize ag (.mk 4 n s t l fs)=b2 at hu ⊢
 simp only[Val.pv_mk] at hn hu
 have hv:=eT t
 generalize Lib.validD t=q at hv ⊢
 refine ak.intro cr (by simp[gU]) ?_
 simp(maxSteps:=9^7) (disch:=first|exact dI|fail) only[gU,Val.pv_mk,push_cast,seval]
 refine ab.pure hn rfl ?_
 cases b1 with
 | true=>simp(maxSteps:=9^7) (disch:=first|exact dI|fail) only[push_cast,seval]
 | false=>
 simp(maxSteps:=9^7) (disch:=first|exact dI|fail) only[push_cast,seval]
 refine ab.pure hu rfl ?_
 cases b2 with
 | false=>simp(maxSteps:=9^7) (disch:=first|exact dI|fail) only[push_cast,seval]
 | true=>
 by_cases h5:(1024:Int)<t.length
 ·rw[show cn t.length 1024 5=5 from if_pos h5]
  simp(maxSteps:=9^7) (disch:=first|exact dI|fail) only[h5,push_cast,seval]
 ·rw[show cn t.length 1024 5=0 from if_neg h5]
  simp(maxSteps:=9^7) (disch:=first|exact dI|fail) only[h5,push_cast,seval]
  refine ab.pure hv rfl ?_
  cases q with
  | false=>simp(maxSteps:=9^7) (disch:=first|exact dI|fail) only[push_cast,seval]
  | true=>simp(maxSteps:=9^7) (disch:=first|exact dI|fail) only[push_cast,seval]
set_option maxHeartbeats 2000000 in
theorem Cn:ak Tryz.prog aD 250 [(Val.mk 5 n s t l fs).pv] (.int .i64 (fE (.mk 5 n s t l fs))):=by
 have hn:=cH (.mk 5 n s t l fs)
 have hu:=bC (.mk 5 n s t l fs) (by simp only[Val.kind];omega)
 rw[show fE (.mk 5 n s t l fs)=if aJ (.mk 5 n s t l fs)=true then 19 else if ag (.mk 5 n s t l fs)=false then 3 else cn t.length 1024 5 from rfl]
 generalize aJ (.mk 5 n s t l fs)=b1 at hn ⊢
 generalize ag (.mk 5 n s t l fs)=b2 at hu ⊢
 simp only[Val.pv_mk] at hn hu
 refine ak.intro cr (by simp[gU]) ?_
 simp(maxSteps:=9^7) (disch:=first|exact dI|fail) only[gU,Val.pv_mk,push_cast,seval]
 refine ab.pure hn rfl ?_
 cases b1 with
 | true=>simp(maxSteps:=9^7) (disch:=first|exact dI|fail) only[push_cast,seval]
 | false=>
 simp(maxSteps:=9^7) (disch:=first|exact dI|fail) only[push_cast,seval]
 refine ab.pure hu rfl ?_
 cases b2 with
 | false=>simp(maxSteps:=9^7) (disch:=first|exact dI|fail) only[push_cast,seval]
 | true=>
 by_cases h5:(1024:Int)<t.length
 ·rw[show cn t.length 1024 5=5 from if_pos h5]
  simp(maxSteps:=9^7) (disch:=first|exact dI|fail) only[h5,push_cast,seval]
 ·rw[show cn t.length 1024 5=0 from if_neg h5]
  simp(maxSteps:=9^7) (disch:=first|exact dI|fail) only[h5,push_cast,seval]
set_option maxHeartbeats 2000000 in
theorem Cm:ak Tryz.prog aD 250 [(Val.mk 6 n s t l fs).pv] (.int .i64 (fE (.mk 6 n s t l fs))):=by
 have hn:=cH (.mk 6 n s t l fs)
 have hu:=bC (.mk 6 n s t l fs) (by simp only[Val.kind];omega)
 rw[show fE (.mk 6 n s t l fs)=if aJ (.mk 6 n s t l fs)=true then 19 else if ag (.mk 6 n s t l fs)=false then 3 else db n (-719162) 2932896 from rfl]
 generalize aJ (.mk 6 n s t l fs)=b1 at hn ⊢
 generalize ag (.mk 6 n s t l fs)=b2 at hu ⊢
 simp only[Val.pv_mk] at hn hu
 have hr:=cb n (-719162) 2932896
 have hq:db n (-719162) 2932896=if inB n (-719162) 2932896=false then 2 else 0:=by unfold db inB;by_cases h1:(-719162)≤n<;>by_cases h2:n≤2932896<;>simp[h1,h2]<;>omega
 rw[hq];clear hq
 generalize inB n (-719162) 2932896=q at hr ⊢
 refine ak.intro cr (by simp[gU]) ?_
 simp(maxSteps:=9^7) (disch:=first|exact dI|fail) only[gU,Val.pv_mk,push_cast,seval]
 refine ab.pure hn rfl ?_
 cases b1 with
 | true=>simp(maxSteps:=9^7) (disch:=first|exact dI|fail) only[push_cast,seval]
 | false=>
 simp(maxSteps:=9^7) (disch:=first|exact dI|fail) only[push_cast,seval]
 refine ab.pure hu rfl ?_
 cases b2 with
 | false=>simp(maxSteps:=9^7) (disch:=first|exact dI|fail) only[push_cast,seval]
 | true=>
 simp(maxSteps:=9^7) (disch:=first|exact dI|fail) only[push_cast,seval]
 refine ab.pure hr rfl ?_
 cases q with
 | false=>simp(maxSteps:=9^7) (disch:=first|exact dI|fail) only[push_cast,seval]
 | true=>simp(maxSteps:=9^7) (disch:=first|exact dI|fail) only[push_cast,seval]
set_option maxHeartbeats 2000000 in
theorem Cl:ak Tryz.prog aD 250 [(Val.mk 7 n s t l fs).pv] (.int .i64 (fE (.mk 7 n s t l fs))):=by
 have hn:=cH (.mk 7 n s t l fs)
 have hu:=bC (.mk 7 n s t l fs) (by simp only[Val.kind];omega)
 rw[show fE (.mk 7 n s t l fs)=if aJ (.mk 7 n s t l fs)=true then 19 else if ag (.mk 7 n s t l fs)=false then 3 else db n (-62135596800000) 253402300799999 from rfl]
 generalize aJ (.mk 7 n s t l fs)=b1 at hn ⊢
 generalize ag (.mk 7 n s t l fs)=b2 at hu ⊢
 simp only[Val.pv_mk] at hn hu
 have hr:=cb n (-62135596800000) 253402300799999
 have hq:db n (-62135596800000) 253402300799999=if inB n (-62135596800000) 253402300799999=false then 2 else 0:=by unfold db inB;by_cases h1:(-62135596800000)≤n<;>by_cases h2:n≤253402300799999<;>simp[h1,h2]<;>omega
 rw[hq];clear hq
 generalize inB n (-62135596800000) 253402300799999=q at hr ⊢
 refine ak.intro cr (by simp[gU]) ?_
 simp(maxSteps:=9^7) (disch:=first|exact dI|fail) only[gU,Val.pv_mk,push_cast,seval]
 refine ab.pure hn rfl ?_
 cases b1 with
 | true=>simp(maxSteps:=9^7) (disch:=first|exact dI|fail) only[push_cast,seval]
 | false=>
 simp(maxSteps:=9^7) (disch:=first|exact dI|fail) only[push_cast,seval]
 refine ab.pure hu rfl ?_
 cases b2 with
 | false=>simp(maxSteps:=9^7) (disch:=first|exact dI|fail) only[push_cast,seval]
 | true=>
 simp(maxSteps:=9^7) (disch:=first|exact dI|fail) only[push_cast,seval]
 refine ab.pure hr rfl ?_
 cases q with
 | false=>simp(maxSteps:=9^7) (disch:=first|exact dI|fail) only[push_cast,seval]
 | true=>simp(maxSteps:=9^7) (disch:=first|exact dI|fail) only[push_cast,seval]
set_option maxHeartbeats 2000000 in
theorem Ck:ak Tryz.prog aD 250 [(Val.mk 8 n s t l fs).pv] (.int .i64 (fE (.mk 8 n s t l fs))):=by
 have hn:=cH (.mk 8 n s t l fs)
 have hu:=bC (.mk 8 n s t l fs) (by simp only[Val.kind];omega)
 rw[show fE (.mk 8 n s t l fs)=if aJ (.mk 8 n s t l fs)=true then 19 else if ag (.mk 8 n s t l fs)=false then 3 else cn l.length 256 9 from rfl]
 generalize aJ (.mk 8 n s t l fs)=b1 at hn ⊢
 generalize ag (.mk 8 n s t l fs)=b2 at hu ⊢
 simp only[Val.pv_mk] at hn hu
 refine ak.intro cr (by simp[gU]) ?_
 simp(maxSteps:=9^7) (disch:=first|exact dI|fail) only[gU,Val.pv_mk,push_cast,seval]
 refine ab.pure hn rfl ?_
 cases b1 with
 | true=>simp(maxSteps:=9^7) (disch:=first|exact dI|fail) only[push_cast,seval]
 | false=>
 simp(maxSteps:=9^7) (disch:=first|exact dI|fail) only[push_cast,seval]
 refine ab.pure hu rfl ?_
 cases b2 with
 | false=>simp(maxSteps:=9^7) (disch:=first|exact dI|fail) only[push_cast,seval]
 | true=>
 by_cases h5:(256:Int)<l.length
 ·rw[show cn l.length 256 9=9 from if_pos h5]
  simp(maxSteps:=9^7) (disch:=first|exact dI|fail) only[h5,push_cast,seval]
 ·rw[show cn l.length 256 9=0 from if_neg h5]
  simp(maxSteps:=9^7) (disch:=first|exact dI|fail) only[h5,push_cast,seval]
set_option maxHeartbeats 2000000 in
theorem Cj:ak Tryz.prog aD 250 [(Val.mk 9 n s t l fs).pv] (.int .i64 (fE (.mk 9 n s t l fs))):=by
 have hn:=cH (.mk 9 n s t l fs)
 have hu:=bC (.mk 9 n s t l fs) (by simp only[Val.kind];omega)
 rw[show fE (.mk 9 n s t l fs)=if aJ (.mk 9 n s t l fs)=true then 19 else if ag (.mk 9 n s t l fs)=false then 3 else eJ fs from rfl]
 generalize aJ (.mk 9 n s t l fs)=b1 at hn ⊢
 generalize ag (.mk 9 n s t l fs)=b2 at hu ⊢
 simp only[Val.pv_mk] at hn hu
 have hr:=yQ fs
 generalize eJ fs=q at hr ⊢
 refine ak.intro cr (by simp[gU]) ?_
 simp(maxSteps:=9^7) (disch:=first|exact dI|fail) only[gU,Val.pv_mk,push_cast,seval]
 refine ab.pure hn rfl ?_
 cases b1 with
 | true=>simp(maxSteps:=9^7) (disch:=first|exact dI|fail) only[push_cast,seval]
 | false=>
 simp(maxSteps:=9^7) (disch:=first|exact dI|fail) only[push_cast,seval]
 refine ab.pure hu rfl ?_
 cases b2 with
 | false=>simp(maxSteps:=9^7) (disch:=first|exact dI|fail) only[push_cast,seval]
 | true=>
 simp(maxSteps:=9^7) (disch:=first|exact dI|fail) only[push_cast,seval]
 refine ab.pure hr rfl ?_
 simp(maxSteps:=9^7) (disch:=first|exact dI|fail) only[push_cast,seval]
set_option maxHeartbeats 2000000 in
theorem xa:ak Tryz.prog aD 250 [(Val.mk 10 n s t l fs).pv] (.int .i64 (fE (.mk 10 n s t l fs))):=by
 have hn:=cH (.mk 10 n s t l fs)
 have hu:=bC (.mk 10 n s t l fs) (by simp only[Val.kind];omega)
 rw[show fE (.mk 10 n s t l fs)=if aJ (.mk 10 n s t l fs)=true then 19 else if ag (.mk 10 n s t l fs)=false then 3 else (if bK t=false then 12 else if l.length=0 then 4 else cn l.length 1 3) from rfl]
 generalize aJ (.mk 10 n s t l fs)=b1 at hn ⊢
 generalize ag (.mk 10 n s t l fs)=b2 at hu ⊢
 simp only[Val.pv_mk] at hn hu
 have hr:=ow t
 generalize bK t=q at hr ⊢
 refine ak.intro cr (by simp[gU]) ?_
 simp(maxSteps:=9^7) (disch:=first|exact dI|fail) only[gU,Val.pv_mk,push_cast,seval]
 refine ab.pure hn rfl ?_
 cases b1 with
 | true=>simp(maxSteps:=9^7) (disch:=first|exact dI|fail) only[push_cast,seval]
 | false=>
 simp(maxSteps:=9^7) (disch:=first|exact dI|fail) only[push_cast,seval]
 refine ab.pure hu rfl ?_
 cases b2 with
 | false=>simp(maxSteps:=9^7) (disch:=first|exact dI|fail) only[push_cast,seval]
 | true=>
 simp(maxSteps:=9^7) (disch:=first|exact dI|fail) only[push_cast,seval]
 refine ab.pure hr rfl ?_
 cases q with
 | false=>simp(maxSteps:=9^7) (disch:=first|exact dI|fail) only[push_cast,seval]
 | true=>
 by_cases h0:l.length=0
 ·have h0I:(l.length:Int)=0:=by omega
  rw[if_pos h0]
  simp(maxSteps:=9^7) (disch:=first|exact dI|fail) only[h0I,push_cast,seval]
 ·have h0I:¬ (l.length:Int)=0:=by omega
  rw[if_neg h0]
  by_cases h5:(1:Int)<l.length
  ·rw[show cn l.length 1 3=3 from if_pos h5]
   simp(maxSteps:=9^7) (disch:=first|exact dI|fail) only[h0I,h5,push_cast,seval]
  ·rw[show cn l.length 1 3=0 from if_neg h5]
   simp(maxSteps:=9^7) (disch:=first|exact dI|fail) only[h0I,h5,push_cast,seval]
end
theorem Kk (v:Val):ak Tryz.prog aD 250 [v.pv] (.int .i64 (fE v)):=by
 by_cases hk:v.kind<1∨10<v.kind
 ·exact r9 v hk
 ·obtain⟨k,n,s,t,l,fs⟩:=v
  simp only[Val.kind] at hk
  have hc:k=1∨k=2∨k=3∨k=4∨k=5∨k=6∨k=7∨k=8∨k=9∨k=10:=by omega
  clear hk
  rcases hc with rfl | rfl | rfl | rfl | rfl | rfl | rfl | rfl | rfl | rfl
  ·exact Cr n s t l fs
  ·exact Cq n s t l fs
  ·exact Cp n s t l fs
  ·exact Co n s t l fs
  ·exact Cn n s t l fs
  ·exact Cm n s t l fs
  ·exact Cl n s t l fs
  ·exact Ck n s t l fs
  ·exact Cj n s t l fs
  ·exact xa n s t l fs
end Go.Proofs.YtbaaokocnegdoaaGreatDoor
