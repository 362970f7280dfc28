/- A part of the proof for DelimitedRepresentableCardSaid. -/
import Derived.Test.YtbaaokocnegdoaaGreatDoorRepVSi
set_option maxRecDepth 100000
set_option linter.unusedVariables false
set_option linter.unusedSimpArgs false
-- many steps
namespace Go.Proofs.YtbaaokocnegdoaaGreatDoor
open Go Go.Ab
attribute [local irreducible] vc
def fW (v:Val):Int:=if aN v=true then 19 else if v.kind<1∨10<v.kind then 11 else if ak v=false then 3 else bz v
theorem ta (v:Val)(hk:v.kind<1∨10<v.kind):am Tryz.prog aE 250 [v.pv] (.int .i64 (fW v)):=by
 have hn:=cU v
 rw[show fW v=if aN v=true then 19 else 11 by unfold fW;rw[if_pos hk]]
 generalize aN v=b at hn ⊢
 obtain⟨k,n,s,t,l,fs⟩:=v
 simp only[Val.kind] at hk
 simp only[Val.pv_mk] at hn
 by_cases h1:k<1
 ·refine am.intro cC (by simp[io]) ?_
  simp(maxSteps:=9^7) (disch:=first|exact dI|fail) only[io,Val.pv_mk,push_cast,seval]
  refine ab.pure hn rfl ?_
  cases b with
  | true=>simp(maxSteps:=9^7) (disch:=first|exact dI|fail) only[push_cast,seval]
  | false=>simp(maxSteps:=9^7) (disch:=first|exact dI|fail) only[h1,push_cast,seval]
 ·have h2:10<k:=by omega
  refine am.intro cC (by simp[io]) ?_
  simp(maxSteps:=9^7) (disch:=first|exact dI|fail) only[io,Val.pv_mk,push_cast,seval]
  refine ab.pure hn rfl ?_
  cases b with
  | true=>simp(maxSteps:=9^7) (disch:=first|exact dI|fail) only[push_cast,seval]
  | false=>simp(maxSteps:=9^7) (disch:=first|exact dI|fail) only[h1,h2,push_cast,seval]
section
variable (n s:Int)(t:List UInt8)(l:List Val)(fs:List Fld)
set_option maxHeartbeats 2000000 in
theorem DC:am Tryz.prog aE 250 [(Val.mk 1 n s t l fs).pv] (.int .i64 (fW (.mk 1 n s t l fs))):=by
 have hn:=cU (.mk 1 n s t l fs)
 have hu:=bI (.mk 1 n s t l fs) (by simp only[Val.kind];omega)
 rw[show fW (.mk 1 n s t l fs)=if aN (.mk 1 n s t l fs)=true then 19 else if ak (.mk 1 n s t l fs)=false then 3 else dp n 0 1 from rfl]
 generalize aN (.mk 1 n s t l fs)=b1 at hn ⊢
 generalize ak (.mk 1 n s t l fs)=b2 at hu ⊢
 simp only[Val.pv_mk] at hn hu
 have hr:=cl n 0 1
 have hq:dp n 0 1=if inB n 0 1=false then 2 else 0:=by unfold dp inB;by_cases h1:0≤n<;>by_cases h2:n≤1<;>simp[h1,h2]<;>omega
 rw[hq];clear hq
 generalize inB n 0 1=q at hr ⊢
 refine am.intro cC (by simp[io]) ?_
 simp(maxSteps:=9^7) (disch:=first|exact dI|fail) only[io,Val.pv_mk,push_cast,seval]
 refine ab.pure hn rfl ?_
 cases b1 with
 | true=>simp(maxSteps:=9^7) (disch:=first|exact dI|fail) only[push_cast,seval]
 | false=>
 simp(maxSteps:=9^7) (disch:=first|exact dI|fail) only[push_cast,seval]
 refine ab.pure hu rfl ?_
 cases b2 with
 | false=>simp(maxSteps:=9^7) (disch:=first|exact dI|fail) only[push_cast,seval]
 | true=>
 simp(maxSteps:=9^7) (disch:=first|exact dI|fail) only[push_cast,seval]
 refine ab.pure hr rfl ?_
 cases q with
 | false=>simp(maxSteps:=9^7) (disch:=first|exact dI|fail) only[push_cast,seval]
 | true=>simp(maxSteps:=9^7) (disch:=first|exact dI|fail) only[push_cast,seval]
set_option maxHeartbeats 2000000 in
theorem DB:am Tryz.prog aE 250 [(Val.mk 2 n s t l fs).pv] (.int .i64 (fW (.mk 2 n s t l fs))):=by
 have hn:=cU (.mk 2 n s t l fs)
 have hu:=bI (.mk 2 n s t l fs) (by simp only[Val.kind];omega)
 rw[show fW (.mk 2 n s t l fs)=if aN (.mk 2 n s t l fs)=true then 19 else if ak (.mk 2 n s t l fs)=false then 3 else dp n (-999999999999999) 999999999999999 from rfl]
 generalize aN (.mk 2 n s t l fs)=b1 at hn ⊢
 have hs:ak (.mk 2 n s t l fs)=true→s=0:=by simp only[ak,Bool.and_eq_true,Bool.or_eq_true,decide_eq_true_eq];omega
 have hr2:=cl 0 0 12
 rw[show inB 0 0 12=true from rfl] at hr2
 generalize ak (.mk 2 n s t l fs)=b2 at hu hs ⊢
 simp only[Val.pv_mk] at hn hu
 have hr:=cl n (-999999999999999) 999999999999999
 have hq:dp n (-999999999999999) 999999999999999=if inB n (-999999999999999) 999999999999999=false then 2 else 0:=by unfold dp inB;by_cases h1:(-999999999999999)≤n<;>by_cases h2:n≤999999999999999<;>simp[h1,h2]<;>omega
 rw[hq];clear hq
 generalize inB n (-999999999999999) 999999999999999=q at hr ⊢
 refine am.intro cC (by simp[io]) ?_
 simp(maxSteps:=9^7) (disch:=first|exact dI|fail) only[io,Val.pv_mk,push_cast,seval]
 refine ab.pure hn rfl ?_
 cases b1 with
 | true=>simp(maxSteps:=9^7) (disch:=first|exact dI|fail) only[push_cast,seval]
 | false=>
 simp(maxSteps:=9^7) (disch:=first|exact dI|fail) only[push_cast,seval]
 refine ab.pure hu rfl ?_
 cases b2 with
 | false=>simp(maxSteps:=9^7) (disch:=first|exact dI|fail) only[push_cast,seval]
 | true=>
 obtain rfl:=hs rfl
 simp(maxSteps:=9^7) (disch:=first|exact dI|fail) only[push_cast,seval]
 refine ab.pure hr rfl ?_
 cases q with
 | false=>simp(maxSteps:=9^7) (disch:=first|exact dI|fail) only[push_cast,seval]
 | true => simp(maxSteps:=9^7) (disch:=first|exact dI|fail) only[push_cast,seval]
           refine ab.pure hr2 rfl ?_
           simp(maxSteps:=9^7) (disch:=first|exact dI|fail) only[push_cast,seval]
set_option maxHeartbeats 2000000 in
theorem DA:am Tryz.prog aE 250 [(Val.mk 3 n s t l fs).pv] (.int .i64 (fW (.mk 3 n s t l fs))):=by
 have hn:=cU (.mk 3 n s t l fs)
 have hu:=bI (.mk 3 n s t l fs) (by simp only[Val.kind];omega)
 rw[show fW (.mk 3 n s t l fs)=if aN (.mk 3 n s t l fs)=true then 19 else if ak (.mk 3 n s t l fs)=false then 3 else (if dp n (-999999999999999) 999999999999999=0 then dp s 0 12 else dp n (-999999999999999) 999999999999999) from rfl]
 generalize aN (.mk 3 n s t l fs)=b1 at hn ⊢
 generalize ak (.mk 3 n s t l fs)=b2 at hu ⊢
 simp only[Val.pv_mk] at hn hu
 have hr:=cl n (-999999999999999) 999999999999999
 have hr2:=cl s 0 12
 have hq:(if dp n (-999999999999999) 999999999999999=0 then dp s 0 12 else dp n (-999999999999999) 999999999999999)=if inB n (-999999999999999) 999999999999999=false then 2 else if inB s 0 12=false then 2 else 0:=by unfold dp inB;by_cases h1:(-999999999999999)≤n<;>by_cases h2:n≤999999999999999<;>by_cases h3:0≤s<;>by_cases h4:s≤12<;>simp[h1,h2,h3,h4]<;>omega
 rw[hq];clear hq
 generalize inB n (-999999999999999) 999999999999999=q at hr ⊢
 generalize inB s 0 12=q2 at hr2 ⊢
 refine am.intro cC (by simp[io]) ?_
 simp(maxSteps:=9^7) (disch:=first|exact dI|fail) only[io,Val.pv_mk,push_cast,seval]
 refine ab.pure hn rfl ?_
 cases b1 with
 | true=>simp(maxSteps:=9^7) (disch:=first|exact dI|fail) only[push_cast,seval]
 | false=>
 simp(maxSteps:=9^7) (disch:=first|exact dI|fail) only[push_cast,seval]
 refine ab.pure hu rfl ?_
 cases b2 with
 | false=>simp(maxSteps:=9^7) (disch:=first|exact dI|fail) only[push_cast,seval]
 | true=>
 simp(maxSteps:=9^7) (disch:=first|exact dI|fail) only[push_cast,seval]
 refine ab.pure hr rfl ?_
 cases q with
 | false=>simp(maxSteps:=9^7) (disch:=first|exact dI|fail) only[push_cast,seval]
 | true=>
 simp(maxSteps:=9^7) (disch:=first|exact dI|fail) only[push_cast,seval]
 refine ab.pure hr2 rfl ?_
 cases q2 with
 | false=>simp(maxSteps:=9^7) (disch:=first|exact dI|fail) only[push_cast,seval]
 | true=>simp(maxSteps:=9^7) (disch:=first|exact dI|fail) only[push_cast,seval]
set_option maxHeartbeats 2000000 in
theorem Dz:am Tryz.prog aE 250 [(Val.mk 4 n s t l fs).pv] (.int .i64 (fW (.mk 4 n s t l fs))):=by
 have hn:=cU (.mk 4 n s t l fs)
 have hu:=bI (.mk 4 n s t l fs) (by simp only[Val.kind];omega)
 rw[show fW (.mk 4 n s t l fs)=if aN (.mk 4 n s t l fs)=true then 19 else if ak (.mk 4 n s t l fs)=false then 3 else (if cy t.length 1024 5=0 then (if Lib.validD t=true then 0 else 16) else cy t.length 1024 5) from rfl]
 generalize aN (.mk 4 n s t l fs)=b1 at hn ⊢
 generalize ak (.mk 4 n s t l fs)=b2 at hu ⊢
 simp only[Val.pv_mk] at hn hu
 have hv:=dw t
 generalize Lib.validD t=q at hv ⊢
 refine am.intro cC (by simp[io]) ?_
 simp(maxSteps:=9^7) (disch:=first|exact dI|fail) only[io,Val.pv_mk,push_cast,seval]
 refine ab.pure hn rfl ?_
 cases b1 with
 | true=>simp(maxSteps:=9^7) (disch:=first|exact dI|fail) only[push_cast,seval]
 | false=>
 simp(maxSteps:=9^7) (disch:=first|exact dI|fail) only[push_cast,seval]
 refine ab.pure hu rfl ?_
 cases b2 with
 | false=>simp(maxSteps:=9^7) (disch:=first|exact dI|fail) only[push_cast,seval]
 | true=>
 by_cases h5:(1024:Int)<t.length
 ·rw[show cy t.length 1024 5=5 from if_pos h5]
  simp(maxSteps:=9^7) (disch:=first|exact dI|fail) only[h5,push_cast,seval]
 ·rw[show cy t.length 1024 5=0 from if_neg h5]
  simp(maxSteps:=9^7) (disch:=first|exact dI|fail) only[h5,push_cast,seval]
  refine ab.pure hv rfl ?_
  cases q with
  | false=>simp(maxSteps:=9^7) (disch:=first|exact dI|fail) only[push_cast,seval]
  | true=>simp(maxSteps:=9^7) (disch:=first|exact dI|fail) only[push_cast,seval]
set_option maxHeartbeats 2000000 in
theorem Dy:am Tryz.prog aE 250 [(Val.mk 5 n s t l fs).pv] (.int .i64 (fW (.mk 5 n s t l fs))):=by
 have hn:=cU (.mk 5 n s t l fs)
 have hu:=bI (.mk 5 n s t l fs) (by simp only[Val.kind];omega)
 rw[show fW (.mk 5 n s t l fs)=if aN (.mk 5 n s t l fs)=true then 19 else if ak (.mk 5 n s t l fs)=false then 3 else cy t.length 1024 5 from rfl]
 generalize aN (.mk 5 n s t l fs)=b1 at hn ⊢
 generalize ak (.mk 5 n s t l fs)=b2 at hu ⊢
 simp only[Val.pv_mk] at hn hu
 refine am.intro cC (by simp[io]) ?_
 simp(maxSteps:=9^7) (disch:=first|exact dI|fail) only[io,Val.pv_mk,push_cast,seval]
 refine ab.pure hn rfl ?_
 cases b1 with
 | true=>simp(maxSteps:=9^7) (disch:=first|exact dI|fail) only[push_cast,seval]
 | false=>
 simp(maxSteps:=9^7) (disch:=first|exact dI|fail) only[push_cast,seval]
 refine ab.pure hu rfl ?_
 cases b2 with
 | false=>simp(maxSteps:=9^7) (disch:=first|exact dI|fail) only[push_cast,seval]
 | true=>
 by_cases h5:(1024:Int)<t.length
 ·rw[show cy t.length 1024 5=5 from if_pos h5]
  simp(maxSteps:=9^7) (disch:=first|exact dI|fail) only[h5,push_cast,seval]
 ·rw[show cy t.length 1024 5=0 from if_neg h5]
  simp(maxSteps:=9^7) (disch:=first|exact dI|fail) only[h5,push_cast,seval]
set_option maxHeartbeats 2000000 in
theorem Dx:am Tryz.prog aE 250 [(Val.mk 6 n s t l fs).pv] (.int .i64 (fW (.mk 6 n s t l fs))):=by
 have hn:=cU (.mk 6 n s t l fs)
 have hu:=bI (.mk 6 n s t l fs) (by simp only[Val.kind];omega)
 rw[show fW (.mk 6 n s t l fs)=if aN (.mk 6 n s t l fs)=true then 19 else if ak (.mk 6 n s t l fs)=false then 3 else dp n (-719162) 2932896 from rfl]
 generalize aN (.mk 6 n s t l fs)=b1 at hn ⊢
 generalize ak (.mk 6 n s t l fs)=b2 at hu ⊢
 simp only[Val.pv_mk] at hn hu
 have hr:=cl n (-719162) 2932896
 have hq:dp n (-719162) 2932896=if inB n (-719162) 2932896=false then 2 else 0:=by unfold dp inB;by_cases h1:(-719162)≤n<;>by_cases h2:n≤2932896<;>simp[h1,h2]<;>omega
 rw[hq];clear hq
 generalize inB n (-719162) 2932896=q at hr ⊢
 refine am.intro cC (by simp[io]) ?_
 simp(maxSteps:=9^7) (disch:=first|exact dI|fail) only[io,Val.pv_mk,push_cast,seval]
 refine ab.pure hn rfl ?_
 cases b1 with
 | true=>simp(maxSteps:=9^7) (disch:=first|exact dI|fail) only[push_cast,seval]
 | false=>
 simp(maxSteps:=9^7) (disch:=first|exact dI|fail) only[push_cast,seval]
 refine ab.pure hu rfl ?_
 cases b2 with
 | false=>simp(maxSteps:=9^7) (disch:=first|exact dI|fail) only[push_cast,seval]
 | true=>
 simp(maxSteps:=9^7) (disch:=first|exact dI|fail) only[push_cast,seval]
 refine ab.pure hr rfl ?_
 cases q with
 | false=>simp(maxSteps:=9^7) (disch:=first|exact dI|fail) only[push_cast,seval]
 | true=>simp(maxSteps:=9^7) (disch:=first|exact dI|fail) only[push_cast,seval]
set_option maxHeartbeats 2000000 in
theorem Dw:am Tryz.prog aE 250 [(Val.mk 7 n s t l fs).pv] (.int .i64 (fW (.mk 7 n s t l fs))):=by
 have hn:=cU (.mk 7 n s t l fs)
 have hu:=bI (.mk 7 n s t l fs) (by simp only[Val.kind];omega)
 rw[show fW (.mk 7 n s t l fs)=if aN (.mk 7 n s t l fs)=true then 19 else if ak (.mk 7 n s t l fs)=false then 3 else dp n (-62135596800000) 253402300799999 from rfl]
 generalize aN (.mk 7 n s t l fs)=b1 at hn ⊢
 generalize ak (.mk 7 n s t l fs)=b2 at hu ⊢
 simp only[Val.pv_mk] at hn hu
 have hr:=cl n (-62135596800000) 253402300799999
 have hq:dp n (-62135596800000) 253402300799999=if inB n (-62135596800000) 253402300799999=false then 2 else 0:=by unfold dp inB;by_cases h1:(-62135596800000)≤n<;>by_cases h2:n≤253402300799999<;>simp[h1,h2]<;>omega
 rw[hq];clear hq
 generalize inB n (-62135596800000) 253402300799999=q at hr ⊢
 refine am.intro cC (by simp[io]) ?_
 simp(maxSteps:=9^7) (disch:=first|exact dI|fail) only[io,Val.pv_mk,push_cast,seval]
 refine ab.pure hn rfl ?_
 cases b1 with
 | true=>simp(maxSteps:=9^7) (disch:=first|exact dI|fail) only[push_cast,seval]
 | false=>
 simp(maxSteps:=9^7) (disch:=first|exact dI|fail) only[push_cast,seval]
 refine ab.pure hu rfl ?_
 cases b2 with
 | false=>simp(maxSteps:=9^7) (disch:=first|exact dI|fail) only[push_cast,seval]
 | true=>
 simp(maxSteps:=9^7) (disch:=first|exact dI|fail) only[push_cast,seval]
 refine ab.pure hr rfl ?_
 cases q with
 | false=>simp(maxSteps:=9^7) (disch:=first|exact dI|fail) only[push_cast,seval]
 | true=>simp(maxSteps:=9^7) (disch:=first|exact dI|fail) only[push_cast,seval]
set_option maxHeartbeats 2000000 in
theorem Dv:am Tryz.prog aE 250 [(Val.mk 8 n s t l fs).pv] (.int .i64 (fW (.mk 8 n s t l fs))):=by
 have hn:=cU (.mk 8 n s t l fs)
 have hu:=bI (.mk 8 n s t l fs) (by simp only[Val.kind];omega)
 rw[show fW (.mk 8 n s t l fs)=if aN (.mk 8 n s t l fs)=true then 19 else if ak (.mk 8 n s t l fs)=false then 3 else cy l.length 256 9 from rfl]
 generalize aN (.mk 8 n s t l fs)=b1 at hn ⊢
 generalize ak (.mk 8 n s t l fs)=b2 at hu ⊢
 simp only[Val.pv_mk] at hn hu
 refine am.intro cC (by simp[io]) ?_
 simp(maxSteps:=9^7) (disch:=first|exact dI|fail) only[io,Val.pv_mk,push_cast,seval]
 refine ab.pure hn rfl ?_
 cases b1 with
 | true=>simp(maxSteps:=9^7) (disch:=first|exact dI|fail) only[push_cast,seval]
 | false=>
 simp(maxSteps:=9^7) (disch:=first|exact dI|fail) only[push_cast,seval]
 refine ab.pure hu rfl ?_
 cases b2 with
 | false=>simp(maxSteps:=9^7) (disch:=first|exact dI|fail) only[push_cast,seval]
 | true=>
 by_cases h5:(256:Int)<l.length
 ·rw[show cy l.length 256 9=9 from if_pos h5]
  simp(maxSteps:=9^7) (disch:=first|exact dI|fail) only[h5,push_cast,seval]
 ·rw[show cy l.length 256 9=0 from if_neg h5]
  simp(maxSteps:=9^7) (disch:=first|exact dI|fail) only[h5,push_cast,seval]
set_option maxHeartbeats 2000000 in
theorem Du:am Tryz.prog aE 250 [(Val.mk 9 n s t l fs).pv] (.int .i64 (fW (.mk 9 n s t l fs))):=by
 have hn:=cU (.mk 9 n s t l fs)
 have hu:=bI (.mk 9 n s t l fs) (by simp only[Val.kind];omega)
 rw[show fW (.mk 9 n s t l fs)=if aN (.mk 9 n s t l fs)=true then 19 else if ak (.mk 9 n s t l fs)=false then 3 else e5 fs from rfl]
 generalize aN (.mk 9 n s t l fs)=b1 at hn ⊢
 generalize ak (.mk 9 n s t l fs)=b2 at hu ⊢
 simp only[Val.pv_mk] at hn hu
 have hr:=An fs
 generalize e5 fs=q at hr ⊢
 refine am.intro cC (by simp[io]) ?_
 simp(maxSteps:=9^7) (disch:=first|exact dI|fail) only[io,Val.pv_mk,push_cast,seval]
 refine ab.pure hn rfl ?_
 cases b1 with
 | true=>simp(maxSteps:=9^7) (disch:=first|exact dI|fail) only[push_cast,seval]
 | false=>
 simp(maxSteps:=9^7) (disch:=first|exact dI|fail) only[push_cast,seval]
 refine ab.pure hu rfl ?_
 cases b2 with
 | false=>simp(maxSteps:=9^7) (disch:=first|exact dI|fail) only[push_cast,seval]
 | true=>
 simp(maxSteps:=9^7) (disch:=first|exact dI|fail) only[push_cast,seval]
 refine ab.pure hr rfl ?_
 simp(maxSteps:=9^7) (disch:=first|exact dI|fail) only[push_cast,seval]
set_option maxHeartbeats 2000000 in
theorem yj:am Tryz.prog aE 250 [(Val.mk 10 n s t l fs).pv] (.int .i64 (fW (.mk 10 n s t l fs))):=by
 have hn:=cU (.mk 10 n s t l fs)
 have hu:=bI (.mk 10 n s t l fs) (by simp only[Val.kind];omega)
 rw[show fW (.mk 10 n s t l fs)=if aN (.mk 10 n s t l fs)=true then 19 else if ak (.mk 10 n s t l fs)=false then 3 else (if bR t=false then 12 else if l.length=0 then 4 else cy l.length 1 3) from rfl]
 generalize aN (.mk 10 n s t l fs)=b1 at hn ⊢
 generalize ak (.mk 10 n s t l fs)=b2 at hu ⊢
 simp only[Val.pv_mk] at hn hu
 have hr:=pi t
 generalize bR t=q at hr ⊢
 refine am.intro cC (by simp[io]) ?_
 simp(maxSteps:=9^7) (disch:=first|exact dI|fail) only[io,Val.pv_mk,push_cast,seval]
 refine ab.pure hn rfl ?_
 cases b1 with
 | true=>simp(maxSteps:=9^7) (disch:=first|exact dI|fail) only[push_cast,seval]
 | false=>
 simp(maxSteps:=9^7) (disch:=first|exact dI|fail) only[push_cast,seval]
 refine ab.pure hu rfl ?_
 cases b2 with
 | false=>simp(maxSteps:=9^7) (disch:=first|exact dI|fail) only[push_cast,seval]
 | true=>
 simp(maxSteps:=9^7) (disch:=first|exact dI|fail) only[push_cast,seval]
 refine ab.pure hr rfl ?_
 cases q with
 | false=>simp(maxSteps:=9^7) (disch:=first|exact dI|fail) only[push_cast,seval]
 | true=>
 by_cases h0:l.length=0
 ·have h0I:(l.length:Int)=0:=by omega
  rw[if_pos h0]
  simp(maxSteps:=9^7) (disch:=first|exact dI|fail) only[h0I,push_cast,seval]
 ·have h0I:¬ (l.length:Int)=0:=by omega
  rw[if_neg h0]
  by_cases h5:(1:Int)<l.length
  ·rw[show cy l.length 1 3=3 from if_pos h5]
   simp(maxSteps:=9^7) (disch:=first|exact dI|fail) only[h0I,h5,push_cast,seval]
  ·rw[show cy l.length 1 3=0 from if_neg h5]
   simp(maxSteps:=9^7) (disch:=first|exact dI|fail) only[h0I,h5,push_cast,seval]
end
theorem LN (v:Val):am Tryz.prog aE 250 [v.pv] (.int .i64 (fW v)):=by
 by_cases hk:v.kind<1∨10<v.kind
 ·exact ta v hk
 ·obtain⟨k,n,s,t,l,fs⟩:=v
  simp only[Val.kind] at hk
  have hc:k=1∨k=2∨k=3∨k=4∨k=5∨k=6∨k=7∨k=8∨k=9∨k=10:=by omega
  clear hk
  rcases hc with rfl | rfl | rfl | rfl | rfl | rfl | rfl | rfl | rfl | rfl
  ·exact DC n s t l fs
  ·exact DB n s t l fs
  ·exact DA n s t l fs
  ·exact Dz n s t l fs
  ·exact Dy n s t l fs
  ·exact Dx n s t l fs
  ·exact Dw n s t l fs
  ·exact Dv n s t l fs
  ·exact Du n s t l fs
  ·exact yj n s t l fs
end Go.Proofs.YtbaaokocnegdoaaGreatDoor
