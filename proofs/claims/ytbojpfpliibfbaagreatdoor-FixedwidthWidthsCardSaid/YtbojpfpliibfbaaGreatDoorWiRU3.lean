/- A part of the proof for FixedwidthWidthsCardSaid. -/
import Derived.Test.YtbojpfpliibfbaaGreatDoorWiRU1
set_option maxRecDepth 100000
set_option linter.unusedVariables false
set_option linter.unusedSimpArgs false
-- many steps
namespace Go.Proofs.YtbojpfpliibfbaaGreatDoor
open Go Go.Ab
attribute [local irreducible] vc
def fp (v:Val):Int:=if aK v=true then 19 else if v.kind<1∨10<v.kind then 11 else if am v=false then 3 else bt v
theorem qQ (v:Val)(hk:v.kind<1∨10<v.kind):ae Tryz.prog aD 236 [v.pv] (.int .i64 (fp v)):=by
 have hn:=cB v
 rw[show fp v=if aK v=true then 19 else 11 by unfold fp;rw[if_pos hk]]
 generalize aK v=b at hn ⊢
 obtain⟨k,n,s,t,l,fs⟩:=v
 simp only[Val.kind] at hk
 simp only[Val.pv_mk] at hn
 by_cases h1:k<1
 ·refine ae.intro cm (by simp[gH]) ?_
  simp(maxSteps:=9^7) (disch:=try exact dI) only[gH,Val.pv_mk,push_cast,seval]
  refine ab.pure hn rfl ?_
  cases b with
  | true=>simp(maxSteps:=9^7) (disch:=try exact dI) only[push_cast,seval]
  | false=>simp(maxSteps:=9^7) (disch:=try exact dI) only[h1,push_cast,seval]
 ·have h2:10<k:=by omega
  refine ae.intro cm (by simp[gH]) ?_
  simp(maxSteps:=9^7) (disch:=try exact dI) only[gH,Val.pv_mk,push_cast,seval]
  refine ab.pure hn rfl ?_
  cases b with
  | true=>simp(maxSteps:=9^7) (disch:=try exact dI) only[push_cast,seval]
  | false=>simp(maxSteps:=9^7) (disch:=try exact dI) only[h1,h2,push_cast,seval]
section
variable (n s:Int)(t:List UInt8)(l:List Val)(fs:List Fld)
set_option maxHeartbeats 2000000 in
theorem At:ae Tryz.prog aD 236 [(Val.mk 1 n s t l fs).pv] (.int .i64 (fp (.mk 1 n s t l fs))):=by
 have hn:=cB (.mk 1 n s t l fs)
 have hu:=bD (.mk 1 n s t l fs) (by simp only[Val.kind];omega)
 rw[show fp (.mk 1 n s t l fs)=if aK (.mk 1 n s t l fs)=true then 19 else if am (.mk 1 n s t l fs)=false then 3 else cW n 0 1 from rfl]
 generalize aK (.mk 1 n s t l fs)=b1 at hn ⊢
 generalize am (.mk 1 n s t l fs)=b2 at hu ⊢
 simp only[Val.pv_mk] at hn hu
 have hr:=cb n 0 1
 have hq:cW n 0 1=if inB n 0 1=false then 2 else 0:=by unfold cW inB;by_cases h1:0≤n<;>by_cases h2:n≤1<;>simp[h1,h2]<;>omega
 rw[hq];clear hq
 generalize inB n 0 1=q at hr ⊢
 refine ae.intro cm (by simp[gH]) ?_
 simp(maxSteps:=9^7) (disch:=try exact dI) only[gH,Val.pv_mk,push_cast,seval]
 refine ab.pure hn rfl ?_
 cases b1 with
 | true=>simp(maxSteps:=9^7) (disch:=try exact dI) only[push_cast,seval]
 | false=>
 simp(maxSteps:=9^7) (disch:=try exact dI) only[push_cast,seval]
 refine ab.pure hu rfl ?_
 cases b2 with
 | false=>simp(maxSteps:=9^7) (disch:=try exact dI) only[push_cast,seval]
 | true=>
 simp(maxSteps:=9^7) (disch:=try exact dI) only[push_cast,seval]
 refine ab.pure hr rfl ?_
 cases q with
 | false=>simp(maxSteps:=9^7) (disch:=try exact dI) only[push_cast,seval]
 | true=>simp(maxSteps:=9^7) (disch:=try exact dI) only[push_cast,seval]
set_option maxHeartbeats 2000000 in
theorem As:ae Tryz.prog aD 236 [(Val.mk 2 n s t l fs).pv] (.int .i64 (fp (.mk 2 n s t l fs))):=by
 have hn:=cB (.mk 2 n s t l fs)
 have hu:=bD (.mk 2 n s t l fs) (by simp only[Val.kind];omega)
 rw[show fp (.mk 2 n s t l fs)=if aK (.mk 2 n s t l fs)=true then 19 else if am (.mk 2 n s t l fs)=false then 3 else cW n (-999999999999999) 999999999999999 from rfl]
 generalize aK (.mk 2 n s t l fs)=b1 at hn ⊢
 have hs:am (.mk 2 n s t l fs)=true→s=0:=by simp only[am,Bool.and_eq_true,Bool.or_eq_true,decide_eq_true_eq];omega
 have hr2:=cb 0 0 12
 rw[show inB 0 0 12=true from rfl] at hr2
 generalize am (.mk 2 n s t l fs)=b2 at hu hs ⊢
 simp only[Val.pv_mk] at hn hu
 have hr:=cb n (-999999999999999) 999999999999999
 have hq:cW n (-999999999999999) 999999999999999=if inB n (-999999999999999) 999999999999999=false then 2 else 0:=by unfold cW inB;by_cases h1:(-999999999999999)≤n<;>by_cases h2:n≤999999999999999<;>simp[h1,h2]<;>omega
 rw[hq];clear hq
 generalize inB n (-999999999999999) 999999999999999=q at hr ⊢
 refine ae.intro cm (by simp[gH]) ?_
 simp(maxSteps:=9^7) (disch:=try exact dI) only[gH,Val.pv_mk,push_cast,seval]
 refine ab.pure hn rfl ?_
 cases b1 with
 | true=>simp(maxSteps:=9^7) (disch:=try exact dI) only[push_cast,seval]
 | false=>
 simp(maxSteps:=9^7) (disch:=try exact dI) only[push_cast,seval]
 refine ab.pure hu rfl ?_
 cases b2 with
 | false=>simp(maxSteps:=9^7) (disch:=try exact dI) only[push_cast,seval]
 | true=>
 obtain rfl:=hs rfl
 simp(maxSteps:=9^7) (disch:=try exact dI) only[push_cast,seval]
 refine ab.pure hr rfl ?_
 cases q with
 | false=>simp(maxSteps:=9^7) (disch:=try exact dI) only[push_cast,seval]
 | true => simp(maxSteps:=9^7) (disch:=try exact dI) only[push_cast,seval]
           refine ab.pure hr2 rfl ?_
           simp(maxSteps:=9^7) (disch:=try exact dI) only[push_cast,seval]
set_option maxHeartbeats 2000000 in
theorem Ar:ae Tryz.prog aD 236 [(Val.mk 3 n s t l fs).pv] (.int .i64 (fp (.mk 3 n s t l fs))):=by
 have hn:=cB (.mk 3 n s t l fs)
 have hu:=bD (.mk 3 n s t l fs) (by simp only[Val.kind];omega)
 rw[show fp (.mk 3 n s t l fs)=if aK (.mk 3 n s t l fs)=true then 19 else if am (.mk 3 n s t l fs)=false then 3 else (if cW n (-999999999999999) 999999999999999=0 then cW s 0 12 else cW n (-999999999999999) 999999999999999) from rfl]
 generalize aK (.mk 3 n s t l fs)=b1 at hn ⊢
 generalize am (.mk 3 n s t l fs)=b2 at hu ⊢
 simp only[Val.pv_mk] at hn hu
 have hr:=cb n (-999999999999999) 999999999999999
 have hr2:=cb s 0 12
 have hq:(if cW n (-999999999999999) 999999999999999=0 then cW s 0 12 else cW n (-999999999999999) 999999999999999)=if inB n (-999999999999999) 999999999999999=false then 2 else if inB s 0 12=false then 2 else 0:=by unfold cW inB;by_cases h1:(-999999999999999)≤n<;>by_cases h2:n≤999999999999999<;>by_cases h3:0≤s<;>by_cases h4:s≤12<;>simp[h1,h2,h3,h4]<;>omega
 rw[hq];clear hq
 generalize inB n (-999999999999999) 999999999999999=q at hr ⊢
 generalize inB s 0 12=q2 at hr2 ⊢
 refine ae.intro cm (by simp[gH]) ?_
 simp(maxSteps:=9^7) (disch:=try exact dI) only[gH,Val.pv_mk,push_cast,seval]
 refine ab.pure hn rfl ?_
 cases b1 with
 | true=>simp(maxSteps:=9^7) (disch:=try exact dI) only[push_cast,seval]
 | false=>
 simp(maxSteps:=9^7) (disch:=try exact dI) only[push_cast,seval]
 refine ab.pure hu rfl ?_
 cases b2 with
 | false=>simp(maxSteps:=9^7) (disch:=try exact dI) only[push_cast,seval]
 | true=>
 simp(maxSteps:=9^7) (disch:=try exact dI) only[push_cast,seval]
 refine ab.pure hr rfl ?_
 cases q with
 | false=>simp(maxSteps:=9^7) (disch:=try exact dI) only[push_cast,seval]
 | true=>
 simp(maxSteps:=9^7) (disch:=try exact dI) only[push_cast,seval]
 refine ab.pure hr2 rfl ?_
 cases q2 with
 | false=>simp(maxSteps:=9^7) (disch:=try exact dI) only[push_cast,seval]
 | true=>simp(maxSteps:=9^7) (disch:=try exact dI) only[push_cast,seval]
set_option maxHeartbeats 2000000 in
theorem Aq:ae Tryz.prog aD 236 [(Val.mk 4 n s t l fs).pv] (.int .i64 (fp (.mk 4 n s t l fs))):=by
 have hn:=cB (.mk 4 n s t l fs)
 have hu:=bD (.mk 4 n s t l fs) (by simp only[Val.kind];omega)
 rw[show fp (.mk 4 n s t l fs)=if aK (.mk 4 n s t l fs)=true then 19 else if am (.mk 4 n s t l fs)=false then 3 else (if cg t.length 1024 5=0 then (if Lib.validD t=true then 0 else 16) else cg t.length 1024 5) from rfl]
 generalize aK (.mk 4 n s t l fs)=b1 at hn ⊢
 generalize am (.mk 4 n s t l fs)=b2 at hu ⊢
 simp only[Val.pv_mk] at hn hu
 have hv:=dc t
 generalize Lib.validD t=q at hv ⊢
 refine ae.intro cm (by simp[gH]) ?_
 simp(maxSteps:=9^7) (disch:=try exact dI) only[gH,Val.pv_mk,push_cast,seval]
 refine ab.pure hn rfl ?_
 cases b1 with
 | true=>simp(maxSteps:=9^7) (disch:=try exact dI) only[push_cast,seval]
 | false=>
 simp(maxSteps:=9^7) (disch:=try exact dI) only[push_cast,seval]
 refine ab.pure hu rfl ?_
 cases b2 with
 | false=>simp(maxSteps:=9^7) (disch:=try exact dI) only[push_cast,seval]
 | true=>
 by_cases h5:(1024:Int)<t.length
 ·rw[show cg t.length 1024 5=5 from if_pos h5]
  simp(maxSteps:=9^7) (disch:=try exact dI) only[h5,push_cast,seval]
 ·rw[show cg t.length 1024 5=0 from if_neg h5]
  simp(maxSteps:=9^7) (disch:=try exact dI) only[h5,push_cast,seval]
  refine ab.pure hv rfl ?_
  cases q with
  | false=>simp(maxSteps:=9^7) (disch:=try exact dI) only[push_cast,seval]
  | true=>simp(maxSteps:=9^7) (disch:=try exact dI) only[push_cast,seval]
set_option maxHeartbeats 2000000 in
theorem Ap:ae Tryz.prog aD 236 [(Val.mk 5 n s t l fs).pv] (.int .i64 (fp (.mk 5 n s t l fs))):=by
 have hn:=cB (.mk 5 n s t l fs)
 have hu:=bD (.mk 5 n s t l fs) (by simp only[Val.kind];omega)
 rw[show fp (.mk 5 n s t l fs)=if aK (.mk 5 n s t l fs)=true then 19 else if am (.mk 5 n s t l fs)=false then 3 else cg t.length 1024 5 from rfl]
 generalize aK (.mk 5 n s t l fs)=b1 at hn ⊢
 generalize am (.mk 5 n s t l fs)=b2 at hu ⊢
 simp only[Val.pv_mk] at hn hu
 refine ae.intro cm (by simp[gH]) ?_
 simp(maxSteps:=9^7) (disch:=try exact dI) only[gH,Val.pv_mk,push_cast,seval]
 refine ab.pure hn rfl ?_
 cases b1 with
 | true=>simp(maxSteps:=9^7) (disch:=try exact dI) only[push_cast,seval]
 | false=>
 simp(maxSteps:=9^7) (disch:=try exact dI) only[push_cast,seval]
 refine ab.pure hu rfl ?_
 cases b2 with
 | false=>simp(maxSteps:=9^7) (disch:=try exact dI) only[push_cast,seval]
 | true=>
 by_cases h5:(1024:Int)<t.length
 ·rw[show cg t.length 1024 5=5 from if_pos h5]
  simp(maxSteps:=9^7) (disch:=try exact dI) only[h5,push_cast,seval]
 ·rw[show cg t.length 1024 5=0 from if_neg h5]
  simp(maxSteps:=9^7) (disch:=try exact dI) only[h5,push_cast,seval]
set_option maxHeartbeats 2000000 in
theorem Ao:ae Tryz.prog aD 236 [(Val.mk 6 n s t l fs).pv] (.int .i64 (fp (.mk 6 n s t l fs))):=by
 have hn:=cB (.mk 6 n s t l fs)
 have hu:=bD (.mk 6 n s t l fs) (by simp only[Val.kind];omega)
 rw[show fp (.mk 6 n s t l fs)=if aK (.mk 6 n s t l fs)=true then 19 else if am (.mk 6 n s t l fs)=false then 3 else cW n (-719162) 2932896 from rfl]
 generalize aK (.mk 6 n s t l fs)=b1 at hn ⊢
 generalize am (.mk 6 n s t l fs)=b2 at hu ⊢
 simp only[Val.pv_mk] at hn hu
 have hr:=cb n (-719162) 2932896
 have hq:cW n (-719162) 2932896=if inB n (-719162) 2932896=false then 2 else 0:=by unfold cW inB;by_cases h1:(-719162)≤n<;>by_cases h2:n≤2932896<;>simp[h1,h2]<;>omega
 rw[hq];clear hq
 generalize inB n (-719162) 2932896=q at hr ⊢
 refine ae.intro cm (by simp[gH]) ?_
 simp(maxSteps:=9^7) (disch:=try exact dI) only[gH,Val.pv_mk,push_cast,seval]
 refine ab.pure hn rfl ?_
 cases b1 with
 | true=>simp(maxSteps:=9^7) (disch:=try exact dI) only[push_cast,seval]
 | false=>
 simp(maxSteps:=9^7) (disch:=try exact dI) only[push_cast,seval]
 refine ab.pure hu rfl ?_
 cases b2 with
 | false=>simp(maxSteps:=9^7) (disch:=try exact dI) only[push_cast,seval]
 | true=>
 simp(maxSteps:=9^7) (disch:=try exact dI) only[push_cast,seval]
 refine ab.pure hr rfl ?_
 cases q with
 | false=>simp(maxSteps:=9^7) (disch:=try exact dI) only[push_cast,seval]
 | true=>simp(maxSteps:=9^7) (disch:=try exact dI) only[push_cast,seval]
set_option maxHeartbeats 2000000 in
theorem An:ae Tryz.prog aD 236 [(Val.mk 7 n s t l fs).pv] (.int .i64 (fp (.mk 7 n s t l fs))):=by
 have hn:=cB (.mk 7 n s t l fs)
 have hu:=bD (.mk 7 n s t l fs) (by simp only[Val.kind];omega)
 rw[show fp (.mk 7 n s t l fs)=if aK (.mk 7 n s t l fs)=true then 19 else if am (.mk 7 n s t l fs)=false then 3 else cW n (-62135596800000) 253402300799999 from rfl]
 generalize aK (.mk 7 n s t l fs)=b1 at hn ⊢
 generalize am (.mk 7 n s t l fs)=b2 at hu ⊢
 simp only[Val.pv_mk] at hn hu
 have hr:=cb n (-62135596800000) 253402300799999
 have hq:cW n (-62135596800000) 253402300799999=if inB n (-62135596800000) 253402300799999=false then 2 else 0:=by unfold cW inB;by_cases h1:(-62135596800000)≤n<;>by_cases h2:n≤253402300799999<;>simp[h1,h2]<;>omega
 rw[hq];clear hq
 generalize inB n (-62135596800000) 253402300799999=q at hr ⊢
 refine ae.intro cm (by simp[gH]) ?_
 simp(maxSteps:=9^7) (disch:=try exact dI) only[gH,Val.pv_mk,push_cast,seval]
 refine ab.pure hn rfl ?_
 cases b1 with
 | true=>simp(maxSteps:=9^7) (disch:=try exact dI) only[push_cast,seval]
 | false=>
 simp(maxSteps:=9^7) (disch:=try exact dI) only[push_cast,seval]
 refine ab.pure hu rfl ?_
 cases b2 with
 | false=>simp(maxSteps:=9^7) (disch:=try exact dI) only[push_cast,seval]
 | true=>
 simp(maxSteps:=9^7) (disch:=try exact dI) only[push_cast,seval]
 refine ab.pure hr rfl ?_
 cases q with
 | false=>simp(maxSteps:=9^7) (disch:=try exact dI) only[push_cast,seval]
 | true=>simp(maxSteps:=9^7) (disch:=try exact dI) only[push_cast,seval]
set_option maxHeartbeats 2000000 in
theorem Am:ae Tryz.prog aD 236 [(Val.mk 8 n s t l fs).pv] (.int .i64 (fp (.mk 8 n s t l fs))):=by
 have hn:=cB (.mk 8 n s t l fs)
 have hu:=bD (.mk 8 n s t l fs) (by simp only[Val.kind];omega)
 rw[show fp (.mk 8 n s t l fs)=if aK (.mk 8 n s t l fs)=true then 19 else if am (.mk 8 n s t l fs)=false then 3 else cg l.length 256 9 from rfl]
 generalize aK (.mk 8 n s t l fs)=b1 at hn ⊢
 generalize am (.mk 8 n s t l fs)=b2 at hu ⊢
 simp only[Val.pv_mk] at hn hu
 refine ae.intro cm (by simp[gH]) ?_
 simp(maxSteps:=9^7) (disch:=try exact dI) only[gH,Val.pv_mk,push_cast,seval]
 refine ab.pure hn rfl ?_
 cases b1 with
 | true=>simp(maxSteps:=9^7) (disch:=try exact dI) only[push_cast,seval]
 | false=>
 simp(maxSteps:=9^7) (disch:=try exact dI) only[push_cast,seval]
 refine ab.pure hu rfl ?_
 cases b2 with
 | false=>simp(maxSteps:=9^7) (disch:=try exact dI) only[push_cast,seval]
 | true=>
 by_cases h5:(256:Int)<l.length
 ·rw[show cg l.length 256 9=9 from if_pos h5]
  simp(maxSteps:=9^7) (disch:=try exact dI) only[h5,push_cast,seval]
 ·rw[show cg l.length 256 9=0 from if_neg h5]
  simp(maxSteps:=9^7) (disch:=try exact dI) only[h5,push_cast,seval]
set_option maxHeartbeats 2000000 in
theorem Al:ae Tryz.prog aD 236 [(Val.mk 9 n s t l fs).pv] (.int .i64 (fp (.mk 9 n s t l fs))):=by
 have hn:=cB (.mk 9 n s t l fs)
 have hu:=bD (.mk 9 n s t l fs) (by simp only[Val.kind];omega)
 rw[show fp (.mk 9 n s t l fs)=if aK (.mk 9 n s t l fs)=true then 19 else if am (.mk 9 n s t l fs)=false then 3 else eG fs from rfl]
 generalize aK (.mk 9 n s t l fs)=b1 at hn ⊢
 generalize am (.mk 9 n s t l fs)=b2 at hu ⊢
 simp only[Val.pv_mk] at hn hu
 have hr:=wu fs
 generalize eG fs=q at hr ⊢
 refine ae.intro cm (by simp[gH]) ?_
 simp(maxSteps:=9^7) (disch:=try exact dI) only[gH,Val.pv_mk,push_cast,seval]
 refine ab.pure hn rfl ?_
 cases b1 with
 | true=>simp(maxSteps:=9^7) (disch:=try exact dI) only[push_cast,seval]
 | false=>
 simp(maxSteps:=9^7) (disch:=try exact dI) only[push_cast,seval]
 refine ab.pure hu rfl ?_
 cases b2 with
 | false=>simp(maxSteps:=9^7) (disch:=try exact dI) only[push_cast,seval]
 | true=>
 simp(maxSteps:=9^7) (disch:=try exact dI) only[push_cast,seval]
 refine ab.pure hr rfl ?_
 simp(maxSteps:=9^7) (disch:=try exact dI) only[push_cast,seval]
set_option maxHeartbeats 2000000 in
theorem uN:ae Tryz.prog aD 236 [(Val.mk 10 n s t l fs).pv] (.int .i64 (fp (.mk 10 n s t l fs))):=by
 have hn:=cB (.mk 10 n s t l fs)
 have hu:=bD (.mk 10 n s t l fs) (by simp only[Val.kind];omega)
 rw[show fp (.mk 10 n s t l fs)=if aK (.mk 10 n s t l fs)=true then 19 else if am (.mk 10 n s t l fs)=false then 3 else (if bK t=false then 12 else if l.length=0 then 4 else cg l.length 1 3) from rfl]
 generalize aK (.mk 10 n s t l fs)=b1 at hn ⊢
 generalize am (.mk 10 n s t l fs)=b2 at hu ⊢
 simp only[Val.pv_mk] at hn hu
 have hr:=nC t
 generalize bK t=q at hr ⊢
 refine ae.intro cm (by simp[gH]) ?_
 simp(maxSteps:=9^7) (disch:=try exact dI) only[gH,Val.pv_mk,push_cast,seval]
 refine ab.pure hn rfl ?_
 cases b1 with
 | true=>simp(maxSteps:=9^7) (disch:=try exact dI) only[push_cast,seval]
 | false=>
 simp(maxSteps:=9^7) (disch:=try exact dI) only[push_cast,seval]
 refine ab.pure hu rfl ?_
 cases b2 with
 | false=>simp(maxSteps:=9^7) (disch:=try exact dI) only[push_cast,seval]
 | true=>
 simp(maxSteps:=9^7) (disch:=try exact dI) only[push_cast,seval]
 refine ab.pure hr rfl ?_
 cases q with
 | false=>simp(maxSteps:=9^7) (disch:=try exact dI) only[push_cast,seval]
 | true=>
 by_cases h0:l.length=0
 ·have h0I:(l.length:Int)=0:=by omega
  rw[if_pos h0]
  simp(maxSteps:=9^7) (disch:=try exact dI) only[h0I,push_cast,seval]
 ·have h0I:¬ (l.length:Int)=0:=by omega
  rw[if_neg h0]
  by_cases h5:(1:Int)<l.length
  ·rw[show cg l.length 1 3=3 from if_pos h5]
   simp(maxSteps:=9^7) (disch:=try exact dI) only[h0I,h5,push_cast,seval]
  ·rw[show cg l.length 1 3=0 from if_neg h5]
   simp(maxSteps:=9^7) (disch:=try exact dI) only[h0I,h5,push_cast,seval]
end
theorem Ik (v:Val):ae Tryz.prog aD 236 [v.pv] (.int .i64 (fp v)):=by
 by_cases hk:v.kind<1∨10<v.kind
 ·exact qQ v hk
 ·obtain⟨k,n,s,t,l,fs⟩:=v
  simp only[Val.kind] at hk
  have hc:k=1∨k=2∨k=3∨k=4∨k=5∨k=6∨k=7∨k=8∨k=9∨k=10:=by omega
  clear hk
  rcases hc with rfl | rfl | rfl | rfl | rfl | rfl | rfl | rfl | rfl | rfl
  ·exact At n s t l fs
  ·exact As n s t l fs
  ·exact Ar n s t l fs
  ·exact Aq n s t l fs
  ·exact Ap n s t l fs
  ·exact Ao n s t l fs
  ·exact An n s t l fs
  ·exact Am n s t l fs
  ·exact Al n s t l fs
  ·exact uN n s t l fs
end Go.Proofs.YtbojpfpliibfbaaGreatDoor
