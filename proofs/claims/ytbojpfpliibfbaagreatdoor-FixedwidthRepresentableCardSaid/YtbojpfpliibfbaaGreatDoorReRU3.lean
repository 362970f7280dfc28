/- A part of the proof for FixedwidthRepresentableCardSaid. -/
import Derived.Test.YtbojpfpliibfbaaGreatDoorReRU1
set_option maxRecDepth 100000
set_option linter.unusedVariables false
set_option linter.unusedSimpArgs false
-- many steps
namespace Go.Proofs.YtbojpfpliibfbaaGreatDoor
open Go Go.Ab
attribute [local irreducible] vc
def fu (v:Val):Int:=if aL v=true then 19 else if v.kind<1∨10<v.kind then 11 else if am v=false then 3 else bu v
theorem qX (v:Val)(hk:v.kind<1∨10<v.kind):ag Tryz.prog aD 236 [v.pv] (.int .i64 (fu v)):=by
 have hn:=cE v
 rw[show fu v=if aL v=true then 19 else 11 by unfold fu;rw[if_pos hk]]
 generalize aL v=b at hn ⊢
 obtain⟨k,n,s,t,l,fs⟩:=v
 simp only[Val.kind] at hk
 simp only[Val.pv_mk] at hn
 by_cases h1:k<1
 ·refine ag.intro cr (by simp[gJ]) ?_
  simp(maxSteps:=9^7) (disch:=try exact dI) only[gJ,Val.pv_mk,push_cast,seval]
  refine ab.pure hn rfl ?_
  cases b with
  | true=>simp(maxSteps:=9^7) (disch:=try exact dI) only[push_cast,seval]
  | false=>simp(maxSteps:=9^7) (disch:=try exact dI) only[h1,push_cast,seval]
 ·have h2:10<k:=by omega
  refine ag.intro cr (by simp[gJ]) ?_
  simp(maxSteps:=9^7) (disch:=try exact dI) only[gJ,Val.pv_mk,push_cast,seval]
  refine ab.pure hn rfl ?_
  cases b with
  | true=>simp(maxSteps:=9^7) (disch:=try exact dI) only[push_cast,seval]
  | false=>simp(maxSteps:=9^7) (disch:=try exact dI) only[h1,h2,push_cast,seval]
section
variable (n s:Int)(t:List UInt8)(l:List Val)(fs:List Fld)
set_option maxHeartbeats 2000000 in
theorem AD:ag Tryz.prog aD 236 [(Val.mk 1 n s t l fs).pv] (.int .i64 (fu (.mk 1 n s t l fs))):=by
 have hn:=cE (.mk 1 n s t l fs)
 have hu:=bF (.mk 1 n s t l fs) (by simp only[Val.kind];omega)
 rw[show fu (.mk 1 n s t l fs)=if aL (.mk 1 n s t l fs)=true then 19 else if am (.mk 1 n s t l fs)=false then 3 else da n 0 1 from rfl]
 generalize aL (.mk 1 n s t l fs)=b1 at hn ⊢
 generalize am (.mk 1 n s t l fs)=b2 at hu ⊢
 simp only[Val.pv_mk] at hn hu
 have hr:=cf n 0 1
 have hq:da n 0 1=if inB n 0 1=false then 2 else 0:=by unfold da inB;by_cases h1:0≤n<;>by_cases h2:n≤1<;>simp[h1,h2]<;>omega
 rw[hq];clear hq
 generalize inB n 0 1=q at hr ⊢
 refine ag.intro cr (by simp[gJ]) ?_
 simp(maxSteps:=9^7) (disch:=try exact dI) only[gJ,Val.pv_mk,push_cast,seval]
 refine ab.pure hn rfl ?_
 cases b1 with
 | true=>simp(maxSteps:=9^7) (disch:=try exact dI) only[push_cast,seval]
 | false=>
 simp(maxSteps:=9^7) (disch:=try exact dI) only[push_cast,seval]
 refine ab.pure hu rfl ?_
 cases b2 with
 | false=>simp(maxSteps:=9^7) (disch:=try exact dI) only[push_cast,seval]
 | true=>
 simp(maxSteps:=9^7) (disch:=try exact dI) only[push_cast,seval]
 refine ab.pure hr rfl ?_
 cases q with
 | false=>simp(maxSteps:=9^7) (disch:=try exact dI) only[push_cast,seval]
 | true=>simp(maxSteps:=9^7) (disch:=try exact dI) only[push_cast,seval]
set_option maxHeartbeats 2000000 in
theorem AC:ag Tryz.prog aD 236 [(Val.mk 2 n s t l fs).pv] (.int .i64 (fu (.mk 2 n s t l fs))):=by
 have hn:=cE (.mk 2 n s t l fs)
 have hu:=bF (.mk 2 n s t l fs) (by simp only[Val.kind];omega)
 rw[show fu (.mk 2 n s t l fs)=if aL (.mk 2 n s t l fs)=true then 19 else if am (.mk 2 n s t l fs)=false then 3 else da n (-999999999999999) 999999999999999 from rfl]
 generalize aL (.mk 2 n s t l fs)=b1 at hn ⊢
 have hs:am (.mk 2 n s t l fs)=true→s=0:=by simp only[am,Bool.and_eq_true,Bool.or_eq_true,decide_eq_true_eq];omega
 have hr2:=cf 0 0 12
 rw[show inB 0 0 12=true from rfl] at hr2
 generalize am (.mk 2 n s t l fs)=b2 at hu hs ⊢
 simp only[Val.pv_mk] at hn hu
 have hr:=cf n (-999999999999999) 999999999999999
 have hq:da n (-999999999999999) 999999999999999=if inB n (-999999999999999) 999999999999999=false then 2 else 0:=by unfold da inB;by_cases h1:(-999999999999999)≤n<;>by_cases h2:n≤999999999999999<;>simp[h1,h2]<;>omega
 rw[hq];clear hq
 generalize inB n (-999999999999999) 999999999999999=q at hr ⊢
 refine ag.intro cr (by simp[gJ]) ?_
 simp(maxSteps:=9^7) (disch:=try exact dI) only[gJ,Val.pv_mk,push_cast,seval]
 refine ab.pure hn rfl ?_
 cases b1 with
 | true=>simp(maxSteps:=9^7) (disch:=try exact dI) only[push_cast,seval]
 | false=>
 simp(maxSteps:=9^7) (disch:=try exact dI) only[push_cast,seval]
 refine ab.pure hu rfl ?_
 cases b2 with
 | false=>simp(maxSteps:=9^7) (disch:=try exact dI) only[push_cast,seval]
 | true=>
 obtain rfl:=hs rfl
 simp(maxSteps:=9^7) (disch:=try exact dI) only[push_cast,seval]
 refine ab.pure hr rfl ?_
 cases q with
 | false=>simp(maxSteps:=9^7) (disch:=try exact dI) only[push_cast,seval]
 | true => simp(maxSteps:=9^7) (disch:=try exact dI) only[push_cast,seval]
           refine ab.pure hr2 rfl ?_
           simp(maxSteps:=9^7) (disch:=try exact dI) only[push_cast,seval]
set_option maxHeartbeats 2000000 in
theorem AB:ag Tryz.prog aD 236 [(Val.mk 3 n s t l fs).pv] (.int .i64 (fu (.mk 3 n s t l fs))):=by
 have hn:=cE (.mk 3 n s t l fs)
 have hu:=bF (.mk 3 n s t l fs) (by simp only[Val.kind];omega)
 rw[show fu (.mk 3 n s t l fs)=if aL (.mk 3 n s t l fs)=true then 19 else if am (.mk 3 n s t l fs)=false then 3 else (if da n (-999999999999999) 999999999999999=0 then da s 0 12 else da n (-999999999999999) 999999999999999) from rfl]
 generalize aL (.mk 3 n s t l fs)=b1 at hn ⊢
 generalize am (.mk 3 n s t l fs)=b2 at hu ⊢
 simp only[Val.pv_mk] at hn hu
 have hr:=cf n (-999999999999999) 999999999999999
 have hr2:=cf s 0 12
 have hq:(if da n (-999999999999999) 999999999999999=0 then da s 0 12 else da n (-999999999999999) 999999999999999)=if inB n (-999999999999999) 999999999999999=false then 2 else if inB s 0 12=false then 2 else 0:=by unfold da inB;by_cases h1:(-999999999999999)≤n<;>by_cases h2:n≤999999999999999<;>by_cases h3:0≤s<;>by_cases h4:s≤12<;>simp[h1,h2,h3,h4]<;>omega
 rw[hq];clear hq
 generalize inB n (-999999999999999) 999999999999999=q at hr ⊢
 generalize inB s 0 12=q2 at hr2 ⊢
 refine ag.intro cr (by simp[gJ]) ?_
 simp(maxSteps:=9^7) (disch:=try exact dI) only[gJ,Val.pv_mk,push_cast,seval]
 refine ab.pure hn rfl ?_
 cases b1 with
 | true=>simp(maxSteps:=9^7) (disch:=try exact dI) only[push_cast,seval]
 | false=>
 simp(maxSteps:=9^7) (disch:=try exact dI) only[push_cast,seval]
 refine ab.pure hu rfl ?_
 cases b2 with
 | false=>simp(maxSteps:=9^7) (disch:=try exact dI) only[push_cast,seval]
 | true=>
 simp(maxSteps:=9^7) (disch:=try exact dI) only[push_cast,seval]
 refine ab.pure hr rfl ?_
 cases q with
 | false=>simp(maxSteps:=9^7) (disch:=try exact dI) only[push_cast,seval]
 | true=>
 simp(maxSteps:=9^7) (disch:=try exact dI) only[push_cast,seval]
 refine ab.pure hr2 rfl ?_
 cases q2 with
 | false=>simp(maxSteps:=9^7) (disch:=try exact dI) only[push_cast,seval]
 | true=>simp(maxSteps:=9^7) (disch:=try exact dI) only[push_cast,seval]
set_option maxHeartbeats 2000000 in
theorem AA:ag Tryz.prog aD 236 [(Val.mk 4 n s t l fs).pv] (.int .i64 (fu (.mk 4 n s t l fs))):=by
 have hn:=cE (.mk 4 n s t l fs)
 have hu:=bF (.mk 4 n s t l fs) (by simp only[Val.kind];omega)
 rw[show fu (.mk 4 n s t l fs)=if aL (.mk 4 n s t l fs)=true then 19 else if am (.mk 4 n s t l fs)=false then 3 else (if cm t.length 1024 5=0 then (if Lib.validD t=true then 0 else 16) else cm t.length 1024 5) from rfl]
 generalize aL (.mk 4 n s t l fs)=b1 at hn ⊢
 generalize am (.mk 4 n s t l fs)=b2 at hu ⊢
 simp only[Val.pv_mk] at hn hu
 have hv:=dh t
 generalize Lib.validD t=q at hv ⊢
 refine ag.intro cr (by simp[gJ]) ?_
 simp(maxSteps:=9^7) (disch:=try exact dI) only[gJ,Val.pv_mk,push_cast,seval]
 refine ab.pure hn rfl ?_
 cases b1 with
 | true=>simp(maxSteps:=9^7) (disch:=try exact dI) only[push_cast,seval]
 | false=>
 simp(maxSteps:=9^7) (disch:=try exact dI) only[push_cast,seval]
 refine ab.pure hu rfl ?_
 cases b2 with
 | false=>simp(maxSteps:=9^7) (disch:=try exact dI) only[push_cast,seval]
 | true=>
 by_cases h5:(1024:Int)<t.length
 ·rw[show cm t.length 1024 5=5 from if_pos h5]
  simp(maxSteps:=9^7) (disch:=try exact dI) only[h5,push_cast,seval]
 ·rw[show cm t.length 1024 5=0 from if_neg h5]
  simp(maxSteps:=9^7) (disch:=try exact dI) only[h5,push_cast,seval]
  refine ab.pure hv rfl ?_
  cases q with
  | false=>simp(maxSteps:=9^7) (disch:=try exact dI) only[push_cast,seval]
  | true=>simp(maxSteps:=9^7) (disch:=try exact dI) only[push_cast,seval]
set_option maxHeartbeats 2000000 in
theorem Az:ag Tryz.prog aD 236 [(Val.mk 5 n s t l fs).pv] (.int .i64 (fu (.mk 5 n s t l fs))):=by
 have hn:=cE (.mk 5 n s t l fs)
 have hu:=bF (.mk 5 n s t l fs) (by simp only[Val.kind];omega)
 rw[show fu (.mk 5 n s t l fs)=if aL (.mk 5 n s t l fs)=true then 19 else if am (.mk 5 n s t l fs)=false then 3 else cm t.length 1024 5 from rfl]
 generalize aL (.mk 5 n s t l fs)=b1 at hn ⊢
 generalize am (.mk 5 n s t l fs)=b2 at hu ⊢
 simp only[Val.pv_mk] at hn hu
 refine ag.intro cr (by simp[gJ]) ?_
 simp(maxSteps:=9^7) (disch:=try exact dI) only[gJ,Val.pv_mk,push_cast,seval]
 refine ab.pure hn rfl ?_
 cases b1 with
 | true=>simp(maxSteps:=9^7) (disch:=try exact dI) only[push_cast,seval]
 | false=>
 simp(maxSteps:=9^7) (disch:=try exact dI) only[push_cast,seval]
 refine ab.pure hu rfl ?_
 cases b2 with
 | false=>simp(maxSteps:=9^7) (disch:=try exact dI) only[push_cast,seval]
 | true=>
 by_cases h5:(1024:Int)<t.length
 ·rw[show cm t.length 1024 5=5 from if_pos h5]
  simp(maxSteps:=9^7) (disch:=try exact dI) only[h5,push_cast,seval]
 ·rw[show cm t.length 1024 5=0 from if_neg h5]
  simp(maxSteps:=9^7) (disch:=try exact dI) only[h5,push_cast,seval]
set_option maxHeartbeats 2000000 in
theorem Ay:ag Tryz.prog aD 236 [(Val.mk 6 n s t l fs).pv] (.int .i64 (fu (.mk 6 n s t l fs))):=by
 have hn:=cE (.mk 6 n s t l fs)
 have hu:=bF (.mk 6 n s t l fs) (by simp only[Val.kind];omega)
 rw[show fu (.mk 6 n s t l fs)=if aL (.mk 6 n s t l fs)=true then 19 else if am (.mk 6 n s t l fs)=false then 3 else da n (-719162) 2932896 from rfl]
 generalize aL (.mk 6 n s t l fs)=b1 at hn ⊢
 generalize am (.mk 6 n s t l fs)=b2 at hu ⊢
 simp only[Val.pv_mk] at hn hu
 have hr:=cf n (-719162) 2932896
 have hq:da n (-719162) 2932896=if inB n (-719162) 2932896=false then 2 else 0:=by unfold da inB;by_cases h1:(-719162)≤n<;>by_cases h2:n≤2932896<;>simp[h1,h2]<;>omega
 rw[hq];clear hq
 generalize inB n (-719162) 2932896=q at hr ⊢
 refine ag.intro cr (by simp[gJ]) ?_
 simp(maxSteps:=9^7) (disch:=try exact dI) only[gJ,Val.pv_mk,push_cast,seval]
 refine ab.pure hn rfl ?_
 cases b1 with
 | true=>simp(maxSteps:=9^7) (disch:=try exact dI) only[push_cast,seval]
 | false=>
 simp(maxSteps:=9^7) (disch:=try exact dI) only[push_cast,seval]
 refine ab.pure hu rfl ?_
 cases b2 with
 | false=>simp(maxSteps:=9^7) (disch:=try exact dI) only[push_cast,seval]
 | true=>
 simp(maxSteps:=9^7) (disch:=try exact dI) only[push_cast,seval]
 refine ab.pure hr rfl ?_
 cases q with
 | false=>simp(maxSteps:=9^7) (disch:=try exact dI) only[push_cast,seval]
 | true=>simp(maxSteps:=9^7) (disch:=try exact dI) only[push_cast,seval]
set_option maxHeartbeats 2000000 in
theorem Ax:ag Tryz.prog aD 236 [(Val.mk 7 n s t l fs).pv] (.int .i64 (fu (.mk 7 n s t l fs))):=by
 have hn:=cE (.mk 7 n s t l fs)
 have hu:=bF (.mk 7 n s t l fs) (by simp only[Val.kind];omega)
 rw[show fu (.mk 7 n s t l fs)=if aL (.mk 7 n s t l fs)=true then 19 else if am (.mk 7 n s t l fs)=false then 3 else da n (-62135596800000) 253402300799999 from rfl]
 generalize aL (.mk 7 n s t l fs)=b1 at hn ⊢
 generalize am (.mk 7 n s t l fs)=b2 at hu ⊢
 simp only[Val.pv_mk] at hn hu
 have hr:=cf n (-62135596800000) 253402300799999
 have hq:da n (-62135596800000) 253402300799999=if inB n (-62135596800000) 253402300799999=false then 2 else 0:=by unfold da inB;by_cases h1:(-62135596800000)≤n<;>by_cases h2:n≤253402300799999<;>simp[h1,h2]<;>omega
 rw[hq];clear hq
 generalize inB n (-62135596800000) 253402300799999=q at hr ⊢
 refine ag.intro cr (by simp[gJ]) ?_
 simp(maxSteps:=9^7) (disch:=try exact dI) only[gJ,Val.pv_mk,push_cast,seval]
 refine ab.pure hn rfl ?_
 cases b1 with
 | true=>simp(maxSteps:=9^7) (disch:=try exact dI) only[push_cast,seval]
 | false=>
 simp(maxSteps:=9^7) (disch:=try exact dI) only[push_cast,seval]
 refine ab.pure hu rfl ?_
 cases b2 with
 | false=>simp(maxSteps:=9^7) (disch:=try exact dI) only[push_cast,seval]
 | true=>
 simp(maxSteps:=9^7) (disch:=try exact dI) only[push_cast,seval]
 refine ab.pure hr rfl ?_
 cases q with
 | false=>simp(maxSteps:=9^7) (disch:=try exact dI) only[push_cast,seval]
 | true=>simp(maxSteps:=9^7) (disch:=try exact dI) only[push_cast,seval]
set_option maxHeartbeats 2000000 in
theorem Aw:ag Tryz.prog aD 236 [(Val.mk 8 n s t l fs).pv] (.int .i64 (fu (.mk 8 n s t l fs))):=by
 have hn:=cE (.mk 8 n s t l fs)
 have hu:=bF (.mk 8 n s t l fs) (by simp only[Val.kind];omega)
 rw[show fu (.mk 8 n s t l fs)=if aL (.mk 8 n s t l fs)=true then 19 else if am (.mk 8 n s t l fs)=false then 3 else cm l.length 256 9 from rfl]
 generalize aL (.mk 8 n s t l fs)=b1 at hn ⊢
 generalize am (.mk 8 n s t l fs)=b2 at hu ⊢
 simp only[Val.pv_mk] at hn hu
 refine ag.intro cr (by simp[gJ]) ?_
 simp(maxSteps:=9^7) (disch:=try exact dI) only[gJ,Val.pv_mk,push_cast,seval]
 refine ab.pure hn rfl ?_
 cases b1 with
 | true=>simp(maxSteps:=9^7) (disch:=try exact dI) only[push_cast,seval]
 | false=>
 simp(maxSteps:=9^7) (disch:=try exact dI) only[push_cast,seval]
 refine ab.pure hu rfl ?_
 cases b2 with
 | false=>simp(maxSteps:=9^7) (disch:=try exact dI) only[push_cast,seval]
 | true=>
 by_cases h5:(256:Int)<l.length
 ·rw[show cm l.length 256 9=9 from if_pos h5]
  simp(maxSteps:=9^7) (disch:=try exact dI) only[h5,push_cast,seval]
 ·rw[show cm l.length 256 9=0 from if_neg h5]
  simp(maxSteps:=9^7) (disch:=try exact dI) only[h5,push_cast,seval]
set_option maxHeartbeats 2000000 in
theorem Av:ag Tryz.prog aD 236 [(Val.mk 9 n s t l fs).pv] (.int .i64 (fu (.mk 9 n s t l fs))):=by
 have hn:=cE (.mk 9 n s t l fs)
 have hu:=bF (.mk 9 n s t l fs) (by simp only[Val.kind];omega)
 rw[show fu (.mk 9 n s t l fs)=if aL (.mk 9 n s t l fs)=true then 19 else if am (.mk 9 n s t l fs)=false then 3 else eI fs from rfl]
 generalize aL (.mk 9 n s t l fs)=b1 at hn ⊢
 generalize am (.mk 9 n s t l fs)=b2 at hu ⊢
 simp only[Val.pv_mk] at hn hu
 have hr:=wE fs
 generalize eI fs=q at hr ⊢
 refine ag.intro cr (by simp[gJ]) ?_
 simp(maxSteps:=9^7) (disch:=try exact dI) only[gJ,Val.pv_mk,push_cast,seval]
 refine ab.pure hn rfl ?_
 cases b1 with
 | true=>simp(maxSteps:=9^7) (disch:=try exact dI) only[push_cast,seval]
 | false=>
 simp(maxSteps:=9^7) (disch:=try exact dI) only[push_cast,seval]
 refine ab.pure hu rfl ?_
 cases b2 with
 | false=>simp(maxSteps:=9^7) (disch:=try exact dI) only[push_cast,seval]
 | true=>
 simp(maxSteps:=9^7) (disch:=try exact dI) only[push_cast,seval]
 refine ab.pure hr rfl ?_
 simp(maxSteps:=9^7) (disch:=try exact dI) only[push_cast,seval]
set_option maxHeartbeats 2000000 in
theorem uW:ag Tryz.prog aD 236 [(Val.mk 10 n s t l fs).pv] (.int .i64 (fu (.mk 10 n s t l fs))):=by
 have hn:=cE (.mk 10 n s t l fs)
 have hu:=bF (.mk 10 n s t l fs) (by simp only[Val.kind];omega)
 rw[show fu (.mk 10 n s t l fs)=if aL (.mk 10 n s t l fs)=true then 19 else if am (.mk 10 n s t l fs)=false then 3 else (if bM t=false then 12 else if l.length=0 then 4 else cm l.length 1 3) from rfl]
 generalize aL (.mk 10 n s t l fs)=b1 at hn ⊢
 generalize am (.mk 10 n s t l fs)=b2 at hu ⊢
 simp only[Val.pv_mk] at hn hu
 have hr:=nD t
 generalize bM t=q at hr ⊢
 refine ag.intro cr (by simp[gJ]) ?_
 simp(maxSteps:=9^7) (disch:=try exact dI) only[gJ,Val.pv_mk,push_cast,seval]
 refine ab.pure hn rfl ?_
 cases b1 with
 | true=>simp(maxSteps:=9^7) (disch:=try exact dI) only[push_cast,seval]
 | false=>
 simp(maxSteps:=9^7) (disch:=try exact dI) only[push_cast,seval]
 refine ab.pure hu rfl ?_
 cases b2 with
 | false=>simp(maxSteps:=9^7) (disch:=try exact dI) only[push_cast,seval]
 | true=>
 simp(maxSteps:=9^7) (disch:=try exact dI) only[push_cast,seval]
 refine ab.pure hr rfl ?_
 cases q with
 | false=>simp(maxSteps:=9^7) (disch:=try exact dI) only[push_cast,seval]
 | true=>
 by_cases h0:l.length=0
 ·have h0I:(l.length:Int)=0:=by omega
  rw[if_pos h0]
  simp(maxSteps:=9^7) (disch:=try exact dI) only[h0I,push_cast,seval]
 ·have h0I:¬ (l.length:Int)=0:=by omega
  rw[if_neg h0]
  by_cases h5:(1:Int)<l.length
  ·rw[show cm l.length 1 3=3 from if_pos h5]
   simp(maxSteps:=9^7) (disch:=try exact dI) only[h0I,h5,push_cast,seval]
  ·rw[show cm l.length 1 3=0 from if_neg h5]
   simp(maxSteps:=9^7) (disch:=try exact dI) only[h0I,h5,push_cast,seval]
end
theorem IG (v:Val):ag Tryz.prog aD 236 [v.pv] (.int .i64 (fu v)):=by
 by_cases hk:v.kind<1∨10<v.kind
 ·exact qX v hk
 ·obtain⟨k,n,s,t,l,fs⟩:=v
  simp only[Val.kind] at hk
  have hc:k=1∨k=2∨k=3∨k=4∨k=5∨k=6∨k=7∨k=8∨k=9∨k=10:=by omega
  clear hk
  rcases hc with rfl | rfl | rfl | rfl | rfl | rfl | rfl | rfl | rfl | rfl
  ·exact AD n s t l fs
  ·exact AC n s t l fs
  ·exact AB n s t l fs
  ·exact AA n s t l fs
  ·exact Az n s t l fs
  ·exact Ay n s t l fs
  ·exact Ax n s t l fs
  ·exact Aw n s t l fs
  ·exact Av n s t l fs
  ·exact uW n s t l fs
end Go.Proofs.YtbojpfpliibfbaaGreatDoor
