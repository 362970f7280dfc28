/- A part of the proof for FixedwidthRepresentableCardSaid. -/
import Derived.Test.YtbojpfpliibfbaaGreatDoorReRU3
set_option maxRecDepth 100000
set_option linter.unusedVariables false
set_option linter.unusedSimpArgs false
-- many steps
namespace Go.Proofs.YtbojpfpliibfbaaGreatDoor
open Go Go.Ab
attribute [local irreducible] vc
section
variable (m M s:Int)(w:List (List UInt8))(e:List Typ)(f:List TFd)
set_option maxHeartbeats 2000000 in
theorem m9:ag Tryz.prog aD 183 [(Typ.mk 1 m M s w e f).pv] (.bool (aQ 1 (.mk 1 m M s w e f))):=by
 have hi:=aU 1 2 8
 rw[show inB 1 2 8=false from rfl] at hi
 rw[show aQ 1 (.mk 1 m M s w e f)=aq false false false false false (.mk 1 m M s w e f) from rfl]
 refine ag.intro dx (by simp[bS]) ?_
 by_cases hm:m=0
 case neg=>
  rw[show aq false false false false false (.mk 1 m M s w e f)=true by simp[aq,hm]]
  simp(maxSteps:=9^7) (disch:=try exact dI) only[bS,Typ.pv_mk,hm,push_cast,seval]
  refine ab.pure hi rfl ?_
  simp(maxSteps:=9^7) (disch:=try exact dI) only[hm,push_cast,seval]
 by_cases hM:M=0
 case neg=>
  rw[show aq false false false false false (.mk 1 m M s w e f)=true by simp[aq,hM,hm]]
  simp(maxSteps:=9^7) (disch:=try exact dI) only[bS,Typ.pv_mk,hm,hM,push_cast,seval]
  refine ab.pure hi rfl ?_
  simp(maxSteps:=9^7) (disch:=try exact dI) only[hm,hM,push_cast,seval]
 by_cases hs:s=0
 case neg=>
  rw[show aq false false false false false (.mk 1 m M s w e f)=true by simp[aq,hs,hm,hM]]
  simp(maxSteps:=9^7) (disch:=try exact dI) only[bS,Typ.pv_mk,hm,hM,hs,push_cast,seval]
  refine ab.pure hi rfl ?_
  simp(maxSteps:=9^7) (disch:=try exact dI) only[hm,hM,hs,push_cast,seval]
 by_cases hw:w.length=0
 case neg=>
  have hwI:(0:Int)<(w.length:Int):=by omega
  rw[show aq false false false false false (.mk 1 m M s w e f)=true by simp[aq,hw,hm,hM,hs]]
  simp(maxSteps:=9^7) (disch:=try exact dI) only[bS,Typ.pv_mk,hm,hM,hs,hwI,push_cast,seval]
  refine ab.pure hi rfl ?_
  simp(maxSteps:=9^7) (disch:=try exact dI) only[hm,hM,hs,hwI,push_cast,seval]
 have hwI:¬ (0:Int)<(w.length:Int):=by omega
 by_cases he:e.length=0
 case neg=>
  have heI:(0:Int)<(e.length:Int):=by omega
  rw[show aq false false false false false (.mk 1 m M s w e f)=true by simp[aq,he,hm,hM,hs,hw]]
  simp(maxSteps:=9^7) (disch:=try exact dI) only[bS,Typ.pv_mk,hm,hM,hs,hwI,heI,push_cast,seval]
  refine ab.pure hi rfl ?_
  simp(maxSteps:=9^7) (disch:=try exact dI) only[hm,hM,hs,hwI,heI,push_cast,seval]
 have heI:¬ (0:Int)<(e.length:Int):=by omega
 by_cases hf:f.length=0
 case neg=>
  have hfI:(0:Int)<(f.length:Int):=by omega
  rw[show aq false false false false false (.mk 1 m M s w e f)=true by simp[aq,hf,hm,hM,hs,hw,he]]
  simp(maxSteps:=9^7) (disch:=try exact dI) only[bS,Typ.pv_mk,hm,hM,hs,hwI,heI,hfI,push_cast,seval]
  refine ab.pure hi rfl ?_
  simp(maxSteps:=9^7) (disch:=try exact dI) only[hm,hM,hs,hwI,heI,hfI,push_cast,seval]
 have hfI:¬ (0:Int)<(f.length:Int):=by omega
 rw[show aq false false false false false (.mk 1 m M s w e f)=false by simp[aq,hm,hM,hs,hw,he,hf]]
 simp(maxSteps:=9^7) (disch:=try exact dI) only[bS,Typ.pv_mk,hm,hM,hs,hwI,heI,hfI,push_cast,seval]
 refine ab.pure hi rfl ?_
 simp(maxSteps:=9^7) (disch:=try exact dI) only[hm,hM,hs,hwI,heI,hfI,push_cast,seval]
set_option maxHeartbeats 2000000 in
theorem m8:ag Tryz.prog aD 183 [(Typ.mk 2 m M s w e f).pv] (.bool (aQ 2 (.mk 2 m M s w e f))):=by
 have hi:=aU 2 2 8
 rw[show inB 2 2 8=true from rfl] at hi
 rw[show aQ 2 (.mk 2 m M s w e f)=aq true false false false false (.mk 2 m M s w e f) from rfl]
 refine ag.intro dx (by simp[bS]) ?_
 by_cases hs:s=0
 case neg=>
  rw[show aq true false false false false (.mk 2 m M s w e f)=true by simp[aq,hs]]
  simp(maxSteps:=9^7) (disch:=try exact dI) only[bS,Typ.pv_mk,hs,push_cast,seval]
  refine ab.pure hi rfl ?_
  simp(maxSteps:=9^7) (disch:=try exact dI) only[hs,push_cast,seval]
 by_cases hw:w.length=0
 case neg=>
  have hwI:(0:Int)<(w.length:Int):=by omega
  rw[show aq true false false false false (.mk 2 m M s w e f)=true by simp[aq,hw,hs]]
  simp(maxSteps:=9^7) (disch:=try exact dI) only[bS,Typ.pv_mk,hs,hwI,push_cast,seval]
  refine ab.pure hi rfl ?_
  simp(maxSteps:=9^7) (disch:=try exact dI) only[hs,hwI,push_cast,seval]
 have hwI:¬ (0:Int)<(w.length:Int):=by omega
 by_cases he:e.length=0
 case neg=>
  have heI:(0:Int)<(e.length:Int):=by omega
  rw[show aq true false false false false (.mk 2 m M s w e f)=true by simp[aq,he,hs,hw]]
  simp(maxSteps:=9^7) (disch:=try exact dI) only[bS,Typ.pv_mk,hs,hwI,heI,push_cast,seval]
  refine ab.pure hi rfl ?_
  simp(maxSteps:=9^7) (disch:=try exact dI) only[hs,hwI,heI,push_cast,seval]
 have heI:¬ (0:Int)<(e.length:Int):=by omega
 by_cases hf:f.length=0
 case neg=>
  have hfI:(0:Int)<(f.length:Int):=by omega
  rw[show aq true false false false false (.mk 2 m M s w e f)=true by simp[aq,hf,hs,hw,he]]
  simp(maxSteps:=9^7) (disch:=try exact dI) only[bS,Typ.pv_mk,hs,hwI,heI,hfI,push_cast,seval]
  refine ab.pure hi rfl ?_
  simp(maxSteps:=9^7) (disch:=try exact dI) only[hs,hwI,heI,hfI,push_cast,seval]
 have hfI:¬ (0:Int)<(f.length:Int):=by omega
 rw[show aq true false false false false (.mk 2 m M s w e f)=false by simp[aq,hs,hw,he,hf]]
 simp(maxSteps:=9^7) (disch:=try exact dI) only[bS,Typ.pv_mk,hs,hwI,heI,hfI,push_cast,seval]
 refine ab.pure hi rfl ?_
 simp(maxSteps:=9^7) (disch:=try exact dI) only[hs,hwI,heI,hfI,push_cast,seval]
set_option maxHeartbeats 2000000 in
theorem m7:ag Tryz.prog aD 183 [(Typ.mk 3 m M s w e f).pv] (.bool (aQ 3 (.mk 3 m M s w e f))):=by
 have hi:=aU 3 2 8
 rw[show inB 3 2 8=true from rfl] at hi
 rw[show aQ 3 (.mk 3 m M s w e f)=aq true true false false false (.mk 3 m M s w e f) from rfl]
 refine ag.intro dx (by simp[bS]) ?_
 by_cases hw:w.length=0
 case neg=>
  have hwI:(0:Int)<(w.length:Int):=by omega
  rw[show aq true true false false false (.mk 3 m M s w e f)=true by simp[aq,hw]]
  simp(maxSteps:=9^7) (disch:=try exact dI) only[bS,Typ.pv_mk,hwI,push_cast,seval]
  refine ab.pure hi rfl ?_
  simp(maxSteps:=9^7) (disch:=try exact dI) only[hwI,push_cast,seval]
 have hwI:¬ (0:Int)<(w.length:Int):=by omega
 by_cases he:e.length=0
 case neg=>
  have heI:(0:Int)<(e.length:Int):=by omega
  rw[show aq true true false false false (.mk 3 m M s w e f)=true by simp[aq,he,hw]]
  simp(maxSteps:=9^7) (disch:=try exact dI) only[bS,Typ.pv_mk,hwI,heI,push_cast,seval]
  refine ab.pure hi rfl ?_
  simp(maxSteps:=9^7) (disch:=try exact dI) only[hwI,heI,push_cast,seval]
 have heI:¬ (0:Int)<(e.length:Int):=by omega
 by_cases hf:f.length=0
 case neg=>
  have hfI:(0:Int)<(f.length:Int):=by omega
  rw[show aq true true false false false (.mk 3 m M s w e f)=true by simp[aq,hf,hw,he]]
  simp(maxSteps:=9^7) (disch:=try exact dI) only[bS,Typ.pv_mk,hwI,heI,hfI,push_cast,seval]
  refine ab.pure hi rfl ?_
  simp(maxSteps:=9^7) (disch:=try exact dI) only[hwI,heI,hfI,push_cast,seval]
 have hfI:¬ (0:Int)<(f.length:Int):=by omega
 rw[show aq true true false false false (.mk 3 m M s w e f)=false by simp[aq,hw,he,hf]]
 simp(maxSteps:=9^7) (disch:=try exact dI) only[bS,Typ.pv_mk,hwI,heI,hfI,push_cast,seval]
 refine ab.pure hi rfl ?_
 simp(maxSteps:=9^7) (disch:=try exact dI) only[hwI,heI,hfI,push_cast,seval]
set_option maxHeartbeats 2000000 in
theorem m6:ag Tryz.prog aD 183 [(Typ.mk 4 m M s w e f).pv] (.bool (aQ 4 (.mk 4 m M s w e f))):=by
 have hi:=aU 4 2 8
 rw[show inB 4 2 8=true from rfl] at hi
 rw[show aQ 4 (.mk 4 m M s w e f)=aq true false true false false (.mk 4 m M s w e f) from rfl]
 refine ag.intro dx (by simp[bS]) ?_
 by_cases hs:s=0
 case neg=>
  rw[show aq true false true false false (.mk 4 m M s w e f)=true by simp[aq,hs]]
  simp(maxSteps:=9^7) (disch:=try exact dI) only[bS,Typ.pv_mk,hs,push_cast,seval]
  refine ab.pure hi rfl ?_
  simp(maxSteps:=9^7) (disch:=try exact dI) only[hs,push_cast,seval]
 by_cases he:e.length=0
 case neg=>
  have heI:(0:Int)<(e.length:Int):=by omega
  rw[show aq true false true false false (.mk 4 m M s w e f)=true by simp[aq,he,hs]]
  simp(maxSteps:=9^7) (disch:=try exact dI) only[bS,Typ.pv_mk,hs,heI,push_cast,seval]
  refine ab.pure hi rfl ?_
  simp(maxSteps:=9^7) (disch:=try exact dI) only[hs,heI,push_cast,seval]
 have heI:¬ (0:Int)<(e.length:Int):=by omega
 by_cases hf:f.length=0
 case neg=>
  have hfI:(0:Int)<(f.length:Int):=by omega
  rw[show aq true false true false false (.mk 4 m M s w e f)=true by simp[aq,hf,hs,he]]
  simp(maxSteps:=9^7) (disch:=try exact dI) only[bS,Typ.pv_mk,hs,heI,hfI,push_cast,seval]
  refine ab.pure hi rfl ?_
  simp(maxSteps:=9^7) (disch:=try exact dI) only[hs,heI,hfI,push_cast,seval]
 have hfI:¬ (0:Int)<(f.length:Int):=by omega
 rw[show aq true false true false false (.mk 4 m M s w e f)=false by simp[aq,hs,he,hf]]
 simp(maxSteps:=9^7) (disch:=try exact dI) only[bS,Typ.pv_mk,hs,heI,hfI,push_cast,seval]
 refine ab.pure hi rfl ?_
 simp(maxSteps:=9^7) (disch:=try exact dI) only[hs,heI,hfI,push_cast,seval]
set_option maxHeartbeats 2000000 in
theorem m5:ag Tryz.prog aD 183 [(Typ.mk 5 m M s w e f).pv] (.bool (aQ 5 (.mk 5 m M s w e f))):=by
 have hi:=aU 5 2 8
 rw[show inB 5 2 8=true from rfl] at hi
 rw[show aQ 5 (.mk 5 m M s w e f)=aq true false false false false (.mk 5 m M s w e f) from rfl]
 refine ag.intro dx (by simp[bS]) ?_
 by_cases hs:s=0
 case neg=>
  rw[show aq true false false false false (.mk 5 m M s w e f)=true by simp[aq,hs]]
  simp(maxSteps:=9^7) (disch:=try exact dI) only[bS,Typ.pv_mk,hs,push_cast,seval]
  refine ab.pure hi rfl ?_
  simp(maxSteps:=9^7) (disch:=try exact dI) only[hs,push_cast,seval]
 by_cases hw:w.length=0
 case neg=>
  have hwI:(0:Int)<(w.length:Int):=by omega
  rw[show aq true false false false false (.mk 5 m M s w e f)=true by simp[aq,hw,hs]]
  simp(maxSteps:=9^7) (disch:=try exact dI) only[bS,Typ.pv_mk,hs,hwI,push_cast,seval]
  refine ab.pure hi rfl ?_
  simp(maxSteps:=9^7) (disch:=try exact dI) only[hs,hwI,push_cast,seval]
 have hwI:¬ (0:Int)<(w.length:Int):=by omega
 by_cases he:e.length=0
 case neg=>
  have heI:(0:Int)<(e.length:Int):=by omega
  rw[show aq true false false false false (.mk 5 m M s w e f)=true by simp[aq,he,hs,hw]]
  simp(maxSteps:=9^7) (disch:=try exact dI) only[bS,Typ.pv_mk,hs,hwI,heI,push_cast,seval]
  refine ab.pure hi rfl ?_
  simp(maxSteps:=9^7) (disch:=try exact dI) only[hs,hwI,heI,push_cast,seval]
 have heI:¬ (0:Int)<(e.length:Int):=by omega
 by_cases hf:f.length=0
 case neg=>
  have hfI:(0:Int)<(f.length:Int):=by omega
  rw[show aq true false false false false (.mk 5 m M s w e f)=true by simp[aq,hf,hs,hw,he]]
  simp(maxSteps:=9^7) (disch:=try exact dI) only[bS,Typ.pv_mk,hs,hwI,heI,hfI,push_cast,seval]
  refine ab.pure hi rfl ?_
  simp(maxSteps:=9^7) (disch:=try exact dI) only[hs,hwI,heI,hfI,push_cast,seval]
 have hfI:¬ (0:Int)<(f.length:Int):=by omega
 rw[show aq true false false false false (.mk 5 m M s w e f)=false by simp[aq,hs,hw,he,hf]]
 simp(maxSteps:=9^7) (disch:=try exact dI) only[bS,Typ.pv_mk,hs,hwI,heI,hfI,push_cast,seval]
 refine ab.pure hi rfl ?_
 simp(maxSteps:=9^7) (disch:=try exact dI) only[hs,hwI,heI,hfI,push_cast,seval]
set_option maxHeartbeats 2000000 in
theorem m4:ag Tryz.prog aD 183 [(Typ.mk 6 m M s w e f).pv] (.bool (aQ 6 (.mk 6 m M s w e f))):=by
 have hi:=aU 6 2 8
 rw[show inB 6 2 8=true from rfl] at hi
 rw[show aQ 6 (.mk 6 m M s w e f)=aq true false false false false (.mk 6 m M s w e f) from rfl]
 refine ag.intro dx (by simp[bS]) ?_
 by_cases hs:s=0
 case neg=>
  rw[show aq true false false false false (.mk 6 m M s w e f)=true by simp[aq,hs]]
  simp(maxSteps:=9^7) (disch:=try exact dI) only[bS,Typ.pv_mk,hs,push_cast,seval]
  refine ab.pure hi rfl ?_
  simp(maxSteps:=9^7) (disch:=try exact dI) only[hs,push_cast,seval]
 by_cases hw:w.length=0
 case neg=>
  have hwI:(0:Int)<(w.length:Int):=by omega
  rw[show aq true false false false false (.mk 6 m M s w e f)=true by simp[aq,hw,hs]]
  simp(maxSteps:=9^7) (disch:=try exact dI) only[bS,Typ.pv_mk,hs,hwI,push_cast,seval]
  refine ab.pure hi rfl ?_
  simp(maxSteps:=9^7) (disch:=try exact dI) only[hs,hwI,push_cast,seval]
 have hwI:¬ (0:Int)<(w.length:Int):=by omega
 by_cases he:e.length=0
 case neg=>
  have heI:(0:Int)<(e.length:Int):=by omega
  rw[show aq true false false false false (.mk 6 m M s w e f)=true by simp[aq,he,hs,hw]]
  simp(maxSteps:=9^7) (disch:=try exact dI) only[bS,Typ.pv_mk,hs,hwI,heI,push_cast,seval]
  refine ab.pure hi rfl ?_
  simp(maxSteps:=9^7) (disch:=try exact dI) only[hs,hwI,heI,push_cast,seval]
 have heI:¬ (0:Int)<(e.length:Int):=by omega
 by_cases hf:f.length=0
 case neg=>
  have hfI:(0:Int)<(f.length:Int):=by omega
  rw[show aq true false false false false (.mk 6 m M s w e f)=true by simp[aq,hf,hs,hw,he]]
  simp(maxSteps:=9^7) (disch:=try exact dI) only[bS,Typ.pv_mk,hs,hwI,heI,hfI,push_cast,seval]
  refine ab.pure hi rfl ?_
  simp(maxSteps:=9^7) (disch:=try exact dI) only[hs,hwI,heI,hfI,push_cast,seval]
 have hfI:¬ (0:Int)<(f.length:Int):=by omega
 rw[show aq true false false false false (.mk 6 m M s w e f)=false by simp[aq,hs,hw,he,hf]]
 simp(maxSteps:=9^7) (disch:=try exact dI) only[bS,Typ.pv_mk,hs,hwI,heI,hfI,push_cast,seval]
 refine ab.pure hi rfl ?_
 simp(maxSteps:=9^7) (disch:=try exact dI) only[hs,hwI,heI,hfI,push_cast,seval]
set_option maxHeartbeats 2000000 in
theorem mZ:ag Tryz.prog aD 183 [(Typ.mk 7 m M s w e f).pv] (.bool (aQ 7 (.mk 7 m M s w e f))):=by
 have hi:=aU 7 2 8
 rw[show inB 7 2 8=true from rfl] at hi
 rw[show aQ 7 (.mk 7 m M s w e f)=aq true false false false false (.mk 7 m M s w e f) from rfl]
 refine ag.intro dx (by simp[bS]) ?_
 by_cases hs:s=0
 case neg=>
  rw[show aq true false false false false (.mk 7 m M s w e f)=true by simp[aq,hs]]
  simp(maxSteps:=9^7) (disch:=try exact dI) only[bS,Typ.pv_mk,hs,push_cast,seval]
  refine ab.pure hi rfl ?_
  simp(maxSteps:=9^7) (disch:=try exact dI) only[hs,push_cast,seval]
 by_cases hw:w.length=0
 case neg=>
  have hwI:(0:Int)<(w.length:Int):=by omega
  rw[show aq true false false false false (.mk 7 m M s w e f)=true by simp[aq,hw,hs]]
  simp(maxSteps:=9^7) (disch:=try exact dI) only[bS,Typ.pv_mk,hs,hwI,push_cast,seval]
  refine ab.pure hi rfl ?_
  simp(maxSteps:=9^7) (disch:=try exact dI) only[hs,hwI,push_cast,seval]
 have hwI:¬ (0:Int)<(w.length:Int):=by omega
 by_cases he:e.length=0
 case neg=>
  have heI:(0:Int)<(e.length:Int):=by omega
  rw[show aq true false false false false (.mk 7 m M s w e f)=true by simp[aq,he,hs,hw]]
  simp(maxSteps:=9^7) (disch:=try exact dI) only[bS,Typ.pv_mk,hs,hwI,heI,push_cast,seval]
  refine ab.pure hi rfl ?_
  simp(maxSteps:=9^7) (disch:=try exact dI) only[hs,hwI,heI,push_cast,seval]
 have heI:¬ (0:Int)<(e.length:Int):=by omega
 by_cases hf:f.length=0
 case neg=>
  have hfI:(0:Int)<(f.length:Int):=by omega
  rw[show aq true false false false false (.mk 7 m M s w e f)=true by simp[aq,hf,hs,hw,he]]
  simp(maxSteps:=9^7) (disch:=try exact dI) only[bS,Typ.pv_mk,hs,hwI,heI,hfI,push_cast,seval]
  refine ab.pure hi rfl ?_
  simp(maxSteps:=9^7) (disch:=try exact dI) only[hs,hwI,heI,hfI,push_cast,seval]
 have hfI:¬ (0:Int)<(f.length:Int):=by omega
 rw[show aq true false false false false (.mk 7 m M s w e f)=false by simp[aq,hs,hw,he,hf]]
 simp(maxSteps:=9^7) (disch:=try exact dI) only[bS,Typ.pv_mk,hs,hwI,heI,hfI,push_cast,seval]
 refine ab.pure hi rfl ?_
 simp(maxSteps:=9^7) (disch:=try exact dI) only[hs,hwI,heI,hfI,push_cast,seval]
set_option maxHeartbeats 2000000 in
theorem mY:ag Tryz.prog aD 183 [(Typ.mk 8 m M s w e f).pv] (.bool (aQ 8 (.mk 8 m M s w e f))):=by
 have hi:=aU 8 2 8
 rw[show inB 8 2 8=true from rfl] at hi
 rw[show aQ 8 (.mk 8 m M s w e f)=aq true false false true false (.mk 8 m M s w e f) from rfl]
 refine ag.intro dx (by simp[bS]) ?_
 by_cases hs:s=0
 case neg=>
  rw[show aq true false false true false (.mk 8 m M s w e f)=true by simp[aq,hs]]
  simp(maxSteps:=9^7) (disch:=try exact dI) only[bS,Typ.pv_mk,hs,push_cast,seval]
  refine ab.pure hi rfl ?_
  simp(maxSteps:=9^7) (disch:=try exact dI) only[hs,push_cast,seval]
 by_cases hw:w.length=0
 case neg=>
  have hwI:(0:Int)<(w.length:Int):=by omega
  rw[show aq true false false true false (.mk 8 m M s w e f)=true by simp[aq,hw,hs]]
  simp(maxSteps:=9^7) (disch:=try exact dI) only[bS,Typ.pv_mk,hs,hwI,push_cast,seval]
  refine ab.pure hi rfl ?_
  simp(maxSteps:=9^7) (disch:=try exact dI) only[hs,hwI,push_cast,seval]
 have hwI:¬ (0:Int)<(w.length:Int):=by omega
 by_cases hf:f.length=0
 case neg=>
  have hfI:(0:Int)<(f.length:Int):=by omega
  rw[show aq true false false true false (.mk 8 m M s w e f)=true by simp[aq,hf,hs,hw]]
  simp(maxSteps:=9^7) (disch:=try exact dI) only[bS,Typ.pv_mk,hs,hwI,hfI,push_cast,seval]
  refine ab.pure hi rfl ?_
  simp(maxSteps:=9^7) (disch:=try exact dI) only[hs,hwI,hfI,push_cast,seval]
 have hfI:¬ (0:Int)<(f.length:Int):=by omega
 rw[show aq true false false true false (.mk 8 m M s w e f)=false by simp[aq,hs,hw,hf]]
 simp(maxSteps:=9^7) (disch:=try exact dI) only[bS,Typ.pv_mk,hs,hwI,hfI,push_cast,seval]
 refine ab.pure hi rfl ?_
 simp(maxSteps:=9^7) (disch:=try exact dI) only[hs,hwI,hfI,push_cast,seval]
set_option maxHeartbeats 2000000 in
theorem mX:ag Tryz.prog aD 183 [(Typ.mk 9 m M s w e f).pv] (.bool (aQ 9 (.mk 9 m M s w e f))):=by
 have hi:=aU 9 2 8
 rw[show inB 9 2 8=false from rfl] at hi
 rw[show aQ 9 (.mk 9 m M s w e f)=aq false false false false true (.mk 9 m M s w e f) from rfl]
 refine ag.intro dx (by simp[bS]) ?_
 by_cases hm:m=0
 case neg=>
  rw[show aq false false false false true (.mk 9 m M s w e f)=true by simp[aq,hm]]
  simp(maxSteps:=9^7) (disch:=try exact dI) only[bS,Typ.pv_mk,hm,push_cast,seval]
  refine ab.pure hi rfl ?_
  simp(maxSteps:=9^7) (disch:=try exact dI) only[hm,push_cast,seval]
 by_cases hM:M=0
 case neg=>
  rw[show aq false false false false true (.mk 9 m M s w e f)=true by simp[aq,hM,hm]]
  simp(maxSteps:=9^7) (disch:=try exact dI) only[bS,Typ.pv_mk,hm,hM,push_cast,seval]
  refine ab.pure hi rfl ?_
  simp(maxSteps:=9^7) (disch:=try exact dI) only[hm,hM,push_cast,seval]
 by_cases hs:s=0
 case neg=>
  rw[show aq false false false false true (.mk 9 m M s w e f)=true by simp[aq,hs,hm,hM]]
  simp(maxSteps:=9^7) (disch:=try exact dI) only[bS,Typ.pv_mk,hm,hM,hs,push_cast,seval]
  refine ab.pure hi rfl ?_
  simp(maxSteps:=9^7) (disch:=try exact dI) only[hm,hM,hs,push_cast,seval]
 by_cases hw:w.length=0
 case neg=>
  have hwI:(0:Int)<(w.length:Int):=by omega
  rw[show aq false false false false true (.mk 9 m M s w e f)=true by simp[aq,hw,hm,hM,hs]]
  simp(maxSteps:=9^7) (disch:=try exact dI) only[bS,Typ.pv_mk,hm,hM,hs,hwI,push_cast,seval]
  refine ab.pure hi rfl ?_
  simp(maxSteps:=9^7) (disch:=try exact dI) only[hm,hM,hs,hwI,push_cast,seval]
 have hwI:¬ (0:Int)<(w.length:Int):=by omega
 by_cases he:e.length=0
 case neg=>
  have heI:(0:Int)<(e.length:Int):=by omega
  rw[show aq false false false false true (.mk 9 m M s w e f)=true by simp[aq,he,hm,hM,hs,hw]]
  simp(maxSteps:=9^7) (disch:=try exact dI) only[bS,Typ.pv_mk,hm,hM,hs,hwI,heI,push_cast,seval]
  refine ab.pure hi rfl ?_
  simp(maxSteps:=9^7) (disch:=try exact dI) only[hm,hM,hs,hwI,heI,push_cast,seval]
 have heI:¬ (0:Int)<(e.length:Int):=by omega
 rw[show aq false false false false true (.mk 9 m M s w e f)=false by simp[aq,hm,hM,hs,hw,he]]
 simp(maxSteps:=9^7) (disch:=try exact dI) only[bS,Typ.pv_mk,hm,hM,hs,hwI,heI,push_cast,seval]
 refine ab.pure hi rfl ?_
 simp(maxSteps:=9^7) (disch:=try exact dI) only[hm,hM,hs,hwI,heI,push_cast,seval]
set_option maxHeartbeats 2000000 in
theorem lg:ag Tryz.prog aD 183 [(Typ.mk 10 m M s w e f).pv] (.bool (aQ 10 (.mk 10 m M s w e f))):=by
 have hi:=aU 10 2 8
 rw[show inB 10 2 8=false from rfl] at hi
 rw[show aQ 10 (.mk 10 m M s w e f)=aq false false false false true (.mk 10 m M s w e f) from rfl]
 refine ag.intro dx (by simp[bS]) ?_
 by_cases hm:m=0
 case neg=>
  rw[show aq false false false false true (.mk 10 m M s w e f)=true by simp[aq,hm]]
  simp(maxSteps:=9^7) (disch:=try exact dI) only[bS,Typ.pv_mk,hm,push_cast,seval]
  refine ab.pure hi rfl ?_
  simp(maxSteps:=9^7) (disch:=try exact dI) only[hm,push_cast,seval]
 by_cases hM:M=0
 case neg=>
  rw[show aq false false false false true (.mk 10 m M s w e f)=true by simp[aq,hM,hm]]
  simp(maxSteps:=9^7) (disch:=try exact dI) only[bS,Typ.pv_mk,hm,hM,push_cast,seval]
  refine ab.pure hi rfl ?_
  simp(maxSteps:=9^7) (disch:=try exact dI) only[hm,hM,push_cast,seval]
 by_cases hs:s=0
 case neg=>
  rw[show aq false false false false true (.mk 10 m M s w e f)=true by simp[aq,hs,hm,hM]]
  simp(maxSteps:=9^7) (disch:=try exact dI) only[bS,Typ.pv_mk,hm,hM,hs,push_cast,seval]
  refine ab.pure hi rfl ?_
  simp(maxSteps:=9^7) (disch:=try exact dI) only[hm,hM,hs,push_cast,seval]
 by_cases hw:w.length=0
 case neg=>
  have hwI:(0:Int)<(w.length:Int):=by omega
  rw[show aq false false false false true (.mk 10 m M s w e f)=true by simp[aq,hw,hm,hM,hs]]
  simp(maxSteps:=9^7) (disch:=try exact dI) only[bS,Typ.pv_mk,hm,hM,hs,hwI,push_cast,seval]
  refine ab.pure hi rfl ?_
  simp(maxSteps:=9^7) (disch:=try exact dI) only[hm,hM,hs,hwI,push_cast,seval]
 have hwI:¬ (0:Int)<(w.length:Int):=by omega
 by_cases he:e.length=0
 case neg=>
  have heI:(0:Int)<(e.length:Int):=by omega
  rw[show aq false false false false true (.mk 10 m M s w e f)=true by simp[aq,he,hm,hM,hs,hw]]
  simp(maxSteps:=9^7) (disch:=try exact dI) only[bS,Typ.pv_mk,hm,hM,hs,hwI,heI,push_cast,seval]
  refine ab.pure hi rfl ?_
  simp(maxSteps:=9^7) (disch:=try exact dI) only[hm,hM,hs,hwI,heI,push_cast,seval]
 have heI:¬ (0:Int)<(e.length:Int):=by omega
 rw[show aq false false false false true (.mk 10 m M s w e f)=false by simp[aq,hm,hM,hs,hw,he]]
 simp(maxSteps:=9^7) (disch:=try exact dI) only[bS,Typ.pv_mk,hm,hM,hs,hwI,heI,push_cast,seval]
 refine ab.pure hi rfl ?_
 simp(maxSteps:=9^7) (disch:=try exact dI) only[hm,hM,hs,hwI,heI,push_cast,seval]
theorem bG (k:Int)(hk:1≤k∧k≤10):ag Tryz.prog aD 183 [(Typ.mk k m M s w e f).pv] (.bool (aQ k (.mk k m M s w e f))):=by
 have hc:k=1∨k=2∨k=3∨k=4∨k=5∨k=6∨k=7∨k=8∨k=9∨k=10:=by omega
 clear hk
 rcases hc with rfl | rfl | rfl | rfl | rfl | rfl | rfl | rfl | rfl | rfl
 ·exact m9 m M s w e f
 ·exact m8 m M s w e f
 ·exact m7 m M s w e f
 ·exact m6 m M s w e f
 ·exact m5 m M s w e f
 ·exact m4 m M s w e f
 ·exact mZ m M s w e f
 ·exact mY m M s w e f
 ·exact mX m M s w e f
 ·exact lg m M s w e f
theorem cH (k:Int)(hk:2≤k∧k≤8):ag Tryz.prog aD 185 [.int .i64 k] (.tup [.int .i64 (loK k),.int .i64 (hiK k)]):=by
 have hc:k=2∨k=3∨k=4∨k=5∨k=6∨k=7∨k=8:=by omega
 clear hk
 rcases hc with rfl | rfl | rfl | rfl | rfl | rfl | rfl
 all_goals
  refine ag.intro yg (by simp[KX]) ?_
  simp only[loK,hiK]
  simp(maxSteps:=9^7) (disch:=try exact dI) only[KX,push_cast,seval]
theorem cR (k a b:Int):ag Tryz.prog aD 186 [(Typ.mk k m M s w e f).pv,.int .i64 a,.int .i64 b] (.bool (decide (¬ (M<m∨m<a∨b<M)))):=by
 refine ag.intro Hb (by simp[HS]) ?_
 by_cases h1:a≤m
 ·by_cases h2:M≤b
  ·by_cases h3:m≤M
   ·rw[decide_eq_true (show ¬ (M<m∨m<a∨b<M) by omega)]
    simp(maxSteps:=9^7) (disch:=try exact dI) only[HS,Typ.pv_mk,h1,h2,h3,push_cast,seval]
   ·rw[decide_eq_false (show ¬ ¬ (M<m∨m<a∨b<M) by omega)]
    simp(maxSteps:=9^7) (disch:=try exact dI) only[HS,Typ.pv_mk,h1,h2,h3,push_cast,seval]
  ·rw[decide_eq_false (show ¬ ¬ (M<m∨m<a∨b<M) by omega)]
   simp(maxSteps:=9^7) (disch:=try exact dI) only[HS,Typ.pv_mk,h1,h2,push_cast,seval]
 ·rw[decide_eq_false (show ¬ ¬ (M<m∨m<a∨b<M) by omega)]
  simp(maxSteps:=9^7) (disch:=try exact dI) only[HS,Typ.pv_mk,h1,push_cast,seval]
theorem pp (k:Int)(name:List UInt8)(hl:f.length≤9000000000000):ag Tryz.prog aD 238 [(Typ.mk k m M s w e f).pv,.str name] (.int .i64 (dy (named name) f 0)):=by
 refine ag.intro GU (by simp[M4]) ?_
 simp(maxSteps:=9^7) (disch:=try exact dI) only[M4,Typ.pv_mk,push_cast,seval]
 refine aw ([]) (fun i:Nat=>[(5,.pv (.int .i64 (i:Int)))]) (fun _=>[]) (fun i=>i≤f.length∧dy (named name) f 0=dy (named name) (f.drop i) i) (fun i=>f.length - i) (0) ?_;intro e0 σ0 n0 h0;simp(maxSteps:=9^7) (disch:=try exact dI) only[push_cast,seval] at h0;obtain⟨rfl,rfl,rfl⟩:=h0;refine⟨?_,?_,?_⟩
 ·simp(maxSteps:=9^7) (disch:=try exact dI) only[push_cast,seval]
 ·exact⟨by omega,by simp⟩
 rintro i ⟨hi,he⟩
 by_cases hlt:i<f.length
 ·have hltI:(i:Int)<(f.length:Int):=by omega
  obtain⟨x,hx⟩:∃ x,f[i]? = some x:=⟨_,List.getElem?_eq_getElem hlt⟩
  have hhit:=fun h=>dn (p:=named name) hx h
  have hmiss:=fun h=>cl (p:=named name) hx h
  obtain⟨x1,x2,x3,⟨y1,y2,y3,y4,y5,y6,y7⟩,x5⟩:=x
  simp only[named,TFd.name] at hhit hmiss
  by_cases hn:x2=name
  ·rw[he,hhit (decide_eq_true hn)]
   simp(maxSteps:=9^7) (disch:=try exact dI) only[hx,Option.map_some,hn,TFd.pv_mk,Typ.pv_mk,ae,push_cast,seval]
  ·simp(maxSteps:=9^7) (disch:=try exact dI) only[hx,Option.map_some,hn,TFd.pv_mk,Typ.pv_mk,ae,push_cast,seval]
   exact⟨i+1,aT qsZ,⟨by omega,by rw[he];exact hmiss (decide_eq_false hn)⟩,by omega⟩
 ·obtain rfl:i=f.length:=by omega
  rw[he,dp (by omega)]
  simp(maxSteps:=9^7) (disch:=try exact dI) only[Int.lt_irrefl,push_cast,seval]
end
end Go.Proofs.YtbojpfpliibfbaaGreatDoor
