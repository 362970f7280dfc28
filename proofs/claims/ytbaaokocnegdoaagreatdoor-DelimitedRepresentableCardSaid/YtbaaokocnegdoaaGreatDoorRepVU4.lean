/- A part of the proof for DelimitedRepresentableCardSaid. -/
import Derived.Test.YtbaaokocnegdoaaGreatDoorRepVU3
set_option maxRecDepth 100000
set_option linter.unusedVariables false
set_option linter.unusedSimpArgs false
-- many steps
namespace Go.Proofs.YtbaaokocnegdoaaGreatDoor
open Go Go.Ab
attribute [local irreducible] vc
section
variable (m M s:Int)(w:List (List UInt8))(e:List Typ)(f:List TFd)
set_option maxHeartbeats 2000000 in
theorem ox:am Tryz.prog aE 196 [(Typ.mk 1 m M s w e f).pv] (.bool (aZ 1 (.mk 1 m M s w e f))):=by
 have hi:=a8 1 2 8
 rw[show inB 1 2 8=false from rfl] at hi
 rw[show aZ 1 (.mk 1 m M s w e f)=ap false false false false false (.mk 1 m M s w e f) from rfl]
 refine am.intro dF (by simp[bW]) ?_
 by_cases hm:m=0
 case neg=>
  rw[show ap false false false false false (.mk 1 m M s w e f)=true by simp[ap,hm]]
  simp(maxSteps:=9^7) (disch:=first|exact dI|fail) only[bW,Typ.pv_mk,hm,push_cast,seval]
  refine ab.pure hi rfl ?_
  simp(maxSteps:=9^7) (disch:=first|exact dI|fail) only[hm,push_cast,seval]
 by_cases hM:M=0
 case neg=>
  rw[show ap false false false false false (.mk 1 m M s w e f)=true by simp[ap,hM,hm]]
  simp(maxSteps:=9^7) (disch:=first|exact dI|fail) only[bW,Typ.pv_mk,hm,hM,push_cast,seval]
  refine ab.pure hi rfl ?_
  simp(maxSteps:=9^7) (disch:=first|exact dI|fail) only[hm,hM,push_cast,seval]
 by_cases hs:s=0
 case neg=>
  rw[show ap false false false false false (.mk 1 m M s w e f)=true by simp[ap,hs,hm,hM]]
  simp(maxSteps:=9^7) (disch:=first|exact dI|fail) only[bW,Typ.pv_mk,hm,hM,hs,push_cast,seval]
  refine ab.pure hi rfl ?_
  simp(maxSteps:=9^7) (disch:=first|exact dI|fail) only[hm,hM,hs,push_cast,seval]
 by_cases hw:w.length=0
 case neg=>
  have hwI:(0:Int)<(w.length:Int):=by omega
  rw[show ap false false false false false (.mk 1 m M s w e f)=true by simp[ap,hw,hm,hM,hs]]
  simp(maxSteps:=9^7) (disch:=first|exact dI|fail) only[bW,Typ.pv_mk,hm,hM,hs,hwI,push_cast,seval]
  refine ab.pure hi rfl ?_
  simp(maxSteps:=9^7) (disch:=first|exact dI|fail) only[hm,hM,hs,hwI,push_cast,seval]
 have hwI:¬ (0:Int)<(w.length:Int):=by omega
 by_cases he:e.length=0
 case neg=>
  have heI:(0:Int)<(e.length:Int):=by omega
  rw[show ap false false false false false (.mk 1 m M s w e f)=true by simp[ap,he,hm,hM,hs,hw]]
  simp(maxSteps:=9^7) (disch:=first|exact dI|fail) only[bW,Typ.pv_mk,hm,hM,hs,hwI,heI,push_cast,seval]
  refine ab.pure hi rfl ?_
  simp(maxSteps:=9^7) (disch:=first|exact dI|fail) only[hm,hM,hs,hwI,heI,push_cast,seval]
 have heI:¬ (0:Int)<(e.length:Int):=by omega
 by_cases hf:f.length=0
 case neg=>
  have hfI:(0:Int)<(f.length:Int):=by omega
  rw[show ap false false false false false (.mk 1 m M s w e f)=true by simp[ap,hf,hm,hM,hs,hw,he]]
  simp(maxSteps:=9^7) (disch:=first|exact dI|fail) only[bW,Typ.pv_mk,hm,hM,hs,hwI,heI,hfI,push_cast,seval]
  refine ab.pure hi rfl ?_
  simp(maxSteps:=9^7) (disch:=first|exact dI|fail) only[hm,hM,hs,hwI,heI,hfI,push_cast,seval]
 have hfI:¬ (0:Int)<(f.length:Int):=by omega
 rw[show ap false false false false false (.mk 1 m M s w e f)=false by simp[ap,hm,hM,hs,hw,he,hf]]
 simp(maxSteps:=9^7) (disch:=first|exact dI|fail) only[bW,Typ.pv_mk,hm,hM,hs,hwI,heI,hfI,push_cast,seval]
 refine ab.pure hi rfl ?_
 simp(maxSteps:=9^7) (disch:=first|exact dI|fail) only[hm,hM,hs,hwI,heI,hfI,push_cast,seval]
set_option maxHeartbeats 2000000 in
theorem ow:am Tryz.prog aE 196 [(Typ.mk 2 m M s w e f).pv] (.bool (aZ 2 (.mk 2 m M s w e f))):=by
 have hi:=a8 2 2 8
 rw[show inB 2 2 8=true from rfl] at hi
 rw[show aZ 2 (.mk 2 m M s w e f)=ap true false false false false (.mk 2 m M s w e f) from rfl]
 refine am.intro dF (by simp[bW]) ?_
 by_cases hs:s=0
 case neg=>
  rw[show ap true false false false false (.mk 2 m M s w e f)=true by simp[ap,hs]]
  simp(maxSteps:=9^7) (disch:=first|exact dI|fail) only[bW,Typ.pv_mk,hs,push_cast,seval]
  refine ab.pure hi rfl ?_
  simp(maxSteps:=9^7) (disch:=first|exact dI|fail) only[hs,push_cast,seval]
 by_cases hw:w.length=0
 case neg=>
  have hwI:(0:Int)<(w.length:Int):=by omega
  rw[show ap true false false false false (.mk 2 m M s w e f)=true by simp[ap,hw,hs]]
  simp(maxSteps:=9^7) (disch:=first|exact dI|fail) only[bW,Typ.pv_mk,hs,hwI,push_cast,seval]
  refine ab.pure hi rfl ?_
  simp(maxSteps:=9^7) (disch:=first|exact dI|fail) only[hs,hwI,push_cast,seval]
 have hwI:¬ (0:Int)<(w.length:Int):=by omega
 by_cases he:e.length=0
 case neg=>
  have heI:(0:Int)<(e.length:Int):=by omega
  rw[show ap true false false false false (.mk 2 m M s w e f)=true by simp[ap,he,hs,hw]]
  simp(maxSteps:=9^7) (disch:=first|exact dI|fail) only[bW,Typ.pv_mk,hs,hwI,heI,push_cast,seval]
  refine ab.pure hi rfl ?_
  simp(maxSteps:=9^7) (disch:=first|exact dI|fail) only[hs,hwI,heI,push_cast,seval]
 have heI:¬ (0:Int)<(e.length:Int):=by omega
 by_cases hf:f.length=0
 case neg=>
  have hfI:(0:Int)<(f.length:Int):=by omega
  rw[show ap true false false false false (.mk 2 m M s w e f)=true by simp[ap,hf,hs,hw,he]]
  simp(maxSteps:=9^7) (disch:=first|exact dI|fail) only[bW,Typ.pv_mk,hs,hwI,heI,hfI,push_cast,seval]
  refine ab.pure hi rfl ?_
  simp(maxSteps:=9^7) (disch:=first|exact dI|fail) only[hs,hwI,heI,hfI,push_cast,seval]
 have hfI:¬ (0:Int)<(f.length:Int):=by omega
 rw[show ap true false false false false (.mk 2 m M s w e f)=false by simp[ap,hs,hw,he,hf]]
 simp(maxSteps:=9^7) (disch:=first|exact dI|fail) only[bW,Typ.pv_mk,hs,hwI,heI,hfI,push_cast,seval]
 refine ab.pure hi rfl ?_
 simp(maxSteps:=9^7) (disch:=first|exact dI|fail) only[hs,hwI,heI,hfI,push_cast,seval]
set_option maxHeartbeats 2000000 in
theorem ov:am Tryz.prog aE 196 [(Typ.mk 3 m M s w e f).pv] (.bool (aZ 3 (.mk 3 m M s w e f))):=by
 have hi:=a8 3 2 8
 rw[show inB 3 2 8=true from rfl] at hi
 rw[show aZ 3 (.mk 3 m M s w e f)=ap true true false false false (.mk 3 m M s w e f) from rfl]
 refine am.intro dF (by simp[bW]) ?_
 by_cases hw:w.length=0
 case neg=>
  have hwI:(0:Int)<(w.length:Int):=by omega
  rw[show ap true true false false false (.mk 3 m M s w e f)=true by simp[ap,hw]]
  simp(maxSteps:=9^7) (disch:=first|exact dI|fail) only[bW,Typ.pv_mk,hwI,push_cast,seval]
  refine ab.pure hi rfl ?_
  simp(maxSteps:=9^7) (disch:=first|exact dI|fail) only[hwI,push_cast,seval]
 have hwI:¬ (0:Int)<(w.length:Int):=by omega
 by_cases he:e.length=0
 case neg=>
  have heI:(0:Int)<(e.length:Int):=by omega
  rw[show ap true true false false false (.mk 3 m M s w e f)=true by simp[ap,he,hw]]
  simp(maxSteps:=9^7) (disch:=first|exact dI|fail) only[bW,Typ.pv_mk,hwI,heI,push_cast,seval]
  refine ab.pure hi rfl ?_
  simp(maxSteps:=9^7) (disch:=first|exact dI|fail) only[hwI,heI,push_cast,seval]
 have heI:¬ (0:Int)<(e.length:Int):=by omega
 by_cases hf:f.length=0
 case neg=>
  have hfI:(0:Int)<(f.length:Int):=by omega
  rw[show ap true true false false false (.mk 3 m M s w e f)=true by simp[ap,hf,hw,he]]
  simp(maxSteps:=9^7) (disch:=first|exact dI|fail) only[bW,Typ.pv_mk,hwI,heI,hfI,push_cast,seval]
  refine ab.pure hi rfl ?_
  simp(maxSteps:=9^7) (disch:=first|exact dI|fail) only[hwI,heI,hfI,push_cast,seval]
 have hfI:¬ (0:Int)<(f.length:Int):=by omega
 rw[show ap true true false false false (.mk 3 m M s w e f)=false by simp[ap,hw,he,hf]]
 simp(maxSteps:=9^7) (disch:=first|exact dI|fail) only[bW,Typ.pv_mk,hwI,heI,hfI,push_cast,seval]
 refine ab.pure hi rfl ?_
 simp(maxSteps:=9^7) (disch:=first|exact dI|fail) only[hwI,heI,hfI,push_cast,seval]
set_option maxHeartbeats 2000000 in
theorem ou:am Tryz.prog aE 196 [(Typ.mk 4 m M s w e f).pv] (.bool (aZ 4 (.mk 4 m M s w e f))):=by
 have hi:=a8 4 2 8
 rw[show inB 4 2 8=true from rfl] at hi
 rw[show aZ 4 (.mk 4 m M s w e f)=ap true false true false false (.mk 4 m M s w e f) from rfl]
 refine am.intro dF (by simp[bW]) ?_
 by_cases hs:s=0
 case neg=>
  rw[show ap true false true false false (.mk 4 m M s w e f)=true by simp[ap,hs]]
  simp(maxSteps:=9^7) (disch:=first|exact dI|fail) only[bW,Typ.pv_mk,hs,push_cast,seval]
  refine ab.pure hi rfl ?_
  simp(maxSteps:=9^7) (disch:=first|exact dI|fail) only[hs,push_cast,seval]
 by_cases he:e.length=0
 case neg=>
  have heI:(0:Int)<(e.length:Int):=by omega
  rw[show ap true false true false false (.mk 4 m M s w e f)=true by simp[ap,he,hs]]
  simp(maxSteps:=9^7) (disch:=first|exact dI|fail) only[bW,Typ.pv_mk,hs,heI,push_cast,seval]
  refine ab.pure hi rfl ?_
  simp(maxSteps:=9^7) (disch:=first|exact dI|fail) only[hs,heI,push_cast,seval]
 have heI:¬ (0:Int)<(e.length:Int):=by omega
 by_cases hf:f.length=0
 case neg=>
  have hfI:(0:Int)<(f.length:Int):=by omega
  rw[show ap true false true false false (.mk 4 m M s w e f)=true by simp[ap,hf,hs,he]]
  simp(maxSteps:=9^7) (disch:=first|exact dI|fail) only[bW,Typ.pv_mk,hs,heI,hfI,push_cast,seval]
  refine ab.pure hi rfl ?_
  simp(maxSteps:=9^7) (disch:=first|exact dI|fail) only[hs,heI,hfI,push_cast,seval]
 have hfI:¬ (0:Int)<(f.length:Int):=by omega
 rw[show ap true false true false false (.mk 4 m M s w e f)=false by simp[ap,hs,he,hf]]
 simp(maxSteps:=9^7) (disch:=first|exact dI|fail) only[bW,Typ.pv_mk,hs,heI,hfI,push_cast,seval]
 refine ab.pure hi rfl ?_
 simp(maxSteps:=9^7) (disch:=first|exact dI|fail) only[hs,heI,hfI,push_cast,seval]
set_option maxHeartbeats 2000000 in
theorem ot:am Tryz.prog aE 196 [(Typ.mk 5 m M s w e f).pv] (.bool (aZ 5 (.mk 5 m M s w e f))):=by
 have hi:=a8 5 2 8
 rw[show inB 5 2 8=true from rfl] at hi
 rw[show aZ 5 (.mk 5 m M s w e f)=ap true false false false false (.mk 5 m M s w e f) from rfl]
 refine am.intro dF (by simp[bW]) ?_
 by_cases hs:s=0
 case neg=>
  rw[show ap true false false false false (.mk 5 m M s w e f)=true by simp[ap,hs]]
  simp(maxSteps:=9^7) (disch:=first|exact dI|fail) only[bW,Typ.pv_mk,hs,push_cast,seval]
  refine ab.pure hi rfl ?_
  simp(maxSteps:=9^7) (disch:=first|exact dI|fail) only[hs,push_cast,seval]
 by_cases hw:w.length=0
 case neg=>
  have hwI:(0:Int)<(w.length:Int):=by omega
  rw[show ap true false false false false (.mk 5 m M s w e f)=true by simp[ap,hw,hs]]
  simp(maxSteps:=9^7) (disch:=first|exact dI|fail) only[bW,Typ.pv_mk,hs,hwI,push_cast,seval]
  refine ab.pure hi rfl ?_
  simp(maxSteps:=9^7) (disch:=first|exact dI|fail) only[hs,hwI,push_cast,seval]
 have hwI:¬ (0:Int)<(w.length:Int):=by omega
 by_cases he:e.length=0
 case neg=>
  have heI:(0:Int)<(e.length:Int):=by omega
  rw[show ap true false false false false (.mk 5 m M s w e f)=true by simp[ap,he,hs,hw]]
  simp(maxSteps:=9^7) (disch:=first|exact dI|fail) only[bW,Typ.pv_mk,hs,hwI,heI,push_cast,seval]
  refine ab.pure hi rfl ?_
  simp(maxSteps:=9^7) (disch:=first|exact dI|fail) only[hs,hwI,heI,push_cast,seval]
 have heI:¬ (0:Int)<(e.length:Int):=by omega
 by_cases hf:f.length=0
 case neg=>
  have hfI:(0:Int)<(f.length:Int):=by omega
  rw[show ap true false false false false (.mk 5 m M s w e f)=true by simp[ap,hf,hs,hw,he]]
  simp(maxSteps:=9^7) (disch:=first|exact dI|fail) only[bW,Typ.pv_mk,hs,hwI,heI,hfI,push_cast,seval]
  refine ab.pure hi rfl ?_
  simp(maxSteps:=9^7) (disch:=first|exact dI|fail) only[hs,hwI,heI,hfI,push_cast,seval]
 have hfI:¬ (0:Int)<(f.length:Int):=by omega
 rw[show ap true false false false false (.mk 5 m M s w e f)=false by simp[ap,hs,hw,he,hf]]
 simp(maxSteps:=9^7) (disch:=first|exact dI|fail) only[bW,Typ.pv_mk,hs,hwI,heI,hfI,push_cast,seval]
 refine ab.pure hi rfl ?_
 simp(maxSteps:=9^7) (disch:=first|exact dI|fail) only[hs,hwI,heI,hfI,push_cast,seval]
set_option maxHeartbeats 2000000 in
theorem oq:am Tryz.prog aE 196 [(Typ.mk 6 m M s w e f).pv] (.bool (aZ 6 (.mk 6 m M s w e f))):=by
 have hi:=a8 6 2 8
 rw[show inB 6 2 8=true from rfl] at hi
 rw[show aZ 6 (.mk 6 m M s w e f)=ap true false false false false (.mk 6 m M s w e f) from rfl]
 refine am.intro dF (by simp[bW]) ?_
 by_cases hs:s=0
 case neg=>
  rw[show ap true false false false false (.mk 6 m M s w e f)=true by simp[ap,hs]]
  simp(maxSteps:=9^7) (disch:=first|exact dI|fail) only[bW,Typ.pv_mk,hs,push_cast,seval]
  refine ab.pure hi rfl ?_
  simp(maxSteps:=9^7) (disch:=first|exact dI|fail) only[hs,push_cast,seval]
 by_cases hw:w.length=0
 case neg=>
  have hwI:(0:Int)<(w.length:Int):=by omega
  rw[show ap true false false false false (.mk 6 m M s w e f)=true by simp[ap,hw,hs]]
  simp(maxSteps:=9^7) (disch:=first|exact dI|fail) only[bW,Typ.pv_mk,hs,hwI,push_cast,seval]
  refine ab.pure hi rfl ?_
  simp(maxSteps:=9^7) (disch:=first|exact dI|fail) only[hs,hwI,push_cast,seval]
 have hwI:¬ (0:Int)<(w.length:Int):=by omega
 by_cases he:e.length=0
 case neg=>
  have heI:(0:Int)<(e.length:Int):=by omega
  rw[show ap true false false false false (.mk 6 m M s w e f)=true by simp[ap,he,hs,hw]]
  simp(maxSteps:=9^7) (disch:=first|exact dI|fail) only[bW,Typ.pv_mk,hs,hwI,heI,push_cast,seval]
  refine ab.pure hi rfl ?_
  simp(maxSteps:=9^7) (disch:=first|exact dI|fail) only[hs,hwI,heI,push_cast,seval]
 have heI:¬ (0:Int)<(e.length:Int):=by omega
 by_cases hf:f.length=0
 case neg=>
  have hfI:(0:Int)<(f.length:Int):=by omega
  rw[show ap true false false false false (.mk 6 m M s w e f)=true by simp[ap,hf,hs,hw,he]]
  simp(maxSteps:=9^7) (disch:=first|exact dI|fail) only[bW,Typ.pv_mk,hs,hwI,heI,hfI,push_cast,seval]
  refine ab.pure hi rfl ?_
  simp(maxSteps:=9^7) (disch:=first|exact dI|fail) only[hs,hwI,heI,hfI,push_cast,seval]
 have hfI:¬ (0:Int)<(f.length:Int):=by omega
 rw[show ap true false false false false (.mk 6 m M s w e f)=false by simp[ap,hs,hw,he,hf]]
 simp(maxSteps:=9^7) (disch:=first|exact dI|fail) only[bW,Typ.pv_mk,hs,hwI,heI,hfI,push_cast,seval]
 refine ab.pure hi rfl ?_
 simp(maxSteps:=9^7) (disch:=first|exact dI|fail) only[hs,hwI,heI,hfI,push_cast,seval]
set_option maxHeartbeats 2000000 in
theorem oo:am Tryz.prog aE 196 [(Typ.mk 7 m M s w e f).pv] (.bool (aZ 7 (.mk 7 m M s w e f))):=by
 have hi:=a8 7 2 8
 rw[show inB 7 2 8=true from rfl] at hi
 rw[show aZ 7 (.mk 7 m M s w e f)=ap true false false false false (.mk 7 m M s w e f) from rfl]
 refine am.intro dF (by simp[bW]) ?_
 by_cases hs:s=0
 case neg=>
  rw[show ap true false false false false (.mk 7 m M s w e f)=true by simp[ap,hs]]
  simp(maxSteps:=9^7) (disch:=first|exact dI|fail) only[bW,Typ.pv_mk,hs,push_cast,seval]
  refine ab.pure hi rfl ?_
  simp(maxSteps:=9^7) (disch:=first|exact dI|fail) only[hs,push_cast,seval]
 by_cases hw:w.length=0
 case neg=>
  have hwI:(0:Int)<(w.length:Int):=by omega
  rw[show ap true false false false false (.mk 7 m M s w e f)=true by simp[ap,hw,hs]]
  simp(maxSteps:=9^7) (disch:=first|exact dI|fail) only[bW,Typ.pv_mk,hs,hwI,push_cast,seval]
  refine ab.pure hi rfl ?_
  simp(maxSteps:=9^7) (disch:=first|exact dI|fail) only[hs,hwI,push_cast,seval]
 have hwI:¬ (0:Int)<(w.length:Int):=by omega
 by_cases he:e.length=0
 case neg=>
  have heI:(0:Int)<(e.length:Int):=by omega
  rw[show ap true false false false false (.mk 7 m M s w e f)=true by simp[ap,he,hs,hw]]
  simp(maxSteps:=9^7) (disch:=first|exact dI|fail) only[bW,Typ.pv_mk,hs,hwI,heI,push_cast,seval]
  refine ab.pure hi rfl ?_
  simp(maxSteps:=9^7) (disch:=first|exact dI|fail) only[hs,hwI,heI,push_cast,seval]
 have heI:¬ (0:Int)<(e.length:Int):=by omega
 by_cases hf:f.length=0
 case neg=>
  have hfI:(0:Int)<(f.length:Int):=by omega
  rw[show ap true false false false false (.mk 7 m M s w e f)=true by simp[ap,hf,hs,hw,he]]
  simp(maxSteps:=9^7) (disch:=first|exact dI|fail) only[bW,Typ.pv_mk,hs,hwI,heI,hfI,push_cast,seval]
  refine ab.pure hi rfl ?_
  simp(maxSteps:=9^7) (disch:=first|exact dI|fail) only[hs,hwI,heI,hfI,push_cast,seval]
 have hfI:¬ (0:Int)<(f.length:Int):=by omega
 rw[show ap true false false false false (.mk 7 m M s w e f)=false by simp[ap,hs,hw,he,hf]]
 simp(maxSteps:=9^7) (disch:=first|exact dI|fail) only[bW,Typ.pv_mk,hs,hwI,heI,hfI,push_cast,seval]
 refine ab.pure hi rfl ?_
 simp(maxSteps:=9^7) (disch:=first|exact dI|fail) only[hs,hwI,heI,hfI,push_cast,seval]
set_option maxHeartbeats 2000000 in
theorem om:am Tryz.prog aE 196 [(Typ.mk 8 m M s w e f).pv] (.bool (aZ 8 (.mk 8 m M s w e f))):=by
 have hi:=a8 8 2 8
 rw[show inB 8 2 8=true from rfl] at hi
 rw[show aZ 8 (.mk 8 m M s w e f)=ap true false false true false (.mk 8 m M s w e f) from rfl]
 refine am.intro dF (by simp[bW]) ?_
 by_cases hs:s=0
 case neg=>
  rw[show ap true false false true false (.mk 8 m M s w e f)=true by simp[ap,hs]]
  simp(maxSteps:=9^7) (disch:=first|exact dI|fail) only[bW,Typ.pv_mk,hs,push_cast,seval]
  refine ab.pure hi rfl ?_
  simp(maxSteps:=9^7) (disch:=first|exact dI|fail) only[hs,push_cast,seval]
 by_cases hw:w.length=0
 case neg=>
  have hwI:(0:Int)<(w.length:Int):=by omega
  rw[show ap true false false true false (.mk 8 m M s w e f)=true by simp[ap,hw,hs]]
  simp(maxSteps:=9^7) (disch:=first|exact dI|fail) only[bW,Typ.pv_mk,hs,hwI,push_cast,seval]
  refine ab.pure hi rfl ?_
  simp(maxSteps:=9^7) (disch:=first|exact dI|fail) only[hs,hwI,push_cast,seval]
 have hwI:¬ (0:Int)<(w.length:Int):=by omega
 by_cases hf:f.length=0
 case neg=>
  have hfI:(0:Int)<(f.length:Int):=by omega
  rw[show ap true false false true false (.mk 8 m M s w e f)=true by simp[ap,hf,hs,hw]]
  simp(maxSteps:=9^7) (disch:=first|exact dI|fail) only[bW,Typ.pv_mk,hs,hwI,hfI,push_cast,seval]
  refine ab.pure hi rfl ?_
  simp(maxSteps:=9^7) (disch:=first|exact dI|fail) only[hs,hwI,hfI,push_cast,seval]
 have hfI:¬ (0:Int)<(f.length:Int):=by omega
 rw[show ap true false false true false (.mk 8 m M s w e f)=false by simp[ap,hs,hw,hf]]
 simp(maxSteps:=9^7) (disch:=first|exact dI|fail) only[bW,Typ.pv_mk,hs,hwI,hfI,push_cast,seval]
 refine ab.pure hi rfl ?_
 simp(maxSteps:=9^7) (disch:=first|exact dI|fail) only[hs,hwI,hfI,push_cast,seval]
set_option maxHeartbeats 2000000 in
theorem ol:am Tryz.prog aE 196 [(Typ.mk 9 m M s w e f).pv] (.bool (aZ 9 (.mk 9 m M s w e f))):=by
 have hi:=a8 9 2 8
 rw[show inB 9 2 8=false from rfl] at hi
 rw[show aZ 9 (.mk 9 m M s w e f)=ap false false false false true (.mk 9 m M s w e f) from rfl]
 refine am.intro dF (by simp[bW]) ?_
 by_cases hm:m=0
 case neg=>
  rw[show ap false false false false true (.mk 9 m M s w e f)=true by simp[ap,hm]]
  simp(maxSteps:=9^7) (disch:=first|exact dI|fail) only[bW,Typ.pv_mk,hm,push_cast,seval]
  refine ab.pure hi rfl ?_
  simp(maxSteps:=9^7) (disch:=first|exact dI|fail) only[hm,push_cast,seval]
 by_cases hM:M=0
 case neg=>
  rw[show ap false false false false true (.mk 9 m M s w e f)=true by simp[ap,hM,hm]]
  simp(maxSteps:=9^7) (disch:=first|exact dI|fail) only[bW,Typ.pv_mk,hm,hM,push_cast,seval]
  refine ab.pure hi rfl ?_
  simp(maxSteps:=9^7) (disch:=first|exact dI|fail) only[hm,hM,push_cast,seval]
 by_cases hs:s=0
 case neg=>
  rw[show ap false false false false true (.mk 9 m M s w e f)=true by simp[ap,hs,hm,hM]]
  simp(maxSteps:=9^7) (disch:=first|exact dI|fail) only[bW,Typ.pv_mk,hm,hM,hs,push_cast,seval]
  refine ab.pure hi rfl ?_
  simp(maxSteps:=9^7) (disch:=first|exact dI|fail) only[hm,hM,hs,push_cast,seval]
 by_cases hw:w.length=0
 case neg=>
  have hwI:(0:Int)<(w.length:Int):=by omega
  rw[show ap false false false false true (.mk 9 m M s w e f)=true by simp[ap,hw,hm,hM,hs]]
  simp(maxSteps:=9^7) (disch:=first|exact dI|fail) only[bW,Typ.pv_mk,hm,hM,hs,hwI,push_cast,seval]
  refine ab.pure hi rfl ?_
  simp(maxSteps:=9^7) (disch:=first|exact dI|fail) only[hm,hM,hs,hwI,push_cast,seval]
 have hwI:¬ (0:Int)<(w.length:Int):=by omega
 by_cases he:e.length=0
 case neg=>
  have heI:(0:Int)<(e.length:Int):=by omega
  rw[show ap false false false false true (.mk 9 m M s w e f)=true by simp[ap,he,hm,hM,hs,hw]]
  simp(maxSteps:=9^7) (disch:=first|exact dI|fail) only[bW,Typ.pv_mk,hm,hM,hs,hwI,heI,push_cast,seval]
  refine ab.pure hi rfl ?_
  simp(maxSteps:=9^7) (disch:=first|exact dI|fail) only[hm,hM,hs,hwI,heI,push_cast,seval]
 have heI:¬ (0:Int)<(e.length:Int):=by omega
 rw[show ap false false false false true (.mk 9 m M s w e f)=false by simp[ap,hm,hM,hs,hw,he]]
 simp(maxSteps:=9^7) (disch:=first|exact dI|fail) only[bW,Typ.pv_mk,hm,hM,hs,hwI,heI,push_cast,seval]
 refine ab.pure hi rfl ?_
 simp(maxSteps:=9^7) (disch:=first|exact dI|fail) only[hm,hM,hs,hwI,heI,push_cast,seval]
set_option maxHeartbeats 2000000 in
theorem lS:am Tryz.prog aE 196 [(Typ.mk 10 m M s w e f).pv] (.bool (aZ 10 (.mk 10 m M s w e f))):=by
 have hi:=a8 10 2 8
 rw[show inB 10 2 8=false from rfl] at hi
 rw[show aZ 10 (.mk 10 m M s w e f)=ap false false false false true (.mk 10 m M s w e f) from rfl]
 refine am.intro dF (by simp[bW]) ?_
 by_cases hm:m=0
 case neg=>
  rw[show ap false false false false true (.mk 10 m M s w e f)=true by simp[ap,hm]]
  simp(maxSteps:=9^7) (disch:=first|exact dI|fail) only[bW,Typ.pv_mk,hm,push_cast,seval]
  refine ab.pure hi rfl ?_
  simp(maxSteps:=9^7) (disch:=first|exact dI|fail) only[hm,push_cast,seval]
 by_cases hM:M=0
 case neg=>
  rw[show ap false false false false true (.mk 10 m M s w e f)=true by simp[ap,hM,hm]]
  simp(maxSteps:=9^7) (disch:=first|exact dI|fail) only[bW,Typ.pv_mk,hm,hM,push_cast,seval]
  refine ab.pure hi rfl ?_
  simp(maxSteps:=9^7) (disch:=first|exact dI|fail) only[hm,hM,push_cast,seval]
 by_cases hs:s=0
 case neg=>
  rw[show ap false false false false true (.mk 10 m M s w e f)=true by simp[ap,hs,hm,hM]]
  simp(maxSteps:=9^7) (disch:=first|exact dI|fail) only[bW,Typ.pv_mk,hm,hM,hs,push_cast,seval]
  refine ab.pure hi rfl ?_
  simp(maxSteps:=9^7) (disch:=first|exact dI|fail) only[hm,hM,hs,push_cast,seval]
 by_cases hw:w.length=0
 case neg=>
  have hwI:(0:Int)<(w.length:Int):=by omega
  rw[show ap false false false false true (.mk 10 m M s w e f)=true by simp[ap,hw,hm,hM,hs]]
  simp(maxSteps:=9^7) (disch:=first|exact dI|fail) only[bW,Typ.pv_mk,hm,hM,hs,hwI,push_cast,seval]
  refine ab.pure hi rfl ?_
  simp(maxSteps:=9^7) (disch:=first|exact dI|fail) only[hm,hM,hs,hwI,push_cast,seval]
 have hwI:¬ (0:Int)<(w.length:Int):=by omega
 by_cases he:e.length=0
 case neg=>
  have heI:(0:Int)<(e.length:Int):=by omega
  rw[show ap false false false false true (.mk 10 m M s w e f)=true by simp[ap,he,hm,hM,hs,hw]]
  simp(maxSteps:=9^7) (disch:=first|exact dI|fail) only[bW,Typ.pv_mk,hm,hM,hs,hwI,heI,push_cast,seval]
  refine ab.pure hi rfl ?_
  simp(maxSteps:=9^7) (disch:=first|exact dI|fail) only[hm,hM,hs,hwI,heI,push_cast,seval]
 have heI:¬ (0:Int)<(e.length:Int):=by omega
 rw[show ap false false false false true (.mk 10 m M s w e f)=false by simp[ap,hm,hM,hs,hw,he]]
 simp(maxSteps:=9^7) (disch:=first|exact dI|fail) only[bW,Typ.pv_mk,hm,hM,hs,hwI,heI,push_cast,seval]
 refine ab.pure hi rfl ?_
 simp(maxSteps:=9^7) (disch:=first|exact dI|fail) only[hm,hM,hs,hwI,heI,push_cast,seval]
theorem bJ (k:Int)(hk:1≤k∧k≤10):am Tryz.prog aE 196 [(Typ.mk k m M s w e f).pv] (.bool (aZ k (.mk k m M s w e f))):=by
 have hc:k=1∨k=2∨k=3∨k=4∨k=5∨k=6∨k=7∨k=8∨k=9∨k=10:=by omega
 clear hk
 rcases hc with rfl | rfl | rfl | rfl | rfl | rfl | rfl | rfl | rfl | rfl
 ·exact ox m M s w e f
 ·exact ow m M s w e f
 ·exact ov m M s w e f
 ·exact ou m M s w e f
 ·exact ot m M s w e f
 ·exact oq m M s w e f
 ·exact oo m M s w e f
 ·exact om m M s w e f
 ·exact ol m M s w e f
 ·exact lS m M s w e f
theorem cY (k:Int)(hk:2≤k∧k≤8):am Tryz.prog aE 198 [.int .i64 k] (.tup [.int .i64 (loK k),.int .i64 (hiK k)]):=by
 have hc:k=2∨k=3∨k=4∨k=5∨k=6∨k=7∨k=8:=by omega
 clear hk
 rcases hc with rfl | rfl | rfl | rfl | rfl | rfl | rfl
 all_goals
  refine am.intro Bx (by simp[NN]) ?_
  simp only[loK,hiK]
  simp(maxSteps:=9^7) (disch:=first|exact dI|fail) only[NN,push_cast,seval]
theorem dg (k a b:Int):am Tryz.prog aE 199 [(Typ.mk k m M s w e f).pv,.int .i64 a,.int .i64 b] (.bool (decide (¬ (M<m∨m<a∨b<M)))):=by
 refine am.intro Kq (by simp[KX]) ?_
 by_cases h1:a≤m
 ·by_cases h2:M≤b
  ·by_cases h3:m≤M
   ·rw[decide_eq_true (show ¬ (M<m∨m<a∨b<M) by omega)]
    simp(maxSteps:=9^7) (disch:=first|exact dI|fail) only[KX,Typ.pv_mk,h1,h2,h3,push_cast,seval]
   ·rw[decide_eq_false (show ¬ ¬ (M<m∨m<a∨b<M) by omega)]
    simp(maxSteps:=9^7) (disch:=first|exact dI|fail) only[KX,Typ.pv_mk,h1,h2,h3,push_cast,seval]
  ·rw[decide_eq_false (show ¬ ¬ (M<m∨m<a∨b<M) by omega)]
   simp(maxSteps:=9^7) (disch:=first|exact dI|fail) only[KX,Typ.pv_mk,h1,h2,push_cast,seval]
 ·rw[decide_eq_false (show ¬ ¬ (M<m∨m<a∨b<M) by omega)]
  simp(maxSteps:=9^7) (disch:=first|exact dI|fail) only[KX,Typ.pv_mk,h1,push_cast,seval]
theorem rn (k:Int)(name:List UInt8)(hl:f.length≤1000000000):am Tryz.prog aE 252 [(Typ.mk k m M s w e f).pv,.str name] (.int .i64 (fj (named name) f 0)):=by
 refine am.intro Kc (by simp[Px]) ?_
 simp(maxSteps:=9^7) (disch:=first|exact dI|fail) only[Px,Typ.pv_mk,push_cast,seval]
 refine aD ([]) (fun i:Nat=>[(5,.pv (.int .i64 (i:Int)))]) (fun _=>[]) (fun i=>i≤f.length∧fj (named name) f 0=fj (named name) (f.drop i) i) (fun i=>f.length - i) (0) ?_;intro e0 σ0 n0 h0;simp(maxSteps:=9^7) (disch:=first|exact dI|fail) only[push_cast,seval] at h0;obtain⟨rfl,rfl,rfl⟩:=h0;refine⟨?_,?_,?_⟩
 ·simp(maxSteps:=9^7) (disch:=first|exact dI|fail) only[push_cast,seval]
 ·exact⟨by omega,by simp⟩
 rintro i ⟨hi,he⟩
 by_cases hlt:i<f.length
 ·have hltI:(i:Int)<(f.length:Int):=by omega
  obtain⟨x,hx⟩:∃ x,f[i]? = some x:=⟨_,List.getElem?_eq_getElem hlt⟩
  have hhit:=fun h=>fx (p:=named name) hx h
  have hmiss:=fun h=>ea (p:=named name) hx h
  obtain⟨x1,x2,x3,⟨y1,y2,y3,y4,y5,y6,y7⟩,x5⟩:=x
  simp only[named,TFd.name] at hhit hmiss
  by_cases hn:x2=name
  ·rw[he,hhit (decide_eq_true hn)]
   simp(maxSteps:=9^7) (disch:=first|exact dI|fail) only[hx,Option.map_some,hn,TFd.pv_mk,Typ.pv_mk,ag,push_cast,seval]
  ·simp(maxSteps:=9^7) (disch:=first|exact dI|fail) only[hx,Option.map_some,hn,TFd.pv_mk,Typ.pv_mk,ag,push_cast,seval]
   exact⟨i+1,bf (by simp(maxSteps:=9^7) (disch:=first|exact dI|fail) only[push_cast,seval]),⟨by omega,by rw[he];exact hmiss (decide_eq_false hn)⟩,by omega⟩
 ·obtain rfl:i=f.length:=by omega
  rw[he,fy (by omega)]
  simp(maxSteps:=9^7) (disch:=first|exact dI|fail) only[Int.lt_irrefl,push_cast,seval]
end
end Go.Proofs.YtbaaokocnegdoaaGreatDoor
