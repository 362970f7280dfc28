/- A part of the proof for DelimitedRepresentableCardSaid. -/
import Derived.Test.YtbaaokocnegdoaaGreatDoorRepVU3
set_option maxRecDepth 100000
set_option linter.unusedVariables false
set_option linter.unusedSimpArgs false
-- many steps
namespace Go.Proofs.YtbaaokocnegdoaaGreatDoor
open Go Go.Ab
attribute [local irreducible] vc
section
variable (m M s:Int)(w:List (List UInt8))(e:List Typ)(f:List TFd)
set_option maxHeartbeats 2000000 in
theorem nJ:ak Tryz.prog aD 196 [(Typ.mk 1 m M s w e f).pv] (.bool (aV 1 (.mk 1 m M s w e f))):=by
 have hi:=aW 1 2 8
 rw[show inB 1 2 8=false from rfl] at hi
 rw[show aV 1 (.mk 1 m M s w e f)=am false false false false false (.mk 1 m M s w e f) from rfl]
 refine ak.intro dr (by simp[bQ]) ?_
 by_cases hm:m=0
 case neg=>
  rw[show am false false false false false (.mk 1 m M s w e f)=true by simp[am,hm]]
  simp(maxSteps:=9^7) (disch:=first|exact dI|fail) only[bQ,Typ.pv_mk,hm,push_cast,seval]
  refine ab.pure hi rfl ?_
  simp(maxSteps:=9^7) (disch:=first|exact dI|fail) only[hm,push_cast,seval]
 by_cases hM:M=0
 case neg=>
  rw[show am false false false false false (.mk 1 m M s w e f)=true by simp[am,hM,hm]]
  simp(maxSteps:=9^7) (disch:=first|exact dI|fail) only[bQ,Typ.pv_mk,hm,hM,push_cast,seval]
  refine ab.pure hi rfl ?_
  simp(maxSteps:=9^7) (disch:=first|exact dI|fail) only[hm,hM,push_cast,seval]
 by_cases hs:s=0
 case neg=>
  rw[show am false false false false false (.mk 1 m M s w e f)=true by simp[am,hs,hm,hM]]
  simp(maxSteps:=9^7) (disch:=first|exact dI|fail) only[bQ,Typ.pv_mk,hm,hM,hs,push_cast,seval]
  refine ab.pure hi rfl ?_
  simp(maxSteps:=9^7) (disch:=first|exact dI|fail) only[hm,hM,hs,push_cast,seval]
 by_cases hw:w.length=0
 case neg=>
  have hwI:(0:Int)<(w.length:Int):=by omega
  rw[show am false false false false false (.mk 1 m M s w e f)=true by simp[am,hw,hm,hM,hs]]
  simp(maxSteps:=9^7) (disch:=first|exact dI|fail) only[bQ,Typ.pv_mk,hm,hM,hs,hwI,push_cast,seval]
  refine ab.pure hi rfl ?_
  simp(maxSteps:=9^7) (disch:=first|exact dI|fail) only[hm,hM,hs,hwI,push_cast,seval]
 have hwI:¬ (0:Int)<(w.length:Int):=by omega
 by_cases he:e.length=0
 case neg=>
  have heI:(0:Int)<(e.length:Int):=by omega
  rw[show am false false false false false (.mk 1 m M s w e f)=true by simp[am,he,hm,hM,hs,hw]]
  simp(maxSteps:=9^7) (disch:=first|exact dI|fail) only[bQ,Typ.pv_mk,hm,hM,hs,hwI,heI,push_cast,seval]
  refine ab.pure hi rfl ?_
  simp(maxSteps:=9^7) (disch:=first|exact dI|fail) only[hm,hM,hs,hwI,heI,push_cast,seval]
 have heI:¬ (0:Int)<(e.length:Int):=by omega
 by_cases hf:f.length=0
 case neg=>
  have hfI:(0:Int)<(f.length:Int):=by omega
  rw[show am false false false false false (.mk 1 m M s w e f)=true by simp[am,hf,hm,hM,hs,hw,he]]
  simp(maxSteps:=9^7) (disch:=first|exact dI|fail) only[bQ,Typ.pv_mk,hm,hM,hs,hwI,heI,hfI,push_cast,seval]
  refine ab.pure hi rfl ?_
  simp(maxSteps:=9^7) (disch:=first|exact dI|fail) only[hm,hM,hs,hwI,heI,hfI,push_cast,seval]
 have hfI:¬ (0:Int)<(f.length:Int):=by omega
 rw[show am false false false false false (.mk 1 m M s w e f)=false by simp[am,hm,hM,hs,hw,he,hf]]
 simp(maxSteps:=9^7) (disch:=first|exact dI|fail) only[bQ,Typ.pv_mk,hm,hM,hs,hwI,heI,hfI,push_cast,seval]
 refine ab.pure hi rfl ?_
 simp(maxSteps:=9^7) (disch:=first|exact dI|fail) only[hm,hM,hs,hwI,heI,hfI,push_cast,seval]
set_option maxHeartbeats 2000000 in
theorem nI:ak Tryz.prog aD 196 [(Typ.mk 2 m M s w e f).pv] (.bool (aV 2 (.mk 2 m M s w e f))):=by
 have hi:=aW 2 2 8
 rw[show inB 2 2 8=true from rfl] at hi
 rw[show aV 2 (.mk 2 m M s w e f)=am true false false false false (.mk 2 m M s w e f) from rfl]
 refine ak.intro dr (by simp[bQ]) ?_
 by_cases hs:s=0
 case neg=>
  rw[show am true false false false false (.mk 2 m M s w e f)=true by simp[am,hs]]
  simp(maxSteps:=9^7) (disch:=first|exact dI|fail) only[bQ,Typ.pv_mk,hs,push_cast,seval]
  refine ab.pure hi rfl ?_
  simp(maxSteps:=9^7) (disch:=first|exact dI|fail) only[hs,push_cast,seval]
 by_cases hw:w.length=0
 case neg=>
  have hwI:(0:Int)<(w.length:Int):=by omega
  rw[show am true false false false false (.mk 2 m M s w e f)=true by simp[am,hw,hs]]
  simp(maxSteps:=9^7) (disch:=first|exact dI|fail) only[bQ,Typ.pv_mk,hs,hwI,push_cast,seval]
  refine ab.pure hi rfl ?_
  simp(maxSteps:=9^7) (disch:=first|exact dI|fail) only[hs,hwI,push_cast,seval]
 have hwI:¬ (0:Int)<(w.length:Int):=by omega
 by_cases he:e.length=0
 case neg=>
  have heI:(0:Int)<(e.length:Int):=by omega
  rw[show am true false false false false (.mk 2 m M s w e f)=true by simp[am,he,hs,hw]]
  simp(maxSteps:=9^7) (disch:=first|exact dI|fail) only[bQ,Typ.pv_mk,hs,hwI,heI,push_cast,seval]
  refine ab.pure hi rfl ?_
  simp(maxSteps:=9^7) (disch:=first|exact dI|fail) only[hs,hwI,heI,push_cast,seval]
 have heI:¬ (0:Int)<(e.length:Int):=by omega
 by_cases hf:f.length=0
 case neg=>
  have hfI:(0:Int)<(f.length:Int):=by omega
  rw[show am true false false false false (.mk 2 m M s w e f)=true by simp[am,hf,hs,hw,he]]
  simp(maxSteps:=9^7) (disch:=first|exact dI|fail) only[bQ,Typ.pv_mk,hs,hwI,heI,hfI,push_cast,seval]
  refine ab.pure hi rfl ?_
  simp(maxSteps:=9^7) (disch:=first|exact dI|fail) only[hs,hwI,heI,hfI,push_cast,seval]
 have hfI:¬ (0:Int)<(f.length:Int):=by omega
 rw[show am true false false false false (.mk 2 m M s w e f)=false by simp[am,hs,hw,he,hf]]
 simp(maxSteps:=9^7) (disch:=first|exact dI|fail) only[bQ,Typ.pv_mk,hs,hwI,heI,hfI,push_cast,seval]
 refine ab.pure hi rfl ?_
 simp(maxSteps:=9^7) (disch:=first|exact dI|fail) only[hs,hwI,heI,hfI,push_cast,seval]
set_option maxHeartbeats 2000000 in
theorem nH:ak Tryz.prog aD 196 [(Typ.mk 3 m M s w e f).pv] (.bool (aV 3 (.mk 3 m M s w e f))):=by
 have hi:=aW 3 2 8
 rw[show inB 3 2 8=true from rfl] at hi
 rw[show aV 3 (.mk 3 m M s w e f)=am true true false false false (.mk 3 m M s w e f) from rfl]
 refine ak.intro dr (by simp[bQ]) ?_
 by_cases hw:w.length=0
 case neg=>
  have hwI:(0:Int)<(w.length:Int):=by omega
  rw[show am true true false false false (.mk 3 m M s w e f)=true by simp[am,hw]]
  simp(maxSteps:=9^7) (disch:=first|exact dI|fail) only[bQ,Typ.pv_mk,hwI,push_cast,seval]
  refine ab.pure hi rfl ?_
  simp(maxSteps:=9^7) (disch:=first|exact dI|fail) only[hwI,push_cast,seval]
 have hwI:¬ (0:Int)<(w.length:Int):=by omega
 by_cases he:e.length=0
 case neg=>
  have heI:(0:Int)<(e.length:Int):=by omega
  rw[show am true true false false false (.mk 3 m M s w e f)=true by simp[am,he,hw]]
  simp(maxSteps:=9^7) (disch:=first|exact dI|fail) only[bQ,Typ.pv_mk,hwI,heI,push_cast,seval]
  refine ab.pure hi rfl ?_
  simp(maxSteps:=9^7) (disch:=first|exact dI|fail) only[hwI,heI,push_cast,seval]
 have heI:¬ (0:Int)<(e.length:Int):=by omega
 by_cases hf:f.length=0
 case neg=>
  have hfI:(0:Int)<(f.length:Int):=by omega
  rw[show am true true false false false (.mk 3 m M s w e f)=true by simp[am,hf,hw,he]]
  simp(maxSteps:=9^7) (disch:=first|exact dI|fail) only[bQ,Typ.pv_mk,hwI,heI,hfI,push_cast,seval]
  refine ab.pure hi rfl ?_
  simp(maxSteps:=9^7) (disch:=first|exact dI|fail) only[hwI,heI,hfI,push_cast,seval]
 have hfI:¬ (0:Int)<(f.length:Int):=by omega
 rw[show am true true false false false (.mk 3 m M s w e f)=false by simp[am,hw,he,hf]]
 simp(maxSteps:=9^7) (disch:=first|exact dI|fail) only[bQ,Typ.pv_mk,hwI,heI,hfI,push_cast,seval]
 refine ab.pure hi rfl ?_
 simp(maxSteps:=9^7) (disch:=first|exact dI|fail) only[hwI,heI,hfI,push_cast,seval]
set_option maxHeartbeats 2000000 in
theorem nG:ak Tryz.prog aD 196 [(Typ.mk 4 m M s w e f).pv] (.bool (aV 4 (.mk 4 m M s w e f))):=by
 have hi:=aW 4 2 8
 rw[show inB 4 2 8=true from rfl] at hi
 rw[show aV 4 (.mk 4 m M s w e f)=am true false true false false (.mk 4 m M s w e f) from rfl]
 refine ak.intro dr (by simp[bQ]) ?_
 by_cases hs:s=0
 case neg=>
  rw[show am true false true false false (.mk 4 m M s w e f)=true by simp[am,hs]]
  simp(maxSteps:=9^7) (disch:=first|exact dI|fail) only[bQ,Typ.pv_mk,hs,push_cast,seval]
  refine ab.pure hi rfl ?_
  simp(maxSteps:=9^7) (disch:=first|exact dI|fail) only[hs,push_cast,seval]
 by_cases he:e.length=0
 case neg=>
  have heI:(0:Int)<(e.length:Int):=by omega
  rw[show am true false true false false (.mk 4 m M s w e f)=true by simp[am,he,hs]]
  simp(maxSteps:=9^7) (disch:=first|exact dI|fail) only[bQ,Typ.pv_mk,hs,heI,push_cast,seval]
  refine ab.pure hi rfl ?_
  simp(maxSteps:=9^7) (disch:=first|exact dI|fail) only[hs,heI,push_cast,seval]
 have heI:¬ (0:Int)<(e.length:Int):=by omega
 by_cases hf:f.length=0
 case neg=>
  have hfI:(0:Int)<(f.length:Int):=by omega
  rw[show am true false true false false (.mk 4 m M s w e f)=true by simp[am,hf,hs,he]]
  simp(maxSteps:=9^7) (disch:=first|exact dI|fail) only[bQ,Typ.pv_mk,hs,heI,hfI,push_cast,seval]
  refine ab.pure hi rfl ?_
  simp(maxSteps:=9^7) (disch:=first|exact dI|fail) only[hs,heI,hfI,push_cast,seval]
 have hfI:¬ (0:Int)<(f.length:Int):=by omega
 rw[show am true false true false false (.mk 4 m M s w e f)=false by simp[am,hs,he,hf]]
 simp(maxSteps:=9^7) (disch:=first|exact dI|fail) only[bQ,Typ.pv_mk,hs,heI,hfI,push_cast,seval]
 refine ab.pure hi rfl ?_
 simp(maxSteps:=9^7) (disch:=first|exact dI|fail) only[hs,heI,hfI,push_cast,seval]
set_option maxHeartbeats 2000000 in
theorem nF:ak Tryz.prog aD 196 [(Typ.mk 5 m M s w e f).pv] (.bool (aV 5 (.mk 5 m M s w e f))):=by
 have hi:=aW 5 2 8
 rw[show inB 5 2 8=true from rfl] at hi
 rw[show aV 5 (.mk 5 m M s w e f)=am true false false false false (.mk 5 m M s w e f) from rfl]
 refine ak.intro dr (by simp[bQ]) ?_
 by_cases hs:s=0
 case neg=>
  rw[show am true false false false false (.mk 5 m M s w e f)=true by simp[am,hs]]
  simp(maxSteps:=9^7) (disch:=first|exact dI|fail) only[bQ,Typ.pv_mk,hs,push_cast,seval]
  refine ab.pure hi rfl ?_
  simp(maxSteps:=9^7) (disch:=first|exact dI|fail) only[hs,push_cast,seval]
 by_cases hw:w.length=0
 case neg=>
  have hwI:(0:Int)<(w.length:Int):=by omega
  rw[show am true false false false false (.mk 5 m M s w e f)=true by simp[am,hw,hs]]
  simp(maxSteps:=9^7) (disch:=first|exact dI|fail) only[bQ,Typ.pv_mk,hs,hwI,push_cast,seval]
  refine ab.pure hi rfl ?_
  simp(maxSteps:=9^7) (disch:=first|exact dI|fail) only[hs,hwI,push_cast,seval]
 have hwI:¬ (0:Int)<(w.length:Int):=by omega
 by_cases he:e.length=0
 case neg=>
  have heI:(0:Int)<(e.length:Int):=by omega
  rw[show am true false false false false (.mk 5 m M s w e f)=true by simp[am,he,hs,hw]]
  simp(maxSteps:=9^7) (disch:=first|exact dI|fail) only[bQ,Typ.pv_mk,hs,hwI,heI,push_cast,seval]
  refine ab.pure hi rfl ?_
  simp(maxSteps:=9^7) (disch:=first|exact dI|fail) only[hs,hwI,heI,push_cast,seval]
 have heI:¬ (0:Int)<(e.length:Int):=by omega
 by_cases hf:f.length=0
 case neg=>
  have hfI:(0:Int)<(f.length:Int):=by omega
  rw[show am true false false false false (.mk 5 m M s w e f)=true by simp[am,hf,hs,hw,he]]
  simp(maxSteps:=9^7) (disch:=first|exact dI|fail) only[bQ,Typ.pv_mk,hs,hwI,heI,hfI,push_cast,seval]
  refine ab.pure hi rfl ?_
  simp(maxSteps:=9^7) (disch:=first|exact dI|fail) only[hs,hwI,heI,hfI,push_cast,seval]
 have hfI:¬ (0:Int)<(f.length:Int):=by omega
 rw[show am true false false false false (.mk 5 m M s w e f)=false by simp[am,hs,hw,he,hf]]
 simp(maxSteps:=9^7) (disch:=first|exact dI|fail) only[bQ,Typ.pv_mk,hs,hwI,heI,hfI,push_cast,seval]
 refine ab.pure hi rfl ?_
 simp(maxSteps:=9^7) (disch:=first|exact dI|fail) only[hs,hwI,heI,hfI,push_cast,seval]
set_option maxHeartbeats 2000000 in
theorem nE:ak Tryz.prog aD 196 [(Typ.mk 6 m M s w e f).pv] (.bool (aV 6 (.mk 6 m M s w e f))):=by
 have hi:=aW 6 2 8
 rw[show inB 6 2 8=true from rfl] at hi
 rw[show aV 6 (.mk 6 m M s w e f)=am true false false false false (.mk 6 m M s w e f) from rfl]
 refine ak.intro dr (by simp[bQ]) ?_
 by_cases hs:s=0
 case neg=>
  rw[show am true false false false false (.mk 6 m M s w e f)=true by simp[am,hs]]
  simp(maxSteps:=9^7) (disch:=first|exact dI|fail) only[bQ,Typ.pv_mk,hs,push_cast,seval]
  refine ab.pure hi rfl ?_
  simp(maxSteps:=9^7) (disch:=first|exact dI|fail) only[hs,push_cast,seval]
 by_cases hw:w.length=0
 case neg=>
  have hwI:(0:Int)<(w.length:Int):=by omega
  rw[show am true false false false false (.mk 6 m M s w e f)=true by simp[am,hw,hs]]
  simp(maxSteps:=9^7) (disch:=first|exact dI|fail) only[bQ,Typ.pv_mk,hs,hwI,push_cast,seval]
  refine ab.pure hi rfl ?_
  simp(maxSteps:=9^7) (disch:=first|exact dI|fail) only[hs,hwI,push_cast,seval]
 have hwI:¬ (0:Int)<(w.length:Int):=by omega
 by_cases he:e.length=0
 case neg=>
  have heI:(0:Int)<(e.length:Int):=by omega
  rw[show am true false false false false (.mk 6 m M s w e f)=true by simp[am,he,hs,hw]]
  simp(maxSteps:=9^7) (disch:=first|exact dI|fail) only[bQ,Typ.pv_mk,hs,hwI,heI,push_cast,seval]
  refine ab.pure hi rfl ?_
  simp(maxSteps:=9^7) (disch:=first|exact dI|fail) only[hs,hwI,heI,push_cast,seval]
 have heI:¬ (0:Int)<(e.length:Int):=by omega
 by_cases hf:f.length=0
 case neg=>
  have hfI:(0:Int)<(f.length:Int):=by omega
  rw[show am true false false false false (.mk 6 m M s w e f)=true by simp[am,hf,hs,hw,he]]
  simp(maxSteps:=9^7) (disch:=first|exact dI|fail) only[bQ,Typ.pv_mk,hs,hwI,heI,hfI,push_cast,seval]
  refine ab.pure hi rfl ?_
  simp(maxSteps:=9^7) (disch:=first|exact dI|fail) only[hs,hwI,heI,hfI,push_cast,seval]
 have hfI:¬ (0:Int)<(f.length:Int):=by omega
 rw[show am true false false false false (.mk 6 m M s w e f)=false by simp[am,hs,hw,he,hf]]
 simp(maxSteps:=9^7) (disch:=first|exact dI|fail) only[bQ,Typ.pv_mk,hs,hwI,heI,hfI,push_cast,seval]
 refine ab.pure hi rfl ?_
 simp(maxSteps:=9^7) (disch:=first|exact dI|fail) only[hs,hwI,heI,hfI,push_cast,seval]
set_option maxHeartbeats 2000000 in
theorem nD:ak Tryz.prog aD 196 [(Typ.mk 7 m M s w e f).pv] (.bool (aV 7 (.mk 7 m M s w e f))):=by
 have hi:=aW 7 2 8
 rw[show inB 7 2 8=true from rfl] at hi
 rw[show aV 7 (.mk 7 m M s w e f)=am true false false false false (.mk 7 m M s w e f) from rfl]
 refine ak.intro dr (by simp[bQ]) ?_
 by_cases hs:s=0
 case neg=>
  rw[show am true false false false false (.mk 7 m M s w e f)=true by simp[am,hs]]
  simp(maxSteps:=9^7) (disch:=first|exact dI|fail) only[bQ,Typ.pv_mk,hs,push_cast,seval]
  refine ab.pure hi rfl ?_
  simp(maxSteps:=9^7) (disch:=first|exact dI|fail) only[hs,push_cast,seval]
 by_cases hw:w.length=0
 case neg=>
  have hwI:(0:Int)<(w.length:Int):=by omega
  rw[show am true false false false false (.mk 7 m M s w e f)=true by simp[am,hw,hs]]
  simp(maxSteps:=9^7) (disch:=first|exact dI|fail) only[bQ,Typ.pv_mk,hs,hwI,push_cast,seval]
  refine ab.pure hi rfl ?_
  simp(maxSteps:=9^7) (disch:=first|exact dI|fail) only[hs,hwI,push_cast,seval]
 have hwI:¬ (0:Int)<(w.length:Int):=by omega
 by_cases he:e.length=0
 case neg=>
  have heI:(0:Int)<(e.length:Int):=by omega
  rw[show am true false false false false (.mk 7 m M s w e f)=true by simp[am,he,hs,hw]]
  simp(maxSteps:=9^7) (disch:=first|exact dI|fail) only[bQ,Typ.pv_mk,hs,hwI,heI,push_cast,seval]
  refine ab.pure hi rfl ?_
  simp(maxSteps:=9^7) (disch:=first|exact dI|fail) only[hs,hwI,heI,push_cast,seval]
 have heI:¬ (0:Int)<(e.length:Int):=by omega
 by_cases hf:f.length=0
 case neg=>
  have hfI:(0:Int)<(f.length:Int):=by omega
  rw[show am true false false false false (.mk 7 m M s w e f)=true by simp[am,hf,hs,hw,he]]
  simp(maxSteps:=9^7) (disch:=first|exact dI|fail) only[bQ,Typ.pv_mk,hs,hwI,heI,hfI,push_cast,seval]
  refine ab.pure hi rfl ?_
  simp(maxSteps:=9^7) (disch:=first|exact dI|fail) only[hs,hwI,heI,hfI,push_cast,seval]
 have hfI:¬ (0:Int)<(f.length:Int):=by omega
 rw[show am true false false false false (.mk 7 m M s w e f)=false by simp[am,hs,hw,he,hf]]
 simp(maxSteps:=9^7) (disch:=first|exact dI|fail) only[bQ,Typ.pv_mk,hs,hwI,heI,hfI,push_cast,seval]
 refine ab.pure hi rfl ?_
 simp(maxSteps:=9^7) (disch:=first|exact dI|fail) only[hs,hwI,heI,hfI,push_cast,seval]
set_option maxHeartbeats 2000000 in
theorem nC:ak Tryz.prog aD 196 [(Typ.mk 8 m M s w e f).pv] (.bool (aV 8 (.mk 8 m M s w e f))):=by
 have hi:=aW 8 2 8
 rw[show inB 8 2 8=true from rfl] at hi
 rw[show aV 8 (.mk 8 m M s w e f)=am true false false true false (.mk 8 m M s w e f) from rfl]
 refine ak.intro dr (by simp[bQ]) ?_
 by_cases hs:s=0
 case neg=>
  rw[show am true false false true false (.mk 8 m M s w e f)=true by simp[am,hs]]
  simp(maxSteps:=9^7) (disch:=first|exact dI|fail) only[bQ,Typ.pv_mk,hs,push_cast,seval]
  refine ab.pure hi rfl ?_
  simp(maxSteps:=9^7) (disch:=first|exact dI|fail) only[hs,push_cast,seval]
 by_cases hw:w.length=0
 case neg=>
  have hwI:(0:Int)<(w.length:Int):=by omega
  rw[show am true false false true false (.mk 8 m M s w e f)=true by simp[am,hw,hs]]
  simp(maxSteps:=9^7) (disch:=first|exact dI|fail) only[bQ,Typ.pv_mk,hs,hwI,push_cast,seval]
  refine ab.pure hi rfl ?_
  simp(maxSteps:=9^7) (disch:=first|exact dI|fail) only[hs,hwI,push_cast,seval]
 have hwI:¬ (0:Int)<(w.length:Int):=by omega
 by_cases hf:f.length=0
 case neg=>
  have hfI:(0:Int)<(f.length:Int):=by omega
  rw[show am true false false true false (.mk 8 m M s w e f)=true by simp[am,hf,hs,hw]]
  simp(maxSteps:=9^7) (disch:=first|exact dI|fail) only[bQ,Typ.pv_mk,hs,hwI,hfI,push_cast,seval]
  refine ab.pure hi rfl ?_
  simp(maxSteps:=9^7) (disch:=first|exact dI|fail) only[hs,hwI,hfI,push_cast,seval]
 have hfI:¬ (0:Int)<(f.length:Int):=by omega
 rw[show am true false false true false (.mk 8 m M s w e f)=false by simp[am,hs,hw,hf]]
 simp(maxSteps:=9^7) (disch:=first|exact dI|fail) only[bQ,Typ.pv_mk,hs,hwI,hfI,push_cast,seval]
 refine ab.pure hi rfl ?_
 simp(maxSteps:=9^7) (disch:=first|exact dI|fail) only[hs,hwI,hfI,push_cast,seval]
set_option maxHeartbeats 2000000 in
theorem nB:ak Tryz.prog aD 196 [(Typ.mk 9 m M s w e f).pv] (.bool (aV 9 (.mk 9 m M s w e f))):=by
 have hi:=aW 9 2 8
 rw[show inB 9 2 8=false from rfl] at hi
 rw[show aV 9 (.mk 9 m M s w e f)=am false false false false true (.mk 9 m M s w e f) from rfl]
 refine ak.intro dr (by simp[bQ]) ?_
 by_cases hm:m=0
 case neg=>
  rw[show am false false false false true (.mk 9 m M s w e f)=true by simp[am,hm]]
  simp(maxSteps:=9^7) (disch:=first|exact dI|fail) only[bQ,Typ.pv_mk,hm,push_cast,seval]
  refine ab.pure hi rfl ?_
  simp(maxSteps:=9^7) (disch:=first|exact dI|fail) only[hm,push_cast,seval]
 by_cases hM:M=0
 case neg=>
  rw[show am false false false false true (.mk 9 m M s w e f)=true by simp[am,hM,hm]]
  simp(maxSteps:=9^7) (disch:=first|exact dI|fail) only[bQ,Typ.pv_mk,hm,hM,push_cast,seval]
  refine ab.pure hi rfl ?_
  simp(maxSteps:=9^7) (disch:=first|exact dI|fail) only[hm,hM,push_cast,seval]
 by_cases hs:s=0
 case neg=>
  rw[show am false false false false true (.mk 9 m M s w e f)=true by simp[am,hs,hm,hM]]
  simp(maxSteps:=9^7) (disch:=first|exact dI|fail) only[bQ,Typ.pv_mk,hm,hM,hs,push_cast,seval]
  refine ab.pure hi rfl ?_
  simp(maxSteps:=9^7) (disch:=first|exact dI|fail) only[hm,hM,hs,push_cast,seval]
 by_cases hw:w.length=0
 case neg=>
  have hwI:(0:Int)<(w.length:Int):=by omega
  rw[show am false false false false true (.mk 9 m M s w e f)=true by simp[am,hw,hm,hM,hs]]
  simp(maxSteps:=9^7) (disch:=first|exact dI|fail) only[bQ,Typ.pv_mk,hm,hM,hs,hwI,push_cast,seval]
  refine ab.pure hi rfl ?_
  simp(maxSteps:=9^7) (disch:=first|exact dI|fail) only[hm,hM,hs,hwI,push_cast,seval]
 have hwI:¬ (0:Int)<(w.length:Int):=by omega
 by_cases he:e.length=0
 case neg=>
  have heI:(0:Int)<(e.length:Int):=by omega
  rw[show am false false false false true (.mk 9 m M s w e f)=true by simp[am,he,hm,hM,hs,hw]]
  simp(maxSteps:=9^7) (disch:=first|exact dI|fail) only[bQ,Typ.pv_mk,hm,hM,hs,hwI,heI,push_cast,seval]
  refine ab.pure hi rfl ?_
  simp(maxSteps:=9^7) (disch:=first|exact dI|fail) only[hm,hM,hs,hwI,heI,push_cast,seval]
 have heI:¬ (0:Int)<(e.length:Int):=by omega
 rw[show am false false false false true (.mk 9 m M s w e f)=false by simp[am,hm,hM,hs,hw,he]]
 simp(maxSteps:=9^7) (disch:=first|exact dI|fail) only[bQ,Typ.pv_mk,hm,hM,hs,hwI,heI,push_cast,seval]
 refine ab.pure hi rfl ?_
 simp(maxSteps:=9^7) (disch:=first|exact dI|fail) only[hm,hM,hs,hwI,heI,push_cast,seval]
set_option maxHeartbeats 2000000 in
theorem lj:ak Tryz.prog aD 196 [(Typ.mk 10 m M s w e f).pv] (.bool (aV 10 (.mk 10 m M s w e f))):=by
 have hi:=aW 10 2 8
 rw[show inB 10 2 8=false from rfl] at hi
 rw[show aV 10 (.mk 10 m M s w e f)=am false false false false true (.mk 10 m M s w e f) from rfl]
 refine ak.intro dr (by simp[bQ]) ?_
 by_cases hm:m=0
 case neg=>
  rw[show am false false false false true (.mk 10 m M s w e f)=true by simp[am,hm]]
  simp(maxSteps:=9^7) (disch:=first|exact dI|fail) only[bQ,Typ.pv_mk,hm,push_cast,seval]
  refine ab.pure hi rfl ?_
  simp(maxSteps:=9^7) (disch:=first|exact dI|fail) only[hm,push_cast,seval]
 by_cases hM:M=0
 case neg=>
  rw[show am false false false false true (.mk 10 m M s w e f)=true by simp[am,hM,hm]]
  simp(maxSteps:=9^7) (disch:=first|exact dI|fail) only[bQ,Typ.pv_mk,hm,hM,push_cast,seval]
  refine ab.pure hi rfl ?_
  simp(maxSteps:=9^7) (disch:=first|exact dI|fail) only[hm,hM,push_cast,seval]
 by_cases hs:s=0
 case neg=>
  rw[show am false false false false true (.mk 10 m M s w e f)=true by simp[am,hs,hm,hM]]
  simp(maxSteps:=9^7) (disch:=first|exact dI|fail) only[bQ,Typ.pv_mk,hm,hM,hs,push_cast,seval]
  refine ab.pure hi rfl ?_
  simp(maxSteps:=9^7) (disch:=first|exact dI|fail) only[hm,hM,hs,push_cast,seval]
 by_cases hw:w.length=0
 case neg=>
  have hwI:(0:Int)<(w.length:Int):=by omega
  rw[show am false false false false true (.mk 10 m M s w e f)=true by simp[am,hw,hm,hM,hs]]
  simp(maxSteps:=9^7) (disch:=first|exact dI|fail) only[bQ,Typ.pv_mk,hm,hM,hs,hwI,push_cast,seval]
  refine ab.pure hi rfl ?_
  simp(maxSteps:=9^7) (disch:=first|exact dI|fail) only[hm,hM,hs,hwI,push_cast,seval]
 have hwI:¬ (0:Int)<(w.length:Int):=by omega
 by_cases he:e.length=0
 case neg=>
  have heI:(0:Int)<(e.length:Int):=by omega
  rw[show am false false false false true (.mk 10 m M s w e f)=true by simp[am,he,hm,hM,hs,hw]]
  simp(maxSteps:=9^7) (disch:=first|exact dI|fail) only[bQ,Typ.pv_mk,hm,hM,hs,hwI,heI,push_cast,seval]
  refine ab.pure hi rfl ?_
  simp(maxSteps:=9^7) (disch:=first|exact dI|fail) only[hm,hM,hs,hwI,heI,push_cast,seval]
 have heI:¬ (0:Int)<(e.length:Int):=by omega
 rw[show am false false false false true (.mk 10 m M s w e f)=false by simp[am,hm,hM,hs,hw,he]]
 simp(maxSteps:=9^7) (disch:=first|exact dI|fail) only[bQ,Typ.pv_mk,hm,hM,hs,hwI,heI,push_cast,seval]
 refine ab.pure hi rfl ?_
 simp(maxSteps:=9^7) (disch:=first|exact dI|fail) only[hm,hM,hs,hwI,heI,push_cast,seval]
theorem bD (k:Int)(hk:1≤k∧k≤10):ak Tryz.prog aD 196 [(Typ.mk k m M s w e f).pv] (.bool (aV k (.mk k m M s w e f))):=by
 have hc:k=1∨k=2∨k=3∨k=4∨k=5∨k=6∨k=7∨k=8∨k=9∨k=10:=by omega
 clear hk
 rcases hc with rfl | rfl | rfl | rfl | rfl | rfl | rfl | rfl | rfl | rfl
 ·exact nJ m M s w e f
 ·exact nI m M s w e f
 ·exact nH m M s w e f
 ·exact nG m M s w e f
 ·exact nF m M s w e f
 ·exact nE m M s w e f
 ·exact nD m M s w e f
 ·exact nC m M s w e f
 ·exact nB m M s w e f
 ·exact lj m M s w e f
theorem cJ (k:Int)(hk:2≤k∧k≤8):ak Tryz.prog aD 198 [.int .i64 k] (.tup [.int .i64 (loK k),.int .i64 (hiK k)]):=by
 have hc:k=2∨k=3∨k=4∨k=5∨k=6∨k=7∨k=8:=by omega
 clear hk
 rcases hc with rfl | rfl | rfl | rfl | rfl | rfl | rfl
 all_goals
  refine ak.intro Ao (by simp[Mb]) ?_
  simp only[loK,hiK]
  simp(maxSteps:=9^7) (disch:=first|exact dI|fail) only[Mb,push_cast,seval]
theorem cR (k a b:Int):ak Tryz.prog aD 199 [(Typ.mk k m M s w e f).pv,.int .i64 a,.int .i64 b] (.bool (decide (¬ (M<m∨m<a∨b<M)))):=by
 refine ak.intro I2 (by simp[Jw]) ?_
 by_cases h1:a≤m
 ·by_cases h2:M≤b
  ·by_cases h3:m≤M
   ·rw[decide_eq_true (show ¬ (M<m∨m<a∨b<M) by omega)]
    simp(maxSteps:=9^7) (disch:=first|exact dI|fail) only[Jw,Typ.pv_mk,h1,h2,h3,push_cast,seval]
   ·rw[decide_eq_false (show ¬ ¬ (M<m∨m<a∨b<M) by omega)]
    simp(maxSteps:=9^7) (disch:=first|exact dI|fail) only[Jw,Typ.pv_mk,h1,h2,h3,push_cast,seval]
  ·rw[decide_eq_false (show ¬ ¬ (M<m∨m<a∨b<M) by omega)]
   simp(maxSteps:=9^7) (disch:=first|exact dI|fail) only[Jw,Typ.pv_mk,h1,h2,push_cast,seval]
 ·rw[decide_eq_false (show ¬ ¬ (M<m∨m<a∨b<M) by omega)]
  simp(maxSteps:=9^7) (disch:=first|exact dI|fail) only[Jw,Typ.pv_mk,h1,push_cast,seval]
theorem qv (k:Int)(name:List UInt8)(hl:f.length≤1000000000):ak Tryz.prog aD 252 [(Typ.mk k m M s w e f).pv,.str name] (.int .i64 (eR (named name) f 0)):=by
 refine ak.intro IO (by simp[NN]) ?_
 simp(maxSteps:=9^7) (disch:=first|exact dI|fail) only[NN,Typ.pv_mk,push_cast,seval]
 refine aB ([]) (fun i:Nat=>[(5,.pv (.int .i64 (i:Int)))]) (fun _=>[]) (fun i=>i≤f.length∧eR (named name) f 0=eR (named name) (f.drop i) i) (fun i=>f.length - i) (0) ?_;intro e0 σ0 n0 h0;simp(maxSteps:=9^7) (disch:=first|exact dI|fail) only[push_cast,seval] at h0;obtain⟨rfl,rfl,rfl⟩:=h0;refine⟨?_,?_,?_⟩
 ·simp(maxSteps:=9^7) (disch:=first|exact dI|fail) only[push_cast,seval]
 ·exact⟨by omega,by simp⟩
 rintro i ⟨hi,he⟩
 by_cases hlt:i<f.length
 ·have hltI:(i:Int)<(f.length:Int):=by omega
  obtain⟨x,hx⟩:∃ x,f[i]? = some x:=⟨_,List.getElem?_eq_getElem hlt⟩
  have hhit:=fun h=>fa (p:=named name) hx h
  have hmiss:=fun h=>dO (p:=named name) hx h
  obtain⟨x1,x2,x3,⟨y1,y2,y3,y4,y5,y6,y7⟩,x5⟩:=x
  simp only[named,TFd.name] at hhit hmiss
  by_cases hn:x2=name
  ·rw[he,hhit (decide_eq_true hn)]
   simp(maxSteps:=9^7) (disch:=first|exact dI|fail) only[hx,Option.map_some,hn,TFd.pv_mk,Typ.pv_mk,ae,push_cast,seval]
  ·simp(maxSteps:=9^7) (disch:=first|exact dI|fail) only[hx,Option.map_some,hn,TFd.pv_mk,Typ.pv_mk,ae,push_cast,seval]
   exact⟨i+1,bg (by simp(maxSteps:=9^7) (disch:=first|exact dI|fail) only[push_cast,seval]),⟨by omega,by rw[he];exact hmiss (decide_eq_false hn)⟩,by omega⟩
 ·obtain rfl:i=f.length:=by omega
  rw[he,fb (by omega)]
  simp(maxSteps:=9^7) (disch:=first|exact dI|fail) only[Int.lt_irrefl,push_cast,seval]
end
end Go.Proofs.YtbaaokocnegdoaaGreatDoor
