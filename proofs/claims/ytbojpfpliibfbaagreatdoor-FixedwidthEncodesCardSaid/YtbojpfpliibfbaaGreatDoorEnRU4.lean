/- A part of the proof. -/
import Derived.Test.YtbojpfpliibfbaaGreatDoorEnRU2
set_option maxHeartbeats 16000000
set_option maxRecDepth 100000
set_option linter.unusedVariables false
set_option linter.unusedSimpArgs false
-- many steps
namespace Go.Proofs.YtbojpfpliibfbaaGreatDoor
open Go Go.Ab
attribute [local irreducible] vc
section
variable (m M s:Int)(w:List (List UInt8))(e:List Typ)(f:List TFd)
theorem px:am Tryz.prog az 183 [(Typ.mk 1 m M s w e f).pv] (.bool (aY 1 (.mk 1 m M s w e f))):=by
 have hi:=bf 1 2 8
 rw[show inB 1 2 8=false from rfl] at hi
 rw[show aY 1 (.mk 1 m M s w e f)=aw false false false false false (.mk 1 m M s w e f) from rfl]
 refine am.intro bL.2 (by simp[bL]) ?_
 by_cases hm:m=0
 case neg=>
  rw[show aw false false false false false (.mk 1 m M s w e f)=true by simp[aw,hm]]
  simp(disch:=try exact dI) only[bL,Typ.pv_mk,hm,push_cast,seval]
  refine ab.pure hi rfl ?_
  simp(disch:=try exact dI) only[hm,push_cast,seval]
 by_cases hM:M=0
 case neg=>
  rw[show aw false false false false false (.mk 1 m M s w e f)=true by simp[aw,hM,hm]]
  simp(disch:=try exact dI) only[bL,Typ.pv_mk,hm,hM,push_cast,seval]
  refine ab.pure hi rfl ?_
  simp(disch:=try exact dI) only[hm,hM,push_cast,seval]
 by_cases hs:s=0
 case neg=>
  rw[show aw false false false false false (.mk 1 m M s w e f)=true by simp[aw,hs,hm,hM]]
  simp(disch:=try exact dI) only[bL,Typ.pv_mk,hm,hM,hs,push_cast,seval]
  refine ab.pure hi rfl ?_
  simp(disch:=try exact dI) only[hm,hM,hs,push_cast,seval]
 by_cases hw:w.length=0
 case neg=>
  have hwI:(0:Int)<(w.length:Int):=by omega
  rw[show aw false false false false false (.mk 1 m M s w e f)=true by simp[aw,hw,hm,hM,hs]]
  simp(disch:=try exact dI) only[bL,Typ.pv_mk,hm,hM,hs,hwI,push_cast,seval]
  refine ab.pure hi rfl ?_
  simp(disch:=try exact dI) only[hm,hM,hs,hwI,push_cast,seval]
 have hwI:¬ (0:Int)<(w.length:Int):=by omega
 by_cases he:e.length=0
 case neg=>
  have heI:(0:Int)<(e.length:Int):=by omega
  rw[show aw false false false false false (.mk 1 m M s w e f)=true by simp[aw,he,hm,hM,hs,hw]]
  simp(disch:=try exact dI) only[bL,Typ.pv_mk,hm,hM,hs,hwI,heI,push_cast,seval]
  refine ab.pure hi rfl ?_
  simp(disch:=try exact dI) only[hm,hM,hs,hwI,heI,push_cast,seval]
 have heI:¬ (0:Int)<(e.length:Int):=by omega
 by_cases hf:f.length=0
 case neg=>
  have hfI:(0:Int)<(f.length:Int):=by omega
  rw[show aw false false false false false (.mk 1 m M s w e f)=true by simp[aw,hf,hm,hM,hs,hw,he]]
  simp(disch:=try exact dI) only[bL,Typ.pv_mk,hm,hM,hs,hwI,heI,hfI,push_cast,seval]
  refine ab.pure hi rfl ?_
  simp(disch:=try exact dI) only[hm,hM,hs,hwI,heI,hfI,push_cast,seval]
 have hfI:¬ (0:Int)<(f.length:Int):=by omega
 rw[show aw false false false false false (.mk 1 m M s w e f)=false by simp[aw,hm,hM,hs,hw,he,hf]]
 simp(disch:=try exact dI) only[bL,Typ.pv_mk,hm,hM,hs,hwI,heI,hfI,push_cast,seval]
 refine ab.pure hi rfl ?_
 simp(disch:=try exact dI) only[hm,hM,hs,hwI,heI,hfI,push_cast,seval]
theorem pw:am Tryz.prog az 183 [(Typ.mk 2 m M s w e f).pv] (.bool (aY 2 (.mk 2 m M s w e f))):=by
 have hi:=bf 2 2 8
 rw[show inB 2 2 8=true from rfl] at hi
 rw[show aY 2 (.mk 2 m M s w e f)=aw true false false false false (.mk 2 m M s w e f) from rfl]
 refine am.intro bL.2 (by simp[bL]) ?_
 by_cases hs:s=0
 case neg=>
  rw[show aw true false false false false (.mk 2 m M s w e f)=true by simp[aw,hs]]
  simp(disch:=try exact dI) only[bL,Typ.pv_mk,hs,push_cast,seval]
  refine ab.pure hi rfl ?_
  simp(disch:=try exact dI) only[hs,push_cast,seval]
 by_cases hw:w.length=0
 case neg=>
  have hwI:(0:Int)<(w.length:Int):=by omega
  rw[show aw true false false false false (.mk 2 m M s w e f)=true by simp[aw,hw,hs]]
  simp(disch:=try exact dI) only[bL,Typ.pv_mk,hs,hwI,push_cast,seval]
  refine ab.pure hi rfl ?_
  simp(disch:=try exact dI) only[hs,hwI,push_cast,seval]
 have hwI:¬ (0:Int)<(w.length:Int):=by omega
 by_cases he:e.length=0
 case neg=>
  have heI:(0:Int)<(e.length:Int):=by omega
  rw[show aw true false false false false (.mk 2 m M s w e f)=true by simp[aw,he,hs,hw]]
  simp(disch:=try exact dI) only[bL,Typ.pv_mk,hs,hwI,heI,push_cast,seval]
  refine ab.pure hi rfl ?_
  simp(disch:=try exact dI) only[hs,hwI,heI,push_cast,seval]
 have heI:¬ (0:Int)<(e.length:Int):=by omega
 by_cases hf:f.length=0
 case neg=>
  have hfI:(0:Int)<(f.length:Int):=by omega
  rw[show aw true false false false false (.mk 2 m M s w e f)=true by simp[aw,hf,hs,hw,he]]
  simp(disch:=try exact dI) only[bL,Typ.pv_mk,hs,hwI,heI,hfI,push_cast,seval]
  refine ab.pure hi rfl ?_
  simp(disch:=try exact dI) only[hs,hwI,heI,hfI,push_cast,seval]
 have hfI:¬ (0:Int)<(f.length:Int):=by omega
 rw[show aw true false false false false (.mk 2 m M s w e f)=false by simp[aw,hs,hw,he,hf]]
 simp(disch:=try exact dI) only[bL,Typ.pv_mk,hs,hwI,heI,hfI,push_cast,seval]
 refine ab.pure hi rfl ?_
 simp(disch:=try exact dI) only[hs,hwI,heI,hfI,push_cast,seval]
theorem pu:am Tryz.prog az 183 [(Typ.mk 3 m M s w e f).pv] (.bool (aY 3 (.mk 3 m M s w e f))):=by
 have hi:=bf 3 2 8
 rw[show inB 3 2 8=true from rfl] at hi
 rw[show aY 3 (.mk 3 m M s w e f)=aw true true false false false (.mk 3 m M s w e f) from rfl]
 refine am.intro bL.2 (by simp[bL]) ?_
 by_cases hw:w.length=0
 case neg=>
  have hwI:(0:Int)<(w.length:Int):=by omega
  rw[show aw true true false false false (.mk 3 m M s w e f)=true by simp[aw,hw]]
  simp(disch:=try exact dI) only[bL,Typ.pv_mk,hwI,push_cast,seval]
  refine ab.pure hi rfl ?_
  simp(disch:=try exact dI) only[hwI,push_cast,seval]
 have hwI:¬ (0:Int)<(w.length:Int):=by omega
 by_cases he:e.length=0
 case neg=>
  have heI:(0:Int)<(e.length:Int):=by omega
  rw[show aw true true false false false (.mk 3 m M s w e f)=true by simp[aw,he,hw]]
  simp(disch:=try exact dI) only[bL,Typ.pv_mk,hwI,heI,push_cast,seval]
  refine ab.pure hi rfl ?_
  simp(disch:=try exact dI) only[hwI,heI,push_cast,seval]
 have heI:¬ (0:Int)<(e.length:Int):=by omega
 by_cases hf:f.length=0
 case neg=>
  have hfI:(0:Int)<(f.length:Int):=by omega
  rw[show aw true true false false false (.mk 3 m M s w e f)=true by simp[aw,hf,hw,he]]
  simp(disch:=try exact dI) only[bL,Typ.pv_mk,hwI,heI,hfI,push_cast,seval]
  refine ab.pure hi rfl ?_
  simp(disch:=try exact dI) only[hwI,heI,hfI,push_cast,seval]
 have hfI:¬ (0:Int)<(f.length:Int):=by omega
 rw[show aw true true false false false (.mk 3 m M s w e f)=false by simp[aw,hw,he,hf]]
 simp(disch:=try exact dI) only[bL,Typ.pv_mk,hwI,heI,hfI,push_cast,seval]
 refine ab.pure hi rfl ?_
 simp(disch:=try exact dI) only[hwI,heI,hfI,push_cast,seval]
theorem pr:am Tryz.prog az 183 [(Typ.mk 4 m M s w e f).pv] (.bool (aY 4 (.mk 4 m M s w e f))):=by
 have hi:=bf 4 2 8
 rw[show inB 4 2 8=true from rfl] at hi
 rw[show aY 4 (.mk 4 m M s w e f)=aw true false true false false (.mk 4 m M s w e f) from rfl]
 refine am.intro bL.2 (by simp[bL]) ?_
 by_cases hs:s=0
 case neg=>
  rw[show aw true false true false false (.mk 4 m M s w e f)=true by simp[aw,hs]]
  simp(disch:=try exact dI) only[bL,Typ.pv_mk,hs,push_cast,seval]
  refine ab.pure hi rfl ?_
  simp(disch:=try exact dI) only[hs,push_cast,seval]
 by_cases he:e.length=0
 case neg=>
  have heI:(0:Int)<(e.length:Int):=by omega
  rw[show aw true false true false false (.mk 4 m M s w e f)=true by simp[aw,he,hs]]
  simp(disch:=try exact dI) only[bL,Typ.pv_mk,hs,heI,push_cast,seval]
  refine ab.pure hi rfl ?_
  simp(disch:=try exact dI) only[hs,heI,push_cast,seval]
 have heI:¬ (0:Int)<(e.length:Int):=by omega
 by_cases hf:f.length=0
 case neg=>
  have hfI:(0:Int)<(f.length:Int):=by omega
  rw[show aw true false true false false (.mk 4 m M s w e f)=true by simp[aw,hf,hs,he]]
  simp(disch:=try exact dI) only[bL,Typ.pv_mk,hs,heI,hfI,push_cast,seval]
  refine ab.pure hi rfl ?_
  simp(disch:=try exact dI) only[hs,heI,hfI,push_cast,seval]
 have hfI:¬ (0:Int)<(f.length:Int):=by omega
 rw[show aw true false true false false (.mk 4 m M s w e f)=false by simp[aw,hs,he,hf]]
 simp(disch:=try exact dI) only[bL,Typ.pv_mk,hs,heI,hfI,push_cast,seval]
 refine ab.pure hi rfl ?_
 simp(disch:=try exact dI) only[hs,heI,hfI,push_cast,seval]
theorem pq:am Tryz.prog az 183 [(Typ.mk 5 m M s w e f).pv] (.bool (aY 5 (.mk 5 m M s w e f))):=by
 have hi:=bf 5 2 8
 rw[show inB 5 2 8=true from rfl] at hi
 rw[show aY 5 (.mk 5 m M s w e f)=aw true false false false false (.mk 5 m M s w e f) from rfl]
 refine am.intro bL.2 (by simp[bL]) ?_
 by_cases hs:s=0
 case neg=>
  rw[show aw true false false false false (.mk 5 m M s w e f)=true by simp[aw,hs]]
  simp(disch:=try exact dI) only[bL,Typ.pv_mk,hs,push_cast,seval]
  refine ab.pure hi rfl ?_
  simp(disch:=try exact dI) only[hs,push_cast,seval]
 by_cases hw:w.length=0
 case neg=>
  have hwI:(0:Int)<(w.length:Int):=by omega
  rw[show aw true false false false false (.mk 5 m M s w e f)=true by simp[aw,hw,hs]]
  simp(disch:=try exact dI) only[bL,Typ.pv_mk,hs,hwI,push_cast,seval]
  refine ab.pure hi rfl ?_
  simp(disch:=try exact dI) only[hs,hwI,push_cast,seval]
 have hwI:¬ (0:Int)<(w.length:Int):=by omega
 by_cases he:e.length=0
 case neg=>
  have heI:(0:Int)<(e.length:Int):=by omega
  rw[show aw true false false false false (.mk 5 m M s w e f)=true by simp[aw,he,hs,hw]]
  simp(disch:=try exact dI) only[bL,Typ.pv_mk,hs,hwI,heI,push_cast,seval]
  refine ab.pure hi rfl ?_
  simp(disch:=try exact dI) only[hs,hwI,heI,push_cast,seval]
 have heI:¬ (0:Int)<(e.length:Int):=by omega
 by_cases hf:f.length=0
 case neg=>
  have hfI:(0:Int)<(f.length:Int):=by omega
  rw[show aw true false false false false (.mk 5 m M s w e f)=true by simp[aw,hf,hs,hw,he]]
  simp(disch:=try exact dI) only[bL,Typ.pv_mk,hs,hwI,heI,hfI,push_cast,seval]
  refine ab.pure hi rfl ?_
  simp(disch:=try exact dI) only[hs,hwI,heI,hfI,push_cast,seval]
 have hfI:¬ (0:Int)<(f.length:Int):=by omega
 rw[show aw true false false false false (.mk 5 m M s w e f)=false by simp[aw,hs,hw,he,hf]]
 simp(disch:=try exact dI) only[bL,Typ.pv_mk,hs,hwI,heI,hfI,push_cast,seval]
 refine ab.pure hi rfl ?_
 simp(disch:=try exact dI) only[hs,hwI,heI,hfI,push_cast,seval]
theorem pp:am Tryz.prog az 183 [(Typ.mk 6 m M s w e f).pv] (.bool (aY 6 (.mk 6 m M s w e f))):=by
 have hi:=bf 6 2 8
 rw[show inB 6 2 8=true from rfl] at hi
 rw[show aY 6 (.mk 6 m M s w e f)=aw true false false false false (.mk 6 m M s w e f) from rfl]
 refine am.intro bL.2 (by simp[bL]) ?_
 by_cases hs:s=0
 case neg=>
  rw[show aw true false false false false (.mk 6 m M s w e f)=true by simp[aw,hs]]
  simp(disch:=try exact dI) only[bL,Typ.pv_mk,hs,push_cast,seval]
  refine ab.pure hi rfl ?_
  simp(disch:=try exact dI) only[hs,push_cast,seval]
 by_cases hw:w.length=0
 case neg=>
  have hwI:(0:Int)<(w.length:Int):=by omega
  rw[show aw true false false false false (.mk 6 m M s w e f)=true by simp[aw,hw,hs]]
  simp(disch:=try exact dI) only[bL,Typ.pv_mk,hs,hwI,push_cast,seval]
  refine ab.pure hi rfl ?_
  simp(disch:=try exact dI) only[hs,hwI,push_cast,seval]
 have hwI:¬ (0:Int)<(w.length:Int):=by omega
 by_cases he:e.length=0
 case neg=>
  have heI:(0:Int)<(e.length:Int):=by omega
  rw[show aw true false false false false (.mk 6 m M s w e f)=true by simp[aw,he,hs,hw]]
  simp(disch:=try exact dI) only[bL,Typ.pv_mk,hs,hwI,heI,push_cast,seval]
  refine ab.pure hi rfl ?_
  simp(disch:=try exact dI) only[hs,hwI,heI,push_cast,seval]
 have heI:¬ (0:Int)<(e.length:Int):=by omega
 by_cases hf:f.length=0
 case neg=>
  have hfI:(0:Int)<(f.length:Int):=by omega
  rw[show aw true false false false false (.mk 6 m M s w e f)=true by simp[aw,hf,hs,hw,he]]
  simp(disch:=try exact dI) only[bL,Typ.pv_mk,hs,hwI,heI,hfI,push_cast,seval]
  refine ab.pure hi rfl ?_
  simp(disch:=try exact dI) only[hs,hwI,heI,hfI,push_cast,seval]
 have hfI:¬ (0:Int)<(f.length:Int):=by omega
 rw[show aw true false false false false (.mk 6 m M s w e f)=false by simp[aw,hs,hw,he,hf]]
 simp(disch:=try exact dI) only[bL,Typ.pv_mk,hs,hwI,heI,hfI,push_cast,seval]
 refine ab.pure hi rfl ?_
 simp(disch:=try exact dI) only[hs,hwI,heI,hfI,push_cast,seval]
theorem po:am Tryz.prog az 183 [(Typ.mk 7 m M s w e f).pv] (.bool (aY 7 (.mk 7 m M s w e f))):=by
 have hi:=bf 7 2 8
 rw[show inB 7 2 8=true from rfl] at hi
 rw[show aY 7 (.mk 7 m M s w e f)=aw true false false false false (.mk 7 m M s w e f) from rfl]
 refine am.intro bL.2 (by simp[bL]) ?_
 by_cases hs:s=0
 case neg=>
  rw[show aw true false false false false (.mk 7 m M s w e f)=true by simp[aw,hs]]
  simp(disch:=try exact dI) only[bL,Typ.pv_mk,hs,push_cast,seval]
  refine ab.pure hi rfl ?_
  simp(disch:=try exact dI) only[hs,push_cast,seval]
 by_cases hw:w.length=0
 case neg=>
  have hwI:(0:Int)<(w.length:Int):=by omega
  rw[show aw true false false false false (.mk 7 m M s w e f)=true by simp[aw,hw,hs]]
  simp(disch:=try exact dI) only[bL,Typ.pv_mk,hs,hwI,push_cast,seval]
  refine ab.pure hi rfl ?_
  simp(disch:=try exact dI) only[hs,hwI,push_cast,seval]
 have hwI:¬ (0:Int)<(w.length:Int):=by omega
 by_cases he:e.length=0
 case neg=>
  have heI:(0:Int)<(e.length:Int):=by omega
  rw[show aw true false false false false (.mk 7 m M s w e f)=true by simp[aw,he,hs,hw]]
  simp(disch:=try exact dI) only[bL,Typ.pv_mk,hs,hwI,heI,push_cast,seval]
  refine ab.pure hi rfl ?_
  simp(disch:=try exact dI) only[hs,hwI,heI,push_cast,seval]
 have heI:¬ (0:Int)<(e.length:Int):=by omega
 by_cases hf:f.length=0
 case neg=>
  have hfI:(0:Int)<(f.length:Int):=by omega
  rw[show aw true false false false false (.mk 7 m M s w e f)=true by simp[aw,hf,hs,hw,he]]
  simp(disch:=try exact dI) only[bL,Typ.pv_mk,hs,hwI,heI,hfI,push_cast,seval]
  refine ab.pure hi rfl ?_
  simp(disch:=try exact dI) only[hs,hwI,heI,hfI,push_cast,seval]
 have hfI:¬ (0:Int)<(f.length:Int):=by omega
 rw[show aw true false false false false (.mk 7 m M s w e f)=false by simp[aw,hs,hw,he,hf]]
 simp(disch:=try exact dI) only[bL,Typ.pv_mk,hs,hwI,heI,hfI,push_cast,seval]
 refine ab.pure hi rfl ?_
 simp(disch:=try exact dI) only[hs,hwI,heI,hfI,push_cast,seval]
theorem pn:am Tryz.prog az 183 [(Typ.mk 8 m M s w e f).pv] (.bool (aY 8 (.mk 8 m M s w e f))):=by
 have hi:=bf 8 2 8
 rw[show inB 8 2 8=true from rfl] at hi
 rw[show aY 8 (.mk 8 m M s w e f)=aw true false false true false (.mk 8 m M s w e f) from rfl]
 refine am.intro bL.2 (by simp[bL]) ?_
 by_cases hs:s=0
 case neg=>
  rw[show aw true false false true false (.mk 8 m M s w e f)=true by simp[aw,hs]]
  simp(disch:=try exact dI) only[bL,Typ.pv_mk,hs,push_cast,seval]
  refine ab.pure hi rfl ?_
  simp(disch:=try exact dI) only[hs,push_cast,seval]
 by_cases hw:w.length=0
 case neg=>
  have hwI:(0:Int)<(w.length:Int):=by omega
  rw[show aw true false false true false (.mk 8 m M s w e f)=true by simp[aw,hw,hs]]
  simp(disch:=try exact dI) only[bL,Typ.pv_mk,hs,hwI,push_cast,seval]
  refine ab.pure hi rfl ?_
  simp(disch:=try exact dI) only[hs,hwI,push_cast,seval]
 have hwI:¬ (0:Int)<(w.length:Int):=by omega
 by_cases hf:f.length=0
 case neg=>
  have hfI:(0:Int)<(f.length:Int):=by omega
  rw[show aw true false false true false (.mk 8 m M s w e f)=true by simp[aw,hf,hs,hw]]
  simp(disch:=try exact dI) only[bL,Typ.pv_mk,hs,hwI,hfI,push_cast,seval]
  refine ab.pure hi rfl ?_
  simp(disch:=try exact dI) only[hs,hwI,hfI,push_cast,seval]
 have hfI:¬ (0:Int)<(f.length:Int):=by omega
 rw[show aw true false false true false (.mk 8 m M s w e f)=false by simp[aw,hs,hw,hf]]
 simp(disch:=try exact dI) only[bL,Typ.pv_mk,hs,hwI,hfI,push_cast,seval]
 refine ab.pure hi rfl ?_
 simp(disch:=try exact dI) only[hs,hwI,hfI,push_cast,seval]
theorem pm:am Tryz.prog az 183 [(Typ.mk 9 m M s w e f).pv] (.bool (aY 9 (.mk 9 m M s w e f))):=by
 have hi:=bf 9 2 8
 rw[show inB 9 2 8=false from rfl] at hi
 rw[show aY 9 (.mk 9 m M s w e f)=aw false false false false true (.mk 9 m M s w e f) from rfl]
 refine am.intro bL.2 (by simp[bL]) ?_
 by_cases hm:m=0
 case neg=>
  rw[show aw false false false false true (.mk 9 m M s w e f)=true by simp[aw,hm]]
  simp(disch:=try exact dI) only[bL,Typ.pv_mk,hm,push_cast,seval]
  refine ab.pure hi rfl ?_
  simp(disch:=try exact dI) only[hm,push_cast,seval]
 by_cases hM:M=0
 case neg=>
  rw[show aw false false false false true (.mk 9 m M s w e f)=true by simp[aw,hM,hm]]
  simp(disch:=try exact dI) only[bL,Typ.pv_mk,hm,hM,push_cast,seval]
  refine ab.pure hi rfl ?_
  simp(disch:=try exact dI) only[hm,hM,push_cast,seval]
 by_cases hs:s=0
 case neg=>
  rw[show aw false false false false true (.mk 9 m M s w e f)=true by simp[aw,hs,hm,hM]]
  simp(disch:=try exact dI) only[bL,Typ.pv_mk,hm,hM,hs,push_cast,seval]
  refine ab.pure hi rfl ?_
  simp(disch:=try exact dI) only[hm,hM,hs,push_cast,seval]
 by_cases hw:w.length=0
 case neg=>
  have hwI:(0:Int)<(w.length:Int):=by omega
  rw[show aw false false false false true (.mk 9 m M s w e f)=true by simp[aw,hw,hm,hM,hs]]
  simp(disch:=try exact dI) only[bL,Typ.pv_mk,hm,hM,hs,hwI,push_cast,seval]
  refine ab.pure hi rfl ?_
  simp(disch:=try exact dI) only[hm,hM,hs,hwI,push_cast,seval]
 have hwI:¬ (0:Int)<(w.length:Int):=by omega
 by_cases he:e.length=0
 case neg=>
  have heI:(0:Int)<(e.length:Int):=by omega
  rw[show aw false false false false true (.mk 9 m M s w e f)=true by simp[aw,he,hm,hM,hs,hw]]
  simp(disch:=try exact dI) only[bL,Typ.pv_mk,hm,hM,hs,hwI,heI,push_cast,seval]
  refine ab.pure hi rfl ?_
  simp(disch:=try exact dI) only[hm,hM,hs,hwI,heI,push_cast,seval]
 have heI:¬ (0:Int)<(e.length:Int):=by omega
 rw[show aw false false false false true (.mk 9 m M s w e f)=false by simp[aw,hm,hM,hs,hw,he]]
 simp(disch:=try exact dI) only[bL,Typ.pv_mk,hm,hM,hs,hwI,heI,push_cast,seval]
 refine ab.pure hi rfl ?_
 simp(disch:=try exact dI) only[hm,hM,hs,hwI,heI,push_cast,seval]
theorem ny:am Tryz.prog az 183 [(Typ.mk 10 m M s w e f).pv] (.bool (aY 10 (.mk 10 m M s w e f))):=by
 have hi:=bf 10 2 8
 rw[show inB 10 2 8=false from rfl] at hi
 rw[show aY 10 (.mk 10 m M s w e f)=aw false false false false true (.mk 10 m M s w e f) from rfl]
 refine am.intro bL.2 (by simp[bL]) ?_
 by_cases hm:m=0
 case neg=>
  rw[show aw false false false false true (.mk 10 m M s w e f)=true by simp[aw,hm]]
  simp(disch:=try exact dI) only[bL,Typ.pv_mk,hm,push_cast,seval]
  refine ab.pure hi rfl ?_
  simp(disch:=try exact dI) only[hm,push_cast,seval]
 by_cases hM:M=0
 case neg=>
  rw[show aw false false false false true (.mk 10 m M s w e f)=true by simp[aw,hM,hm]]
  simp(disch:=try exact dI) only[bL,Typ.pv_mk,hm,hM,push_cast,seval]
  refine ab.pure hi rfl ?_
  simp(disch:=try exact dI) only[hm,hM,push_cast,seval]
 by_cases hs:s=0
 case neg=>
  rw[show aw false false false false true (.mk 10 m M s w e f)=true by simp[aw,hs,hm,hM]]
  simp(disch:=try exact dI) only[bL,Typ.pv_mk,hm,hM,hs,push_cast,seval]
  refine ab.pure hi rfl ?_
  simp(disch:=try exact dI) only[hm,hM,hs,push_cast,seval]
 by_cases hw:w.length=0
 case neg=>
  have hwI:(0:Int)<(w.length:Int):=by omega
  rw[show aw false false false false true (.mk 10 m M s w e f)=true by simp[aw,hw,hm,hM,hs]]
  simp(disch:=try exact dI) only[bL,Typ.pv_mk,hm,hM,hs,hwI,push_cast,seval]
  refine ab.pure hi rfl ?_
  simp(disch:=try exact dI) only[hm,hM,hs,hwI,push_cast,seval]
 have hwI:¬ (0:Int)<(w.length:Int):=by omega
 by_cases he:e.length=0
 case neg=>
  have heI:(0:Int)<(e.length:Int):=by omega
  rw[show aw false false false false true (.mk 10 m M s w e f)=true by simp[aw,he,hm,hM,hs,hw]]
  simp(disch:=try exact dI) only[bL,Typ.pv_mk,hm,hM,hs,hwI,heI,push_cast,seval]
  refine ab.pure hi rfl ?_
  simp(disch:=try exact dI) only[hm,hM,hs,hwI,heI,push_cast,seval]
 have heI:¬ (0:Int)<(e.length:Int):=by omega
 rw[show aw false false false false true (.mk 10 m M s w e f)=false by simp[aw,hm,hM,hs,hw,he]]
 simp(disch:=try exact dI) only[bL,Typ.pv_mk,hm,hM,hs,hwI,heI,push_cast,seval]
 refine ab.pure hi rfl ?_
 simp(disch:=try exact dI) only[hm,hM,hs,hwI,heI,push_cast,seval]
theorem bW (k:Int)(hk:1<=k/\k<=10):am Tryz.prog az 183 [(Typ.mk k m M s w e f).pv] (.bool (aY k (.mk k m M s w e f))):=by
 have hc:k=1\/k=2\/k=3\/k=4\/k=5\/k=6\/k=7\/k=8\/k=9\/k=10:=by omega
 clear hk
 rcases hc with rfl | rfl | rfl | rfl | rfl | rfl | rfl | rfl | rfl | rfl
 ·exact px m M s w e f
 ·exact pw m M s w e f
 ·exact pu m M s w e f
 ·exact pr m M s w e f
 ·exact pq m M s w e f
 ·exact pp m M s w e f
 ·exact po m M s w e f
 ·exact pn m M s w e f
 ·exact pm m M s w e f
 ·exact ny m M s w e f
theorem dv (k:Int)(hk:2<=k/\k<=8):am Tryz.prog az 185 [.int .i64 k] (.tup [.int .i64 (loK k),.int .i64 (hiK k)]):=by
 have hc:k=2\/k=3\/k=4\/k=5\/k=6\/k=7\/k=8:=by omega
 clear hk
 rcases hc with rfl | rfl | rfl | rfl | rfl | rfl | rfl
 all_goals
  refine am.intro Kz.2 (by simp[Kz]) ?_
  simp only[loK,hiK]
  simp(disch:=try exact dI) only[Kz,push_cast,seval]
theorem dE (k a b:Int):am Tryz.prog az 186 [(Typ.mk k m M s w e f).pv,.int .i64 a,.int .i64 b] (.bool (decide (¬ (M<m\/m<a\/b<M)))):=by
 refine am.intro Ky.2 (by simp[Ky]) ?_
 by_cases h1:a<=m
 ·by_cases h2:M<=b
  ·by_cases h3:m<=M
   ·rw[decide_eq_true (show ¬ (M<m\/m<a\/b<M) by omega)]
    simp(disch:=try exact dI) only[Ky,Typ.pv_mk,h1,h2,h3,push_cast,seval]
   ·rw[decide_eq_false (show ¬ ¬ (M<m\/m<a\/b<M) by omega)]
    simp(disch:=try exact dI) only[Ky,Typ.pv_mk,h1,h2,h3,push_cast,seval]
  ·rw[decide_eq_false (show ¬ ¬ (M<m\/m<a\/b<M) by omega)]
   simp(disch:=try exact dI) only[Ky,Typ.pv_mk,h1,h2,push_cast,seval]
 ·rw[decide_eq_false (show ¬ ¬ (M<m\/m<a\/b<M) by omega)]
  simp(disch:=try exact dI) only[Ky,Typ.pv_mk,h1,push_cast,seval]
theorem su (k:Int)(name:List UInt8)(hl:f.length<=9000000000000):am Tryz.prog az 238 [(Typ.mk k m M s w e f).pv,.str name] (.int .i64 (d7 (named name) f 0)):=by
 refine am.intro Pl.2 (by simp[Pl]) ?_
 simp(disch:=try exact dI) only[Pl,Typ.pv_mk,push_cast,seval]
 refine au ([]) (fun i:Nat=>[(5,.pv (.int .i64 (i:Int)))]) (fun _=>[]) (fun i=>i<=f.length/\d7 (named name) f 0=d7 (named name) (f.drop i) i) (fun i=>f.length - i) (0) ?_;intro e0 σ0 n0 h0;simp(disch:=try exact dI) only[push_cast,seval] at h0;obtain⟨rfl,rfl,rfl⟩:=h0;refine⟨?_,?_,?_⟩
 ·exact qsZ
 ·exact⟨by omega,by simp⟩
 rintro i ⟨hi,he⟩
 by_cases hlt:i<f.length
 ·have hltI:(i:Int)<(f.length:Int):=by omega
  obtain⟨x,hx⟩:∃ x,f[i]? = some x:=⟨_,List.getElem?_eq_getElem hlt⟩
  have hhit:=fun h=>dX (p:=named name) hx h
  have hmiss:=fun h=>cQ (p:=named name) hx h
  obtain⟨x1,x2,x3,⟨y1,y2,y3,y4,y5,y6,y7⟩,x5⟩:=x
  simp only[named,TFd.name] at hhit hmiss
  by_cases hn:x2=name
  ·rw[he,hhit (decide_eq_true hn)]
   simp(disch:=try exact dI) only[hx,Option.map_some,hn,TFd.pv_mk,Typ.pv_mk,ag,push_cast,seval]
  ·simp(disch:=try exact dI) only[hx,Option.map_some,hn,TFd.pv_mk,Typ.pv_mk,ag,push_cast,seval]
   exact⟨i+1,aM qsZ,⟨by omega,by rw[he];exact hmiss (decide_eq_false hn)⟩,by omega⟩
 ·obtain rfl:i=f.length:=by omega
  rw[he,dY (by omega)]
  simp(disch:=try exact dI) only[Int.lt_irrefl,push_cast,seval]
end
end Go.Proofs.YtbojpfpliibfbaaGreatDoor
