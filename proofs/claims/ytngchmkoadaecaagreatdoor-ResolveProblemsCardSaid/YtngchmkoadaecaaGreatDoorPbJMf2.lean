/- A part. -/
import Derived.Test.YtngchmkoadaecaaGreatDoorPbJN5
set_option linter.unusedVariables false
set_option linter.unusedSimpArgs false
set_option maxHeartbeats 16000000
set_option maxRecDepth 100000
open Bool renaming false_or->XQ,true_or->X1,true_and->Xv,and_assoc->X5,and_comm->Ya,and_left_comm->XW
namespace Go.Proofs.YtngchmkoadaecaaGreatDoor
open Go Go.Ab
theorem Jn (s:Stp)(hs:s.ok)(hk:s.kind=4):ap Tryz.prog aC 94 [s.pv] (.bool (aQ s)):=by
 obtain⟨nm,k,c,d,e,f,g,h,i,j,w⟩:=s
 simp only[Stp.kind] at hk
 subst hk
 have eF:aQ (.mk nm 4 c d e f g h i j w)=((inR h.length 1 2&&inR c 0 256&&!decide (g=[]))&&(inR d 0 17592186044416&&(inR e 1 256&&(decide (f=[])&&(decide (j.length=0)&&(decide (w.length=0))))))):=by
  simp only[aQ,Stp.kind,aP,bF,Stp.number,Stp.time,Stp.limit,Stp.text,Stp.schema,Stp.exprs,Stp.mapping,Stp.calls,Stp.branches,XQ,X1,Xv,bn]
  simp
  try (simp only[X5,Ya,XW];try rfl)
 rw[eF]
 clear eF
 have hbt:=lj d 0 17592186044416
 generalize inR d 0 17592186044416=bt at *
 have hbl:=lj e 1 256
 generalize inR e 1 256=bl at *
 have h1:=lj h.length 1 2
 have h2:=lj c 0 256
 generalize inR h.length 1 2=b1 at *
 generalize inR c 0 256=b2 at *
 refine ap.intro Q94.2 (by simp[Q94]) ?_
 cases b1 with
 | false=>
   simp(maxSteps:=9^7) (disch:=try exact dI) only[Q94,WF,push_cast,seval]
   refine ag h1 rfl ?_
   simp(maxSteps:=9^7) (disch:=try exact dI) only[push_cast,seval]
   refine ab.pure hbt rfl ?_
   cases bt with
   | false=>simp(maxSteps:=9^7) (disch:=try exact dI) only[push_cast,seval]
   | true=>
     simp(maxSteps:=9^7) (disch:=try exact dI) only[push_cast,seval]
     refine ab.pure hbl rfl ?_
     cases bl with
     | false=>simp(maxSteps:=9^7) (disch:=try exact dI) only[push_cast,seval]
     | true=>
       by_cases qx:f=[]
       ·by_cases qk:j.length=0
        ·have qkI:¬ (0:Int)<(j.length:Int):=by omega
         by_cases qb:w.length=0
         ·have qbI:¬ (0:Int)<(w.length:Int):=by omega
          simp(maxSteps:=9^7) (disch:=try exact dI) only[qx,qk,qkI,qb,qbI,push_cast,seval]
         ·have qbI:(0:Int)<(w.length:Int):=by omega
          simp(maxSteps:=9^7) (disch:=try exact dI) only[qx,qk,qkI,qb,qbI,push_cast,seval]
        ·have qkI:(0:Int)<(j.length:Int):=by omega
         simp(maxSteps:=9^7) (disch:=try exact dI) only[qx,qk,qkI,push_cast,seval]
       ·simp(maxSteps:=9^7) (disch:=try exact dI) only[qx,push_cast,seval]
 | true=>
 cases b2 with
 | false=>
   simp(maxSteps:=9^7) (disch:=try exact dI) only[Q94,WF,push_cast,seval]
   refine ag h1 rfl ?_
   simp(maxSteps:=9^7) (disch:=try exact dI) only[push_cast,seval]
   refine ag h2 rfl ?_
   simp(maxSteps:=9^7) (disch:=try exact dI) only[push_cast,seval]
   refine ab.pure hbt rfl ?_
   cases bt with
   | false=>simp(maxSteps:=9^7) (disch:=try exact dI) only[push_cast,seval]
   | true=>
     simp(maxSteps:=9^7) (disch:=try exact dI) only[push_cast,seval]
     refine ab.pure hbl rfl ?_
     cases bl with
     | false=>simp(maxSteps:=9^7) (disch:=try exact dI) only[push_cast,seval]
     | true=>
       by_cases qx:f=[]
       ·by_cases qk:j.length=0
        ·have qkI:¬ (0:Int)<(j.length:Int):=by omega
         by_cases qb:w.length=0
         ·have qbI:¬ (0:Int)<(w.length:Int):=by omega
          simp(maxSteps:=9^7) (disch:=try exact dI) only[qx,qk,qkI,qb,qbI,push_cast,seval]
         ·have qbI:(0:Int)<(w.length:Int):=by omega
          simp(maxSteps:=9^7) (disch:=try exact dI) only[qx,qk,qkI,qb,qbI,push_cast,seval]
        ·have qkI:(0:Int)<(j.length:Int):=by omega
         simp(maxSteps:=9^7) (disch:=try exact dI) only[qx,qk,qkI,push_cast,seval]
       ·simp(maxSteps:=9^7) (disch:=try exact dI) only[qx,push_cast,seval]
 | true=>
 by_cases hg:g=[]
 ·simp(maxSteps:=9^7) (disch:=try exact dI) only[Q94,WF,hg,push_cast,seval]
  refine ag h1 rfl ?_
  simp(maxSteps:=9^7) (disch:=try exact dI) only[hg,push_cast,seval]
  refine ag h2 rfl ?_
  simp(maxSteps:=9^7) (disch:=try exact dI) only[hg,push_cast,seval]
  refine ab.pure hbt rfl ?_
  cases bt with
  | false=>simp(maxSteps:=9^7) (disch:=try exact dI) only[hg,push_cast,seval]
  | true=>
    simp(maxSteps:=9^7) (disch:=try exact dI) only[hg,push_cast,seval]
    refine ab.pure hbl rfl ?_
    cases bl with
    | false=>simp(maxSteps:=9^7) (disch:=try exact dI) only[hg,push_cast,seval]
    | true=>
      by_cases qx:f=[]
      ·by_cases qk:j.length=0
       ·have qkI:¬ (0:Int)<(j.length:Int):=by omega
        by_cases qb:w.length=0
        ·have qbI:¬ (0:Int)<(w.length:Int):=by omega
         simp(maxSteps:=9^7) (disch:=try exact dI) only[hg,qx,qk,qkI,qb,qbI,push_cast,seval]
        ·have qbI:(0:Int)<(w.length:Int):=by omega
         simp(maxSteps:=9^7) (disch:=try exact dI) only[hg,qx,qk,qkI,qb,qbI,push_cast,seval]
       ·have qkI:(0:Int)<(j.length:Int):=by omega
        simp(maxSteps:=9^7) (disch:=try exact dI) only[hg,qx,qk,qkI,push_cast,seval]
      ·simp(maxSteps:=9^7) (disch:=try exact dI) only[hg,qx,push_cast,seval]
 ·simp(maxSteps:=9^7) (disch:=try exact dI) only[Q94,WF,hg,push_cast,seval]
  refine ag h1 rfl ?_
  simp(maxSteps:=9^7) (disch:=try exact dI) only[hg,push_cast,seval]
  refine ag h2 rfl ?_
  simp(maxSteps:=9^7) (disch:=try exact dI) only[hg,push_cast,seval]
  refine ab.pure hbt rfl ?_
  cases bt with
  | false=>simp(maxSteps:=9^7) (disch:=try exact dI) only[hg,push_cast,seval]
  | true=>
    simp(maxSteps:=9^7) (disch:=try exact dI) only[hg,push_cast,seval]
    refine ab.pure hbl rfl ?_
    cases bl with
    | false=>simp(maxSteps:=9^7) (disch:=try exact dI) only[hg,push_cast,seval]
    | true=>
      by_cases qx:f=[]
      ·by_cases qk:j.length=0
       ·have qkI:¬ (0:Int)<(j.length:Int):=by omega
        by_cases qb:w.length=0
        ·have qbI:¬ (0:Int)<(w.length:Int):=by omega
         simp(maxSteps:=9^7) (disch:=try exact dI) only[hg,qx,qk,qkI,qb,qbI,push_cast,seval]
        ·have qbI:(0:Int)<(w.length:Int):=by omega
         simp(maxSteps:=9^7) (disch:=try exact dI) only[hg,qx,qk,qkI,qb,qbI,push_cast,seval]
       ·have qkI:(0:Int)<(j.length:Int):=by omega
        simp(maxSteps:=9^7) (disch:=try exact dI) only[hg,qx,qk,qkI,push_cast,seval]
      ·simp(maxSteps:=9^7) (disch:=try exact dI) only[hg,qx,push_cast,seval]
theorem Jm (s:Stp)(hs:s.ok)(hk:s.kind=5):ap Tryz.prog aC 94 [s.pv] (.bool (aQ s)):=by
 obtain⟨nm,k,c,d,e,f,g,h,i,j,w⟩:=s
 simp only[Stp.kind] at hk
 subst hk
 have eF:aQ (.mk nm 5 c d e f g h i j w)=((decide (h.length=2))&&(inR d 0 17592186044416&&(inR e 1 256&&(decide (c=0)&&(decide (f=[])&&(decide (g=[])&&(decide (i.length=0)&&(decide (j.length=0)&&(decide (w.length=0)))))))))):=by
  simp only[aQ,Stp.kind,aP,bF,Stp.number,Stp.time,Stp.limit,Stp.text,Stp.schema,Stp.exprs,Stp.mapping,Stp.calls,Stp.branches,XQ,X1,Xv,bn]
  simp
  try (simp only[X5,Ya,XW];try rfl)
 rw[eF]
 clear eF
 have hbt:=lj d 0 17592186044416
 generalize inR d 0 17592186044416=bt at *
 have hbl:=lj e 1 256
 generalize inR e 1 256=bl at *
 refine ap.intro Q94.2 (by simp[Q94]) ?_
 by_cases hl:h.length=2
 ·have hI:(h.length:Int)=2:=by omega
  simp(maxSteps:=9^7) (disch:=try exact dI) only[Q94,WF,hI,push_cast,seval]
  refine ab.pure hbt rfl ?_
  cases bt with
  | false=>simp(maxSteps:=9^7) (disch:=try exact dI) only[hl,hI,push_cast,seval]
  | true=>
    simp(maxSteps:=9^7) (disch:=try exact dI) only[hl,hI,push_cast,seval]
    refine ab.pure hbl rfl ?_
    cases bl with
    | false=>simp(maxSteps:=9^7) (disch:=try exact dI) only[hl,hI,push_cast,seval]
    | true=>
      by_cases qn:c=0
      ·by_cases qx:f=[]
       ·by_cases qc:g=[]
        ·by_cases qm:i.length=0
         ·have qmI:¬ (0:Int)<(i.length:Int):=by omega
          by_cases qk:j.length=0
          ·have qkI:¬ (0:Int)<(j.length:Int):=by omega
           by_cases qb:w.length=0
           ·have qbI:¬ (0:Int)<(w.length:Int):=by omega
            simp(maxSteps:=9^7) (disch:=try exact dI) only[hl,hI,qn,qx,qc,qm,qmI,qk,qkI,qb,qbI,push_cast,seval]
           ·have qbI:(0:Int)<(w.length:Int):=by omega
            simp(maxSteps:=9^7) (disch:=try exact dI) only[hl,hI,qn,qx,qc,qm,qmI,qk,qkI,qb,qbI,push_cast,seval]
          ·have qkI:(0:Int)<(j.length:Int):=by omega
           simp(maxSteps:=9^7) (disch:=try exact dI) only[hl,hI,qn,qx,qc,qm,qmI,qk,qkI,push_cast,seval]
         ·have qmI:(0:Int)<(i.length:Int):=by omega
          simp(maxSteps:=9^7) (disch:=try exact dI) only[hl,hI,qn,qx,qc,qm,qmI,push_cast,seval]
        ·simp(maxSteps:=9^7) (disch:=try exact dI) only[hl,hI,qn,qx,qc,push_cast,seval]
       ·simp(maxSteps:=9^7) (disch:=try exact dI) only[hl,hI,qn,qx,push_cast,seval]
      ·simp(maxSteps:=9^7) (disch:=try exact dI) only[hl,hI,qn,push_cast,seval]
 ·have hI:¬ (h.length:Int)=2:=by omega
  simp(maxSteps:=9^7) (disch:=try exact dI) only[Q94,WF,hI,push_cast,seval]
  refine ab.pure hbt rfl ?_
  cases bt with
  | false=>simp(maxSteps:=9^7) (disch:=try exact dI) only[hl,hI,push_cast,seval]
  | true=>
    simp(maxSteps:=9^7) (disch:=try exact dI) only[hl,hI,push_cast,seval]
    refine ab.pure hbl rfl ?_
    cases bl with
    | false=>simp(maxSteps:=9^7) (disch:=try exact dI) only[hl,hI,push_cast,seval]
    | true=>
      by_cases qn:c=0
      ·by_cases qx:f=[]
       ·by_cases qc:g=[]
        ·by_cases qm:i.length=0
         ·have qmI:¬ (0:Int)<(i.length:Int):=by omega
          by_cases qk:j.length=0
          ·have qkI:¬ (0:Int)<(j.length:Int):=by omega
           by_cases qb:w.length=0
           ·have qbI:¬ (0:Int)<(w.length:Int):=by omega
            simp(maxSteps:=9^7) (disch:=try exact dI) only[hl,hI,qn,qx,qc,qm,qmI,qk,qkI,qb,qbI,push_cast,seval]
           ·have qbI:(0:Int)<(w.length:Int):=by omega
            simp(maxSteps:=9^7) (disch:=try exact dI) only[hl,hI,qn,qx,qc,qm,qmI,qk,qkI,qb,qbI,push_cast,seval]
          ·have qkI:(0:Int)<(j.length:Int):=by omega
           simp(maxSteps:=9^7) (disch:=try exact dI) only[hl,hI,qn,qx,qc,qm,qmI,qk,qkI,push_cast,seval]
         ·have qmI:(0:Int)<(i.length:Int):=by omega
          simp(maxSteps:=9^7) (disch:=try exact dI) only[hl,hI,qn,qx,qc,qm,qmI,push_cast,seval]
        ·simp(maxSteps:=9^7) (disch:=try exact dI) only[hl,hI,qn,qx,qc,push_cast,seval]
       ·simp(maxSteps:=9^7) (disch:=try exact dI) only[hl,hI,qn,qx,push_cast,seval]
      ·simp(maxSteps:=9^7) (disch:=try exact dI) only[hl,hI,qn,push_cast,seval]
theorem Jl (s:Stp)(hs:s.ok)(hk:s.kind=6):ap Tryz.prog aC 94 [s.pv] (.bool (aQ s)):=by
 obtain⟨nm,k,c,d,e,f,g,h,i,j,w⟩:=s
 simp only[Stp.kind] at hk
 subst hk
 have eF:aQ (.mk nm 6 c d e f g h i j w)=((decide (h.length=1)&&inR c 1 256)&&(decide (d=0)&&(decide (e=0)&&(decide (f=[])&&(decide (g=[])&&(decide (i.length=0)&&(decide (j.length=0)&&(decide (w.length=0))))))))):=by
  simp only[aQ,Stp.kind,aP,bF,Stp.number,Stp.time,Stp.limit,Stp.text,Stp.schema,Stp.exprs,Stp.mapping,Stp.calls,Stp.branches,XQ,X1,Xv,bn]
  simp
  try (simp only[X5,Ya,XW];try rfl)
 rw[eF]
 clear eF
 have h1:=lj c 1 256
 generalize inR c 1 256=rb at *
 refine ap.intro Q94.2 (by simp[Q94]) ?_
 by_cases hl:h.length=1
 ·have hI:(h.length:Int)=1:=by omega
  simp(maxSteps:=9^7) (disch:=try exact dI) only[Q94,WF,hI,push_cast,seval]
  refine ab.pure h1 rfl ?_
  by_cases qt:d=0
  ·by_cases ql:e=0
   ·by_cases qx:f=[]
    ·by_cases qc:g=[]
     ·by_cases qm:i.length=0
      ·have qmI:¬ (0:Int)<(i.length:Int):=by omega
       by_cases qk:j.length=0
       ·have qkI:¬ (0:Int)<(j.length:Int):=by omega
        by_cases qb:w.length=0
        ·have qbI:¬ (0:Int)<(w.length:Int):=by omega
         simp(maxSteps:=9^7) (disch:=try exact dI) only[hl,hI,qt,ql,qx,qc,qm,qmI,qk,qkI,qb,qbI,push_cast,seval]
        ·have qbI:(0:Int)<(w.length:Int):=by omega
         simp(maxSteps:=9^7) (disch:=try exact dI) only[hl,hI,qt,ql,qx,qc,qm,qmI,qk,qkI,qb,qbI,push_cast,seval]
       ·have qkI:(0:Int)<(j.length:Int):=by omega
        simp(maxSteps:=9^7) (disch:=try exact dI) only[hl,hI,qt,ql,qx,qc,qm,qmI,qk,qkI,push_cast,seval]
      ·have qmI:(0:Int)<(i.length:Int):=by omega
       simp(maxSteps:=9^7) (disch:=try exact dI) only[hl,hI,qt,ql,qx,qc,qm,qmI,push_cast,seval]
     ·simp(maxSteps:=9^7) (disch:=try exact dI) only[hl,hI,qt,ql,qx,qc,push_cast,seval]
    ·simp(maxSteps:=9^7) (disch:=try exact dI) only[hl,hI,qt,ql,qx,push_cast,seval]
   ·simp(maxSteps:=9^7) (disch:=try exact dI) only[hl,hI,qt,ql,push_cast,seval]
  ·simp(maxSteps:=9^7) (disch:=try exact dI) only[hl,hI,qt,push_cast,seval]
 ·have hI:¬ (h.length:Int)=1:=by omega
  simp(maxSteps:=9^7) (disch:=try exact dI) only[Q94,WF,hI,push_cast,seval]
  by_cases qt:d=0
  ·by_cases ql:e=0
   ·by_cases qx:f=[]
    ·by_cases qc:g=[]
     ·by_cases qm:i.length=0
      ·have qmI:¬ (0:Int)<(i.length:Int):=by omega
       by_cases qk:j.length=0
       ·have qkI:¬ (0:Int)<(j.length:Int):=by omega
        by_cases qb:w.length=0
        ·have qbI:¬ (0:Int)<(w.length:Int):=by omega
         simp(maxSteps:=9^7) (disch:=try exact dI) only[hl,hI,qt,ql,qx,qc,qm,qmI,qk,qkI,qb,qbI,push_cast,seval]
        ·have qbI:(0:Int)<(w.length:Int):=by omega
         simp(maxSteps:=9^7) (disch:=try exact dI) only[hl,hI,qt,ql,qx,qc,qm,qmI,qk,qkI,qb,qbI,push_cast,seval]
       ·have qkI:(0:Int)<(j.length:Int):=by omega
        simp(maxSteps:=9^7) (disch:=try exact dI) only[hl,hI,qt,ql,qx,qc,qm,qmI,qk,qkI,push_cast,seval]
      ·have qmI:(0:Int)<(i.length:Int):=by omega
       simp(maxSteps:=9^7) (disch:=try exact dI) only[hl,hI,qt,ql,qx,qc,qm,qmI,push_cast,seval]
     ·simp(maxSteps:=9^7) (disch:=try exact dI) only[hl,hI,qt,ql,qx,qc,push_cast,seval]
    ·simp(maxSteps:=9^7) (disch:=try exact dI) only[hl,hI,qt,ql,qx,push_cast,seval]
   ·simp(maxSteps:=9^7) (disch:=try exact dI) only[hl,hI,qt,ql,push_cast,seval]
  ·simp(maxSteps:=9^7) (disch:=try exact dI) only[hl,hI,qt,push_cast,seval]
