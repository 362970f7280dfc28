/- A part. -/
import Derived.Test.YtngchmkoadaecaaGreatDoorPbJN5
set_option linter.unusedVariables false
set_option linter.unusedSimpArgs false
set_option maxHeartbeats 16000000
set_option maxRecDepth 100000
open Bool renaming false_or->XQ,true_or->X1,true_and->Xv,and_assoc->X5,and_comm->Ya,and_left_comm->XW
namespace Go.Proofs.YtngchmkoadaecaaGreatDoor
open Go Go.Ab
theorem Jk (s:Stp)(hs:s.ok)(hk:s.kind=7):ap Tryz.prog aC 94 [s.pv] (.bool (aQ s)):=by
 obtain⟨nm,k,c,d,e,f,g,h,i,j,w⟩:=s
 simp only[Stp.kind] at hk
 subst hk
 have eF:aQ (.mk nm 7 c d e f g h i j w)=((inR c 1 256&&decide (1<=d))&&(inR d 0 17592186044416&&(inR e 1 256&&(decide (f=[])&&(decide (g=[])&&(decide (h.length=0)&&(decide (i.length=0)&&(decide (j.length=0)&&(decide (w.length=0)))))))))):=by
  simp only[aQ,Stp.kind,aP,bF,Stp.number,Stp.time,Stp.limit,Stp.text,Stp.schema,Stp.exprs,Stp.mapping,Stp.calls,Stp.branches,XQ,X1,Xv,bn]
  simp
  try (simp only[X5,Ya,XW];try rfl)
 rw[eF]
 clear eF
 have hbt:=lj d 0 17592186044416
 generalize inR d 0 17592186044416=bt at *
 have hbl:=lj e 1 256
 generalize inR e 1 256=bl at *
 have h1:=lj c 1 256
 generalize inR c 1 256=rb at *
 refine ap.intro Q94.2 (by simp[Q94]) ?_
 cases rb with
 | false=>
   simp(maxSteps:=9^7) (disch:=try exact dI) only[Q94,WF,push_cast,seval]
   refine ag h1 rfl ?_
   simp(maxSteps:=9^7) (disch:=try exact dI) only[push_cast,seval]
   refine ab.pure hbt rfl ?_
   cases bt with
   | false=>simp(maxSteps:=9^7) (disch:=try exact dI) only[push_cast,seval]
   | true=>
     simp(maxSteps:=9^7) (disch:=try exact dI) only[push_cast,seval]
     refine ab.pure hbl rfl ?_
     cases bl with
     | false=>simp(maxSteps:=9^7) (disch:=try exact dI) only[push_cast,seval]
     | true=>
       by_cases qx:f=[]
       ·by_cases qc:g=[]
        ·by_cases qe:h.length=0
         ·have qeI:¬ (0:Int)<(h.length:Int):=by omega
          by_cases qm:i.length=0
          ·have qmI:¬ (0:Int)<(i.length:Int):=by omega
           by_cases qk:j.length=0
           ·have qkI:¬ (0:Int)<(j.length:Int):=by omega
            by_cases qb:w.length=0
            ·have qbI:¬ (0:Int)<(w.length:Int):=by omega
             simp(maxSteps:=9^7) (disch:=try exact dI) only[qx,qc,qe,qeI,qm,qmI,qk,qkI,qb,qbI,push_cast,seval]
            ·have qbI:(0:Int)<(w.length:Int):=by omega
             simp(maxSteps:=9^7) (disch:=try exact dI) only[qx,qc,qe,qeI,qm,qmI,qk,qkI,qb,qbI,push_cast,seval]
           ·have qkI:(0:Int)<(j.length:Int):=by omega
            simp(maxSteps:=9^7) (disch:=try exact dI) only[qx,qc,qe,qeI,qm,qmI,qk,qkI,push_cast,seval]
          ·have qmI:(0:Int)<(i.length:Int):=by omega
           simp(maxSteps:=9^7) (disch:=try exact dI) only[qx,qc,qe,qeI,qm,qmI,push_cast,seval]
         ·have qeI:(0:Int)<(h.length:Int):=by omega
          simp(maxSteps:=9^7) (disch:=try exact dI) only[qx,qc,qe,qeI,push_cast,seval]
        ·simp(maxSteps:=9^7) (disch:=try exact dI) only[qx,qc,push_cast,seval]
       ·simp(maxSteps:=9^7) (disch:=try exact dI) only[qx,push_cast,seval]
 | true=>
 by_cases hd:1<=d
 ·simp(maxSteps:=9^7) (disch:=try exact dI) only[Q94,WF,hd,push_cast,seval]
  refine ag h1 rfl ?_
  simp(maxSteps:=9^7) (disch:=try exact dI) only[hd,push_cast,seval]
  refine ab.pure hbt rfl ?_
  cases bt with
  | false=>simp(maxSteps:=9^7) (disch:=try exact dI) only[hd,push_cast,seval]
  | true=>
    simp(maxSteps:=9^7) (disch:=try exact dI) only[hd,push_cast,seval]
    refine ab.pure hbl rfl ?_
    cases bl with
    | false=>simp(maxSteps:=9^7) (disch:=try exact dI) only[hd,push_cast,seval]
    | true=>
      by_cases qx:f=[]
      ·by_cases qc:g=[]
       ·by_cases qe:h.length=0
        ·have qeI:¬ (0:Int)<(h.length:Int):=by omega
         by_cases qm:i.length=0
         ·have qmI:¬ (0:Int)<(i.length:Int):=by omega
          by_cases qk:j.length=0
          ·have qkI:¬ (0:Int)<(j.length:Int):=by omega
           by_cases qb:w.length=0
           ·have qbI:¬ (0:Int)<(w.length:Int):=by omega
            simp(maxSteps:=9^7) (disch:=try exact dI) only[hd,qx,qc,qe,qeI,qm,qmI,qk,qkI,qb,qbI,push_cast,seval]
           ·have qbI:(0:Int)<(w.length:Int):=by omega
            simp(maxSteps:=9^7) (disch:=try exact dI) only[hd,qx,qc,qe,qeI,qm,qmI,qk,qkI,qb,qbI,push_cast,seval]
          ·have qkI:(0:Int)<(j.length:Int):=by omega
           simp(maxSteps:=9^7) (disch:=try exact dI) only[hd,qx,qc,qe,qeI,qm,qmI,qk,qkI,push_cast,seval]
         ·have qmI:(0:Int)<(i.length:Int):=by omega
          simp(maxSteps:=9^7) (disch:=try exact dI) only[hd,qx,qc,qe,qeI,qm,qmI,push_cast,seval]
        ·have qeI:(0:Int)<(h.length:Int):=by omega
         simp(maxSteps:=9^7) (disch:=try exact dI) only[hd,qx,qc,qe,qeI,push_cast,seval]
       ·simp(maxSteps:=9^7) (disch:=try exact dI) only[hd,qx,qc,push_cast,seval]
      ·simp(maxSteps:=9^7) (disch:=try exact dI) only[hd,qx,push_cast,seval]
 ·simp(maxSteps:=9^7) (disch:=try exact dI) only[Q94,WF,hd,push_cast,seval]
  refine ag h1 rfl ?_
  simp(maxSteps:=9^7) (disch:=try exact dI) only[hd,push_cast,seval]
  refine ab.pure hbt rfl ?_
  cases bt with
  | false=>simp(maxSteps:=9^7) (disch:=try exact dI) only[hd,push_cast,seval]
  | true=>
    simp(maxSteps:=9^7) (disch:=try exact dI) only[hd,push_cast,seval]
    refine ab.pure hbl rfl ?_
    cases bl with
    | false=>simp(maxSteps:=9^7) (disch:=try exact dI) only[hd,push_cast,seval]
    | true=>
      by_cases qx:f=[]
      ·by_cases qc:g=[]
       ·by_cases qe:h.length=0
        ·have qeI:¬ (0:Int)<(h.length:Int):=by omega
         by_cases qm:i.length=0
         ·have qmI:¬ (0:Int)<(i.length:Int):=by omega
          by_cases qk:j.length=0
          ·have qkI:¬ (0:Int)<(j.length:Int):=by omega
           by_cases qb:w.length=0
           ·have qbI:¬ (0:Int)<(w.length:Int):=by omega
            simp(maxSteps:=9^7) (disch:=try exact dI) only[hd,qx,qc,qe,qeI,qm,qmI,qk,qkI,qb,qbI,push_cast,seval]
           ·have qbI:(0:Int)<(w.length:Int):=by omega
            simp(maxSteps:=9^7) (disch:=try exact dI) only[hd,qx,qc,qe,qeI,qm,qmI,qk,qkI,qb,qbI,push_cast,seval]
          ·have qkI:(0:Int)<(j.length:Int):=by omega
           simp(maxSteps:=9^7) (disch:=try exact dI) only[hd,qx,qc,qe,qeI,qm,qmI,qk,qkI,push_cast,seval]
         ·have qmI:(0:Int)<(i.length:Int):=by omega
          simp(maxSteps:=9^7) (disch:=try exact dI) only[hd,qx,qc,qe,qeI,qm,qmI,push_cast,seval]
        ·have qeI:(0:Int)<(h.length:Int):=by omega
         simp(maxSteps:=9^7) (disch:=try exact dI) only[hd,qx,qc,qe,qeI,push_cast,seval]
       ·simp(maxSteps:=9^7) (disch:=try exact dI) only[hd,qx,qc,push_cast,seval]
      ·simp(maxSteps:=9^7) (disch:=try exact dI) only[hd,qx,push_cast,seval]
theorem Jj (s:Stp)(hs:s.ok)(hk:s.kind=8):ap Tryz.prog aC 94 [s.pv] (.bool (aQ s)):=by
 obtain⟨nm,k,c,d,e,f,g,h,i,j,w⟩:=s
 simp only[Stp.kind] at hk
 subst hk
 have eF:aQ (.mk nm 8 c d e f g h i j w)=((decide (1<=d))&&(inR d 0 17592186044416&&(inR e 1 256&&(decide (c=0)&&(decide (f=[])&&(decide (g=[])&&(decide (h.length=0)&&(decide (i.length=0)&&(decide (j.length=0)&&(decide (w.length=0))))))))))):=by
  simp only[aQ,Stp.kind,aP,bF,Stp.number,Stp.time,Stp.limit,Stp.text,Stp.schema,Stp.exprs,Stp.mapping,Stp.calls,Stp.branches,XQ,X1,Xv,bn]
  simp
  try (simp only[X5,Ya,XW];try rfl)
 rw[eF]
 clear eF
 have hbt:=lj d 0 17592186044416
 generalize inR d 0 17592186044416=bt at *
 have hbl:=lj e 1 256
 generalize inR e 1 256=bl at *
 refine ap.intro Q94.2 (by simp[Q94]) ?_
 by_cases hd:1<=d
 ·simp(maxSteps:=9^7) (disch:=try exact dI) only[Q94,WF,hd,push_cast,seval]
  refine ab.pure hbt rfl ?_
  cases bt with
  | false=>simp(maxSteps:=9^7) (disch:=try exact dI) only[hd,push_cast,seval]
  | true=>
    simp(maxSteps:=9^7) (disch:=try exact dI) only[hd,push_cast,seval]
    refine ab.pure hbl rfl ?_
    cases bl with
    | false=>simp(maxSteps:=9^7) (disch:=try exact dI) only[hd,push_cast,seval]
    | true=>
      by_cases qn:c=0
      ·by_cases qx:f=[]
       ·by_cases qc:g=[]
        ·by_cases qe:h.length=0
         ·have qeI:¬ (0:Int)<(h.length:Int):=by omega
          by_cases qm:i.length=0
          ·have qmI:¬ (0:Int)<(i.length:Int):=by omega
           by_cases qk:j.length=0
           ·have qkI:¬ (0:Int)<(j.length:Int):=by omega
            by_cases qb:w.length=0
            ·have qbI:¬ (0:Int)<(w.length:Int):=by omega
             simp(maxSteps:=9^7) (disch:=try exact dI) only[hd,qn,qx,qc,qe,qeI,qm,qmI,qk,qkI,qb,qbI,push_cast,seval]
            ·have qbI:(0:Int)<(w.length:Int):=by omega
             simp(maxSteps:=9^7) (disch:=try exact dI) only[hd,qn,qx,qc,qe,qeI,qm,qmI,qk,qkI,qb,qbI,push_cast,seval]
           ·have qkI:(0:Int)<(j.length:Int):=by omega
            simp(maxSteps:=9^7) (disch:=try exact dI) only[hd,qn,qx,qc,qe,qeI,qm,qmI,qk,qkI,push_cast,seval]
          ·have qmI:(0:Int)<(i.length:Int):=by omega
           simp(maxSteps:=9^7) (disch:=try exact dI) only[hd,qn,qx,qc,qe,qeI,qm,qmI,push_cast,seval]
         ·have qeI:(0:Int)<(h.length:Int):=by omega
          simp(maxSteps:=9^7) (disch:=try exact dI) only[hd,qn,qx,qc,qe,qeI,push_cast,seval]
        ·simp(maxSteps:=9^7) (disch:=try exact dI) only[hd,qn,qx,qc,push_cast,seval]
       ·simp(maxSteps:=9^7) (disch:=try exact dI) only[hd,qn,qx,push_cast,seval]
      ·simp(maxSteps:=9^7) (disch:=try exact dI) only[hd,qn,push_cast,seval]
 ·simp(maxSteps:=9^7) (disch:=try exact dI) only[Q94,WF,hd,push_cast,seval]
  refine ab.pure hbt rfl ?_
  cases bt with
  | false=>simp(maxSteps:=9^7) (disch:=try exact dI) only[hd,push_cast,seval]
  | true=>
    simp(maxSteps:=9^7) (disch:=try exact dI) only[hd,push_cast,seval]
    refine ab.pure hbl rfl ?_
    cases bl with
    | false=>simp(maxSteps:=9^7) (disch:=try exact dI) only[hd,push_cast,seval]
    | true=>
      by_cases qn:c=0
      ·by_cases qx:f=[]
       ·by_cases qc:g=[]
        ·by_cases qe:h.length=0
         ·have qeI:¬ (0:Int)<(h.length:Int):=by omega
          by_cases qm:i.length=0
          ·have qmI:¬ (0:Int)<(i.length:Int):=by omega
           by_cases qk:j.length=0
           ·have qkI:¬ (0:Int)<(j.length:Int):=by omega
            by_cases qb:w.length=0
            ·have qbI:¬ (0:Int)<(w.length:Int):=by omega
             simp(maxSteps:=9^7) (disch:=try exact dI) only[hd,qn,qx,qc,qe,qeI,qm,qmI,qk,qkI,qb,qbI,push_cast,seval]
            ·have qbI:(0:Int)<(w.length:Int):=by omega
             simp(maxSteps:=9^7) (disch:=try exact dI) only[hd,qn,qx,qc,qe,qeI,qm,qmI,qk,qkI,qb,qbI,push_cast,seval]
           ·have qkI:(0:Int)<(j.length:Int):=by omega
            simp(maxSteps:=9^7) (disch:=try exact dI) only[hd,qn,qx,qc,qe,qeI,qm,qmI,qk,qkI,push_cast,seval]
          ·have qmI:(0:Int)<(i.length:Int):=by omega
           simp(maxSteps:=9^7) (disch:=try exact dI) only[hd,qn,qx,qc,qe,qeI,qm,qmI,push_cast,seval]
         ·have qeI:(0:Int)<(h.length:Int):=by omega
          simp(maxSteps:=9^7) (disch:=try exact dI) only[hd,qn,qx,qc,qe,qeI,push_cast,seval]
        ·simp(maxSteps:=9^7) (disch:=try exact dI) only[hd,qn,qx,qc,push_cast,seval]
       ·simp(maxSteps:=9^7) (disch:=try exact dI) only[hd,qn,qx,push_cast,seval]
      ·simp(maxSteps:=9^7) (disch:=try exact dI) only[hd,qn,push_cast,seval]
theorem Ji (s:Stp)(hs:s.ok)(hk:s.kind=9):ap Tryz.prog aC 94 [s.pv] (.bool (aQ s)):=by
 obtain⟨nm,k,c,d,e,f,g,h,i,j,w⟩:=s
 simp only[Stp.kind] at hk
 subst hk
 have eF:aQ (.mk nm 9 c d e f g h i j w)=((inR j.length 1 1&&!decide (g=[]))&&(inR d 0 17592186044416&&(inR e 1 256&&(decide (c=0)&&(decide (f=[])&&(decide (h.length=0)&&(decide (w.length=0)))))))):=by
  simp only[aQ,Stp.kind,aP,bF,Stp.number,Stp.time,Stp.limit,Stp.text,Stp.schema,Stp.exprs,Stp.mapping,Stp.calls,Stp.branches,XQ,X1,Xv,bn]
  simp
  try (simp only[X5,Ya,XW];try rfl)
 rw[eF]
 clear eF
 have hbt:=lj d 0 17592186044416
 generalize inR d 0 17592186044416=bt at *
 have hbl:=lj e 1 256
 generalize inR e 1 256=bl at *
 refine ap.intro Q94.2 (by simp[Q94]) ?_
 by_cases hl:j.length=1
 ·have hI:(j.length:Int)=1:=by omega
  have e9:inR j.length 1 1=true:=by simp only[inR];simp;omega
  rw[e9]
  by_cases hg:g=[]
  ·simp(maxSteps:=9^7) (disch:=try exact dI) only[Q94,WF,hI,hg,push_cast,seval]
   refine ab.pure hbt rfl ?_
   cases bt with
   | false=>simp(maxSteps:=9^7) (disch:=try exact dI) only[hI,hg,push_cast,seval]
   | true=>
     simp(maxSteps:=9^7) (disch:=try exact dI) only[hI,hg,push_cast,seval]
     refine ab.pure hbl rfl ?_
     cases bl with
     | false=>simp(maxSteps:=9^7) (disch:=try exact dI) only[hI,hg,push_cast,seval]
     | true=>
       by_cases qn:c=0
       ·by_cases qx:f=[]
        ·by_cases qe:h.length=0
         ·have qeI:¬ (0:Int)<(h.length:Int):=by omega
          by_cases qb:w.length=0
          ·have qbI:¬ (0:Int)<(w.length:Int):=by omega
           simp(maxSteps:=9^7) (disch:=try exact dI) only[hI,hg,qn,qx,qe,qeI,qb,qbI,push_cast,seval]
          ·have qbI:(0:Int)<(w.length:Int):=by omega
           simp(maxSteps:=9^7) (disch:=try exact dI) only[hI,hg,qn,qx,qe,qeI,qb,qbI,push_cast,seval]
         ·have qeI:(0:Int)<(h.length:Int):=by omega
          simp(maxSteps:=9^7) (disch:=try exact dI) only[hI,hg,qn,qx,qe,qeI,push_cast,seval]
        ·simp(maxSteps:=9^7) (disch:=try exact dI) only[hI,hg,qn,qx,push_cast,seval]
       ·simp(maxSteps:=9^7) (disch:=try exact dI) only[hI,hg,qn,push_cast,seval]
  ·simp(maxSteps:=9^7) (disch:=try exact dI) only[Q94,WF,hI,hg,push_cast,seval]
   refine ab.pure hbt rfl ?_
   cases bt with
   | false=>simp(maxSteps:=9^7) (disch:=try exact dI) only[hI,hg,push_cast,seval]
   | true=>
     simp(maxSteps:=9^7) (disch:=try exact dI) only[hI,hg,push_cast,seval]
     refine ab.pure hbl rfl ?_
     cases bl with
     | false=>simp(maxSteps:=9^7) (disch:=try exact dI) only[hI,hg,push_cast,seval]
     | true=>
       by_cases qn:c=0
       ·by_cases qx:f=[]
        ·by_cases qe:h.length=0
         ·have qeI:¬ (0:Int)<(h.length:Int):=by omega
          by_cases qb:w.length=0
          ·have qbI:¬ (0:Int)<(w.length:Int):=by omega
           simp(maxSteps:=9^7) (disch:=try exact dI) only[hI,hg,qn,qx,qe,qeI,qb,qbI,push_cast,seval]
          ·have qbI:(0:Int)<(w.length:Int):=by omega
           simp(maxSteps:=9^7) (disch:=try exact dI) only[hI,hg,qn,qx,qe,qeI,qb,qbI,push_cast,seval]
         ·have qeI:(0:Int)<(h.length:Int):=by omega
          simp(maxSteps:=9^7) (disch:=try exact dI) only[hI,hg,qn,qx,qe,qeI,push_cast,seval]
        ·simp(maxSteps:=9^7) (disch:=try exact dI) only[hI,hg,qn,qx,push_cast,seval]
       ·simp(maxSteps:=9^7) (disch:=try exact dI) only[hI,hg,qn,push_cast,seval]
 ·have hI:¬ (j.length:Int)=1:=by omega
  have e9:inR j.length 1 1=false:=by simp only[inR];simp;omega
  rw[e9]
  simp(maxSteps:=9^7) (disch:=try exact dI) only[Q94,WF,hI,push_cast,seval]
  refine ab.pure hbt rfl ?_
  cases bt with
  | false=>simp(maxSteps:=9^7) (disch:=try exact dI) only[hI,push_cast,seval]
  | true=>
    simp(maxSteps:=9^7) (disch:=try exact dI) only[hI,push_cast,seval]
    refine ab.pure hbl rfl ?_
    cases bl with
    | false=>simp(maxSteps:=9^7) (disch:=try exact dI) only[hI,push_cast,seval]
    | true=>
      by_cases qn:c=0
      ·by_cases qx:f=[]
       ·by_cases qe:h.length=0
        ·have qeI:¬ (0:Int)<(h.length:Int):=by omega
         by_cases qb:w.length=0
         ·have qbI:¬ (0:Int)<(w.length:Int):=by omega
          simp(maxSteps:=9^7) (disch:=try exact dI) only[hI,qn,qx,qe,qeI,qb,qbI,push_cast,seval]
         ·have qbI:(0:Int)<(w.length:Int):=by omega
          simp(maxSteps:=9^7) (disch:=try exact dI) only[hI,qn,qx,qe,qeI,qb,qbI,push_cast,seval]
        ·have qeI:(0:Int)<(h.length:Int):=by omega
         simp(maxSteps:=9^7) (disch:=try exact dI) only[hI,qn,qx,qe,qeI,push_cast,seval]
       ·simp(maxSteps:=9^7) (disch:=try exact dI) only[hI,qn,qx,push_cast,seval]
      ·simp(maxSteps:=9^7) (disch:=try exact dI) only[hI,qn,push_cast,seval]
