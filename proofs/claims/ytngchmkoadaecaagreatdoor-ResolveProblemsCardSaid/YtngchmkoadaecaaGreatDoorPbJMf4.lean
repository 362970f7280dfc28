/- A part. -/
import Derived.Test.YtngchmkoadaecaaGreatDoorPbJN5
set_option linter.unusedVariables false
set_option linter.unusedSimpArgs false
set_option maxHeartbeats 16000000
set_option maxRecDepth 100000
open Bool renaming false_or->XQ,true_or->X1,true_and->Xv,and_assoc->X5,and_comm->Ya,and_left_comm->XW,and_true->XJ,false_and->XR
open List renaming take_zero->Xy,all_nil->XM,getElem?_eq_getElem->WT,mem_of_getElem?->WV,take_of_length_le->WY
namespace Go.Proofs.YtngchmkoadaecaaGreatDoor
open Go Go.Ab
theorem DZ (s:Stp)(hs:s.ok)(hk:s.kind=10):ap Tryz.prog aC 94 [s.pv] (.bool (aQ s)):=by
 obtain⟨nm,k,c,d,e,f,g,h,i,j,w⟩:=s
 simp only[Stp.kind] at hk
 subst hk
 have eF:aQ (.mk nm 10 c d e f g h i j w)=((inR j.length 1 16&&!decide (g=[]))&&(inR d 0 17592186044416&&(inR e 1 256&&(decide (c=0)&&(decide (f=[])&&(decide (h.length=0)&&(decide (w.length=0)))))))):=by
  simp only[aQ,Stp.kind,aP,bF,Stp.number,Stp.time,Stp.limit,Stp.text,Stp.schema,Stp.exprs,Stp.mapping,Stp.calls,Stp.branches,XQ,X1,Xv,bn]
  simp
  try (simp only[X5,Ya,XW];try rfl)
 rw[eF]
 clear eF
 have hbt:=lj d 0 17592186044416
 generalize inR d 0 17592186044416=bt at *
 have hbl:=lj e 1 256
 generalize inR e 1 256=bl at *
 have h1:=lj j.length 1 16
 generalize inR j.length 1 16=rb at *
 refine ap.intro Q94.2 (by simp[Q94]) ?_
 cases rb with
 | false=>
   simp(maxSteps:=9^7) (disch:=try exact dI) only[Q94,WF,push_cast,seval]
   refine ag h1 rfl ?_
   simp(maxSteps:=9^7) (disch:=try exact dI) only[push_cast,seval]
   refine ab.pure hbt rfl ?_
   cases bt with
   | false=>simp(maxSteps:=9^7) (disch:=try exact dI) only[push_cast,seval]
   | true=>
     simp(maxSteps:=9^7) (disch:=try exact dI) only[push_cast,seval]
     refine ab.pure hbl rfl ?_
     cases bl with
     | false=>simp(maxSteps:=9^7) (disch:=try exact dI) only[push_cast,seval]
     | true=>
       by_cases qn:c=0
       ·by_cases qx:f=[]
        ·by_cases qe:h.length=0
         ·have qeI:¬ (0:Int)<(h.length:Int):=by omega
          by_cases qb:w.length=0
          ·have qbI:¬ (0:Int)<(w.length:Int):=by omega
           simp(maxSteps:=9^7) (disch:=try exact dI) only[qn,qx,qe,qeI,qb,qbI,push_cast,seval]
          ·have qbI:(0:Int)<(w.length:Int):=by omega
           simp(maxSteps:=9^7) (disch:=try exact dI) only[qn,qx,qe,qeI,qb,qbI,push_cast,seval]
         ·have qeI:(0:Int)<(h.length:Int):=by omega
          simp(maxSteps:=9^7) (disch:=try exact dI) only[qn,qx,qe,qeI,push_cast,seval]
        ·simp(maxSteps:=9^7) (disch:=try exact dI) only[qn,qx,push_cast,seval]
       ·simp(maxSteps:=9^7) (disch:=try exact dI) only[qn,push_cast,seval]
 | true=>
 by_cases hg:g=[]
 ·simp(maxSteps:=9^7) (disch:=try exact dI) only[Q94,WF,hg,push_cast,seval]
  refine ag h1 rfl ?_
  simp(maxSteps:=9^7) (disch:=try exact dI) only[hg,push_cast,seval]
  refine ab.pure hbt rfl ?_
  cases bt with
  | false=>simp(maxSteps:=9^7) (disch:=try exact dI) only[hg,push_cast,seval]
  | true=>
    simp(maxSteps:=9^7) (disch:=try exact dI) only[hg,push_cast,seval]
    refine ab.pure hbl rfl ?_
    cases bl with
    | false=>simp(maxSteps:=9^7) (disch:=try exact dI) only[hg,push_cast,seval]
    | true=>
      by_cases qn:c=0
      ·by_cases qx:f=[]
       ·by_cases qe:h.length=0
        ·have qeI:¬ (0:Int)<(h.length:Int):=by omega
         by_cases qb:w.length=0
         ·have qbI:¬ (0:Int)<(w.length:Int):=by omega
          simp(maxSteps:=9^7) (disch:=try exact dI) only[hg,qn,qx,qe,qeI,qb,qbI,push_cast,seval]
         ·have qbI:(0:Int)<(w.length:Int):=by omega
          simp(maxSteps:=9^7) (disch:=try exact dI) only[hg,qn,qx,qe,qeI,qb,qbI,push_cast,seval]
        ·have qeI:(0:Int)<(h.length:Int):=by omega
         simp(maxSteps:=9^7) (disch:=try exact dI) only[hg,qn,qx,qe,qeI,push_cast,seval]
       ·simp(maxSteps:=9^7) (disch:=try exact dI) only[hg,qn,qx,push_cast,seval]
      ·simp(maxSteps:=9^7) (disch:=try exact dI) only[hg,qn,push_cast,seval]
 ·simp(maxSteps:=9^7) (disch:=try exact dI) only[Q94,WF,hg,push_cast,seval]
  refine ag h1 rfl ?_
  simp(maxSteps:=9^7) (disch:=try exact dI) only[hg,push_cast,seval]
  refine ab.pure hbt rfl ?_
  cases bt with
  | false=>simp(maxSteps:=9^7) (disch:=try exact dI) only[hg,push_cast,seval]
  | true=>
    simp(maxSteps:=9^7) (disch:=try exact dI) only[hg,push_cast,seval]
    refine ab.pure hbl rfl ?_
    cases bl with
    | false=>simp(maxSteps:=9^7) (disch:=try exact dI) only[hg,push_cast,seval]
    | true=>
      by_cases qn:c=0
      ·by_cases qx:f=[]
       ·by_cases qe:h.length=0
        ·have qeI:¬ (0:Int)<(h.length:Int):=by omega
         by_cases qb:w.length=0
         ·have qbI:¬ (0:Int)<(w.length:Int):=by omega
          simp(maxSteps:=9^7) (disch:=try exact dI) only[hg,qn,qx,qe,qeI,qb,qbI,push_cast,seval]
         ·have qbI:(0:Int)<(w.length:Int):=by omega
          simp(maxSteps:=9^7) (disch:=try exact dI) only[hg,qn,qx,qe,qeI,qb,qbI,push_cast,seval]
        ·have qeI:(0:Int)<(h.length:Int):=by omega
         simp(maxSteps:=9^7) (disch:=try exact dI) only[hg,qn,qx,qe,qeI,push_cast,seval]
       ·simp(maxSteps:=9^7) (disch:=try exact dI) only[hg,qn,qx,push_cast,seval]
      ·simp(maxSteps:=9^7) (disch:=try exact dI) only[hg,qn,push_cast,seval]
theorem DW (s:Stp)(hs:s.ok)(hk:s.kind=13):ap Tryz.prog aC 94 [s.pv] (.bool (aQ s)):=by
 obtain⟨nm,k,c,d,e,f,g,h,i,j,w⟩:=s
 simp only[Stp.kind] at hk
 subst hk
 have eF:aQ (.mk nm 13 c d e f g h i j w)=((!decide (f=[]))&&(decide (c=0)&&(decide (d=0)&&(decide (e=0)&&(decide (g=[])&&(decide (h.length=0)&&(decide (i.length=0)&&(decide (j.length=0)&&(decide (w.length=0)))))))))):=by
  simp only[aQ,Stp.kind,aP,bF,Stp.number,Stp.time,Stp.limit,Stp.text,Stp.schema,Stp.exprs,Stp.mapping,Stp.calls,Stp.branches,XQ,X1,Xv,bn]
  simp
  try (simp only[X5,Ya,XW];try rfl)
 rw[eF]
 clear eF
 refine ap.intro Q94.2 (by simp[Q94]) ?_
 by_cases hg:f=[]
 ·simp(maxSteps:=9^7) (disch:=try exact dI) only[Q94,WF,hg,push_cast,seval]
  by_cases qn:c=0
  ·by_cases qt:d=0
   ·by_cases ql:e=0
    ·by_cases qc:g=[]
     ·by_cases qe:h.length=0
      ·have qeI:¬ (0:Int)<(h.length:Int):=by omega
       by_cases qm:i.length=0
       ·have qmI:¬ (0:Int)<(i.length:Int):=by omega
        by_cases qk:j.length=0
        ·have qkI:¬ (0:Int)<(j.length:Int):=by omega
         by_cases qb:w.length=0
         ·have qbI:¬ (0:Int)<(w.length:Int):=by omega
          simp(maxSteps:=9^7) (disch:=try exact dI) only[hg,qn,qt,ql,qc,qe,qeI,qm,qmI,qk,qkI,qb,qbI,push_cast,seval]
         ·have qbI:(0:Int)<(w.length:Int):=by omega
          simp(maxSteps:=9^7) (disch:=try exact dI) only[hg,qn,qt,ql,qc,qe,qeI,qm,qmI,qk,qkI,qb,qbI,push_cast,seval]
        ·have qkI:(0:Int)<(j.length:Int):=by omega
         simp(maxSteps:=9^7) (disch:=try exact dI) only[hg,qn,qt,ql,qc,qe,qeI,qm,qmI,qk,qkI,push_cast,seval]
       ·have qmI:(0:Int)<(i.length:Int):=by omega
        simp(maxSteps:=9^7) (disch:=try exact dI) only[hg,qn,qt,ql,qc,qe,qeI,qm,qmI,push_cast,seval]
      ·have qeI:(0:Int)<(h.length:Int):=by omega
       simp(maxSteps:=9^7) (disch:=try exact dI) only[hg,qn,qt,ql,qc,qe,qeI,push_cast,seval]
     ·simp(maxSteps:=9^7) (disch:=try exact dI) only[hg,qn,qt,ql,qc,push_cast,seval]
    ·simp(maxSteps:=9^7) (disch:=try exact dI) only[hg,qn,qt,ql,push_cast,seval]
   ·simp(maxSteps:=9^7) (disch:=try exact dI) only[hg,qn,qt,push_cast,seval]
  ·simp(maxSteps:=9^7) (disch:=try exact dI) only[hg,qn,push_cast,seval]
 ·simp(maxSteps:=9^7) (disch:=try exact dI) only[Q94,WF,hg,push_cast,seval]
  by_cases qn:c=0
  ·by_cases qt:d=0
   ·by_cases ql:e=0
    ·by_cases qc:g=[]
     ·by_cases qe:h.length=0
      ·have qeI:¬ (0:Int)<(h.length:Int):=by omega
       by_cases qm:i.length=0
       ·have qmI:¬ (0:Int)<(i.length:Int):=by omega
        by_cases qk:j.length=0
        ·have qkI:¬ (0:Int)<(j.length:Int):=by omega
         by_cases qb:w.length=0
         ·have qbI:¬ (0:Int)<(w.length:Int):=by omega
          simp(maxSteps:=9^7) (disch:=try exact dI) only[hg,qn,qt,ql,qc,qe,qeI,qm,qmI,qk,qkI,qb,qbI,push_cast,seval]
         ·have qbI:(0:Int)<(w.length:Int):=by omega
          simp(maxSteps:=9^7) (disch:=try exact dI) only[hg,qn,qt,ql,qc,qe,qeI,qm,qmI,qk,qkI,qb,qbI,push_cast,seval]
        ·have qkI:(0:Int)<(j.length:Int):=by omega
         simp(maxSteps:=9^7) (disch:=try exact dI) only[hg,qn,qt,ql,qc,qe,qeI,qm,qmI,qk,qkI,push_cast,seval]
       ·have qmI:(0:Int)<(i.length:Int):=by omega
        simp(maxSteps:=9^7) (disch:=try exact dI) only[hg,qn,qt,ql,qc,qe,qeI,qm,qmI,push_cast,seval]
      ·have qeI:(0:Int)<(h.length:Int):=by omega
       simp(maxSteps:=9^7) (disch:=try exact dI) only[hg,qn,qt,ql,qc,qe,qeI,push_cast,seval]
     ·simp(maxSteps:=9^7) (disch:=try exact dI) only[hg,qn,qt,ql,qc,push_cast,seval]
    ·simp(maxSteps:=9^7) (disch:=try exact dI) only[hg,qn,qt,ql,push_cast,seval]
   ·simp(maxSteps:=9^7) (disch:=try exact dI) only[hg,qn,qt,push_cast,seval]
  ·simp(maxSteps:=9^7) (disch:=try exact dI) only[hg,qn,push_cast,seval]
theorem DV (s:Stp)(hs:s.ok)(hk:s.kind=14):ap Tryz.prog aC 94 [s.pv] (.bool (aQ s)):=by
 obtain⟨nm,k,c,d,e,f,g,h,i,j,w⟩:=s
 simp only[Stp.kind] at hk
 subst hk
 have eF:aQ (.mk nm 14 c d e f g h i j w)=((cf f)&&(decide (c=0)&&(decide (d=0)&&(decide (e=0)&&(decide (g=[])&&(decide (h.length=0)&&(decide (i.length=0)&&(decide (j.length=0)&&(decide (w.length=0)))))))))):=by
  simp only[aQ,Stp.kind,aP,bF,Stp.number,Stp.time,Stp.limit,Stp.text,Stp.schema,Stp.exprs,Stp.mapping,Stp.calls,Stp.branches,XQ,X1,Xv,bn]
  simp
  try (simp only[X5,Ya,XW];try rfl)
 rw[eF]
 clear eF
 have h1:=oi f
 generalize cf f=rb at *
 refine ap.intro Q94.2 (by simp[Q94]) ?_
 simp(maxSteps:=9^7) (disch:=try exact dI) only[Q94,WF,push_cast,seval]
 refine ab.pure h1 rfl ?_
 by_cases qn:c=0
 ·by_cases qt:d=0
  ·by_cases ql:e=0
   ·by_cases qc:g=[]
    ·by_cases qe:h.length=0
     ·have qeI:¬ (0:Int)<(h.length:Int):=by omega
      by_cases qm:i.length=0
      ·have qmI:¬ (0:Int)<(i.length:Int):=by omega
       by_cases qk:j.length=0
       ·have qkI:¬ (0:Int)<(j.length:Int):=by omega
        by_cases qb:w.length=0
        ·have qbI:¬ (0:Int)<(w.length:Int):=by omega
         simp(maxSteps:=9^7) (disch:=try exact dI) only[qn,qt,ql,qc,qe,qeI,qm,qmI,qk,qkI,qb,qbI,push_cast,seval]
        ·have qbI:(0:Int)<(w.length:Int):=by omega
         simp(maxSteps:=9^7) (disch:=try exact dI) only[qn,qt,ql,qc,qe,qeI,qm,qmI,qk,qkI,qb,qbI,push_cast,seval]
       ·have qkI:(0:Int)<(j.length:Int):=by omega
        simp(maxSteps:=9^7) (disch:=try exact dI) only[qn,qt,ql,qc,qe,qeI,qm,qmI,qk,qkI,push_cast,seval]
      ·have qmI:(0:Int)<(i.length:Int):=by omega
       simp(maxSteps:=9^7) (disch:=try exact dI) only[qn,qt,ql,qc,qe,qeI,qm,qmI,push_cast,seval]
     ·have qeI:(0:Int)<(h.length:Int):=by omega
      simp(maxSteps:=9^7) (disch:=try exact dI) only[qn,qt,ql,qc,qe,qeI,push_cast,seval]
    ·simp(maxSteps:=9^7) (disch:=try exact dI) only[qn,qt,ql,qc,push_cast,seval]
   ·simp(maxSteps:=9^7) (disch:=try exact dI) only[qn,qt,ql,push_cast,seval]
  ·simp(maxSteps:=9^7) (disch:=try exact dI) only[qn,qt,push_cast,seval]
 ·simp(maxSteps:=9^7) (disch:=try exact dI) only[qn,push_cast,seval]
theorem DY (s:Stp)(hs:s.ok)(hk:s.kind=11):ap Tryz.prog aC 94 [s.pv] (.bool (aQ s)):=by
 obtain⟨nm,k,c,d,e,f,g,h,i,j,w⟩:=s
 simp only[Stp.kind] at hk
 subst hk
 have eF:aQ (.mk nm 11 c d e f g h i j w)=(fQ 1 w&&(decide (c=0)&&(decide (d=0)&&(decide (e=0)&&(decide (f=[])&&(decide (g=[])&&(decide (h.length=0)&&(decide (i.length=0)&&(decide (j.length=0)))))))))):=by
  simp only[aQ,Stp.kind,aP,bF,Stp.number,Stp.time,Stp.limit,Stp.text,Stp.schema,Stp.exprs,Stp.mapping,Stp.calls,Stp.branches,XQ,X1,Xv,bn]
  simp
  try (simp only[X5,Ya,XW];try rfl)
 rw[eF]
 clear eF
 have h1:=lj w.length 1 64
 rw[WE] at hs
 have hwl:w.length<=9000000000000:=by have:=hs.2.2.2.2.2.2.2.2.2.2.2.2.2.1;omega
 have hwo:=hs.2.2.2.2.2.2.2.2.2.2.2.2.2.2
 clear hs
 have eW:fQ 1 w=(inR w.length 1 64&&w.zipIdx.all (ew 1 w.length)):=by rw[fQ,Ya];rfl
 rw[eW]
 clear eW
 generalize inR w.length 1 64=a at *
 refine ap.intro Q94.2 (by simp[Q94]) ?_
 simp(maxSteps:=9^7) (disch:=try exact dI) only[Q94,WF,push_cast,seval]
 refine ab.pure h1 rfl ?_
 simp(maxSteps:=9^7) (disch:=try exact dI) only[push_cast,seval]
 refine au ([]) (fun q:Nat=>[(4,.pv (.bool (a&&(w.take q).zipIdx.all (ew 1 w.length)))),(5,.pv (.int .i64 (q:Int)))]) (fun _=>[]) (fun q=>q<=w.length) (fun q=>w.length - q) (0) ?_;intro e0 σ0 n0 h0;simp(maxSteps:=9^7) (disch:=try exact dI) only[push_cast,seval] at h0;obtain⟨rfl,rfl,rfl⟩:=h0;refine⟨?_,?_,?_⟩
 ·simp(maxSteps:=9^7) (disch:=try exact dI) only[Xy,List.zipIdx_nil,XM,XJ,push_cast,seval]
 ·omega
 intro q hq
 by_cases hlt:q<w.length
 ·have hltI:(q:Int)<w.length:=by omega
  obtain⟨x,hx⟩:∃ x,w[q]? = some x:=⟨_,WT hlt⟩
  have hxo:=hwo x (WV hx)
  have hsn:(a&&(w.take (q+1)).zipIdx.all (ew 1 w.length))=((a&&(w.take q).zipIdx.all (ew 1 w.length))&&ew 1 w.length (x,q)):=by rw[fg (ew 1 w.length) hx,X5]
  generalize hB2:(a&&(w.take (q+1)).zipIdx.all (ew 1 w.length))=B2 at *
  generalize (a&&(w.take q).zipIdx.all (ew 1 w.length))=B at *
  obtain⟨x1,x2⟩:=x
  rw[Wg] at hxo
  have hx1:x1.length<=9000000000000:=by omega
  cases B with
  | false=>
    rw[XR] at hsn
    simp(maxSteps:=9^7) (disch:=try exact dI) only[hx,Wh,push_cast,seval]
    exact⟨q+1,aJ (by simp(maxSteps:=9^7) (disch:=try exact dI) only[hB2,hsn,push_cast,seval]),by omega,by omega⟩
  | true=>
    rw[Xv] at hsn
    by_cases h1c:x1.length=1
    ·have h1I:(x1.length:Int)=1:=by omega
     have hg:ew 1 w.length (Bra.mk x1 x2,q)=true:=by simp[ew,Bra.when,bn,h1c];try omega
     rw[hg] at hsn
     simp(maxSteps:=9^7) (disch:=try exact dI) only[hx,Wh,h1I,push_cast,seval]
     exact⟨q+1,aJ (by simp(maxSteps:=9^7) (disch:=try exact dI) only[hB2,hsn,push_cast,seval]),by omega,by omega⟩
    ·have h1I:¬ (x1.length:Int)=1:=by omega
     by_cases h0c:x1.length=0
     ·have h0I:(x1.length:Int)=0:=by omega
      by_cases hlc:q+1=w.length
      ·have hlI:((q:Int)=(w.length:Int) - 1)=True:=eq_true (by omega)
       have hg:ew 1 w.length (Bra.mk x1 x2,q)=true:=by simp[ew,Bra.when,bn,h1c,h0c,hlc];try omega
       rw[hg] at hsn
       simp(maxSteps:=9^7) (disch:=try exact dI) only[hx,Wh,h1I,h0I,hlI,push_cast,seval]
       exact⟨q+1,aJ (by simp(maxSteps:=9^7) (disch:=try exact dI) only[hB2,hsn,push_cast,seval]),by omega,by omega⟩
      ·have hlI:((q:Int)=(w.length:Int) - 1)=False:=eq_false (by omega)
       have hg:ew 1 w.length (Bra.mk x1 x2,q)=false:=by simp[ew,Bra.when,bn,h1c,h0c,hlc];try omega
       rw[hg] at hsn
       simp(maxSteps:=9^7) (disch:=try exact dI) only[hx,Wh,h1I,h0I,hlI,push_cast,seval]
       exact⟨q+1,aJ (by simp(maxSteps:=9^7) (disch:=try exact dI) only[hB2,hsn,push_cast,seval]),by omega,by omega⟩
     ·have h0I:¬ (x1.length:Int)=0:=by omega
      have hg:ew 1 w.length (Bra.mk x1 x2,q)=false:=by simp[ew,Bra.when,bn,h1c,h0c];try omega
      rw[hg] at hsn
      simp(maxSteps:=9^7) (disch:=try exact dI) only[hx,Wh,h1I,h0I,push_cast,seval]
      exact⟨q+1,aJ (by simp(maxSteps:=9^7) (disch:=try exact dI) only[hB2,hsn,push_cast,seval]),by omega,by omega⟩
 ·have hltI:¬ (q:Int)<w.length:=by omega
  have hle:w.take q=w:=WY (by omega)
  rw[hle]
  generalize w.zipIdx.all (ew 1 w.length)=al at *
  by_cases qn:c=0
  ·by_cases qt:d=0
   ·by_cases ql:e=0
    ·by_cases qx:f=[]
     ·by_cases qc:g=[]
      ·by_cases qe:h.length=0
       ·have qeI:¬ (0:Int)<(h.length:Int):=by omega
        by_cases qm:i.length=0
        ·have qmI:¬ (0:Int)<(i.length:Int):=by omega
         by_cases qk:j.length=0
         ·have qkI:¬ (0:Int)<(j.length:Int):=by omega
          simp(maxSteps:=9^7) (disch:=try exact dI) only[qn,qt,ql,qx,qc,qe,qeI,qm,qmI,qk,qkI,push_cast,seval]
         ·have qkI:(0:Int)<(j.length:Int):=by omega
          simp(maxSteps:=9^7) (disch:=try exact dI) only[qn,qt,ql,qx,qc,qe,qeI,qm,qmI,qk,qkI,push_cast,seval]
        ·have qmI:(0:Int)<(i.length:Int):=by omega
         simp(maxSteps:=9^7) (disch:=try exact dI) only[qn,qt,ql,qx,qc,qe,qeI,qm,qmI,push_cast,seval]
       ·have qeI:(0:Int)<(h.length:Int):=by omega
        simp(maxSteps:=9^7) (disch:=try exact dI) only[qn,qt,ql,qx,qc,qe,qeI,push_cast,seval]
      ·simp(maxSteps:=9^7) (disch:=try exact dI) only[qn,qt,ql,qx,qc,push_cast,seval]
     ·simp(maxSteps:=9^7) (disch:=try exact dI) only[qn,qt,ql,qx,push_cast,seval]
    ·simp(maxSteps:=9^7) (disch:=try exact dI) only[qn,qt,ql,push_cast,seval]
   ·simp(maxSteps:=9^7) (disch:=try exact dI) only[qn,qt,push_cast,seval]
  ·simp(maxSteps:=9^7) (disch:=try exact dI) only[qn,push_cast,seval]
theorem DX (s:Stp)(hs:s.ok)(hk:s.kind=12):ap Tryz.prog aC 94 [s.pv] (.bool (aQ s)):=by
 obtain⟨nm,k,c,d,e,f,g,h,i,j,w⟩:=s
 simp only[Stp.kind] at hk
 subst hk
 have eF:aQ (.mk nm 12 c d e f g h i j w)=(fQ 0 w&&(decide (c=0)&&(decide (d=0)&&(decide (e=0)&&(decide (f=[])&&(decide (g=[])&&(decide (h.length=0)&&(decide (i.length=0)&&(decide (j.length=0)))))))))):=by
  simp only[aQ,Stp.kind,aP,bF,Stp.number,Stp.time,Stp.limit,Stp.text,Stp.schema,Stp.exprs,Stp.mapping,Stp.calls,Stp.branches,XQ,X1,Xv,bn]
  simp
  try (simp only[X5,Ya,XW];try rfl)
 rw[eF]
 clear eF
 have h1:=lj w.length 1 64
 rw[WE] at hs
 have hwl:w.length<=9000000000000:=by have:=hs.2.2.2.2.2.2.2.2.2.2.2.2.2.1;omega
 have hwo:=hs.2.2.2.2.2.2.2.2.2.2.2.2.2.2
 clear hs
 have eW:fQ 0 w=(inR w.length 1 64&&w.zipIdx.all (ew 0 w.length)):=by rw[fQ,Ya];rfl
 rw[eW]
 clear eW
 generalize inR w.length 1 64=a at *
 refine ap.intro Q94.2 (by simp[Q94]) ?_
 simp(maxSteps:=9^7) (disch:=try exact dI) only[Q94,WF,push_cast,seval]
 refine ab.pure h1 rfl ?_
 simp(maxSteps:=9^7) (disch:=try exact dI) only[push_cast,seval]
 refine au ([]) (fun q:Nat=>[(4,.pv (.bool (a&&(w.take q).zipIdx.all (ew 0 w.length)))),(7,.pv (.int .i64 (q:Int)))]) (fun _=>[]) (fun q=>q<=w.length) (fun q=>w.length - q) (0) ?_;intro e0 σ0 n0 h0;simp(maxSteps:=9^7) (disch:=try exact dI) only[push_cast,seval] at h0;obtain⟨rfl,rfl,rfl⟩:=h0;refine⟨?_,?_,?_⟩
 ·simp(maxSteps:=9^7) (disch:=try exact dI) only[Xy,List.zipIdx_nil,XM,XJ,push_cast,seval]
 ·omega
 intro q hq
 by_cases hlt:q<w.length
 ·have hltI:(q:Int)<w.length:=by omega
  obtain⟨x,hx⟩:∃ x,w[q]? = some x:=⟨_,WT hlt⟩
  have hxo:=hwo x (WV hx)
  have hsn:(a&&(w.take (q+1)).zipIdx.all (ew 0 w.length))=((a&&(w.take q).zipIdx.all (ew 0 w.length))&&ew 0 w.length (x,q)):=by rw[fg (ew 0 w.length) hx,X5]
  generalize hB2:(a&&(w.take (q+1)).zipIdx.all (ew 0 w.length))=B2 at *
  generalize (a&&(w.take q).zipIdx.all (ew 0 w.length))=B at *
  obtain⟨x1,x2⟩:=x
  rw[Wg] at hxo
  have hx1:x1.length<=9000000000000:=by omega
  cases B with
  | false=>
    rw[XR] at hsn
    simp(maxSteps:=9^7) (disch:=try exact dI) only[hx,Wh,push_cast,seval]
    exact⟨q+1,aJ (by simp(maxSteps:=9^7) (disch:=try exact dI) only[hB2,hsn,push_cast,seval]),by omega,by omega⟩
  | true=>
    rw[Xv] at hsn
    by_cases h0c:x1.length=0
    ·have h0I:(x1.length:Int)=0:=by omega
     have hg:ew 0 w.length (Bra.mk x1 x2,q)=true:=by simp[ew,Bra.when,bn,h0c];try omega
     rw[hg] at hsn
     simp(maxSteps:=9^7) (disch:=try exact dI) only[hx,Wh,h0I,push_cast,seval]
     exact⟨q+1,aJ (by simp(maxSteps:=9^7) (disch:=try exact dI) only[hB2,hsn,push_cast,seval]),by omega,by omega⟩
    ·have h0I:¬ (x1.length:Int)=0:=by omega
     have hg:ew 0 w.length (Bra.mk x1 x2,q)=false:=by simp[ew,Bra.when,bn,h0c];try omega
     rw[hg] at hsn
     simp(maxSteps:=9^7) (disch:=try exact dI) only[hx,Wh,h0I,push_cast,seval]
     exact⟨q+1,aJ (by simp(maxSteps:=9^7) (disch:=try exact dI) only[hB2,hsn,push_cast,seval]),by omega,by omega⟩
 ·have hltI:¬ (q:Int)<w.length:=by omega
  have hle:w.take q=w:=WY (by omega)
  rw[hle]
  generalize w.zipIdx.all (ew 0 w.length)=al at *
  by_cases qn:c=0
  ·by_cases qt:d=0
   ·by_cases ql:e=0
    ·by_cases qx:f=[]
     ·by_cases qc:g=[]
      ·by_cases qe:h.length=0
       ·have qeI:¬ (0:Int)<(h.length:Int):=by omega
        by_cases qm:i.length=0
        ·have qmI:¬ (0:Int)<(i.length:Int):=by omega
         by_cases qk:j.length=0
         ·have qkI:¬ (0:Int)<(j.length:Int):=by omega
          simp(maxSteps:=9^7) (disch:=try exact dI) only[qn,qt,ql,qx,qc,qe,qeI,qm,qmI,qk,qkI,push_cast,seval]
         ·have qkI:(0:Int)<(j.length:Int):=by omega
          simp(maxSteps:=9^7) (disch:=try exact dI) only[qn,qt,ql,qx,qc,qe,qeI,qm,qmI,qk,qkI,push_cast,seval]
        ·have qmI:(0:Int)<(i.length:Int):=by omega
         simp(maxSteps:=9^7) (disch:=try exact dI) only[qn,qt,ql,qx,qc,qe,qeI,qm,qmI,push_cast,seval]
       ·have qeI:(0:Int)<(h.length:Int):=by omega
        simp(maxSteps:=9^7) (disch:=try exact dI) only[qn,qt,ql,qx,qc,qe,qeI,push_cast,seval]
      ·simp(maxSteps:=9^7) (disch:=try exact dI) only[qn,qt,ql,qx,qc,push_cast,seval]
     ·simp(maxSteps:=9^7) (disch:=try exact dI) only[qn,qt,ql,qx,push_cast,seval]
    ·simp(maxSteps:=9^7) (disch:=try exact dI) only[qn,qt,ql,push_cast,seval]
   ·simp(maxSteps:=9^7) (disch:=try exact dI) only[qn,qt,push_cast,seval]
  ·simp(maxSteps:=9^7) (disch:=try exact dI) only[qn,push_cast,seval]
