/- A part. -/
import Derived.Test.YtngchmkoadaecaaGreatDoorPbJN4
set_option linter.unusedVariables false
set_option linter.unusedSimpArgs false
set_option maxHeartbeats 16000000
set_option maxRecDepth 100000
open Bool renaming false_or->XQ,true_and->Xv,true_or->X1,and_assoc->X5,and_comm->Ya,and_left_comm->XW
namespace Go.Proofs.YtngchmkoadaecaaGreatDoor
open Go Go.Ab
def cL (s:Stp):Bool:=aP false false false false false false false false s
theorem bn {α:Type}(l:List α):l.isEmpty=decide (l.length=0):=by cases l<;>simp
theorem JG (s:Stp):ap Tryz.prog aC 108 [s.pv] (.bool (cL s)):=by
 obtain⟨nm,k,c,d,e,f,g,h,i,j,w⟩:=s
 unfold cL aP
 simp only[Stp.number,Stp.time,Stp.limit,Stp.text,Stp.schema,Stp.exprs,Stp.mapping,Stp.calls,Stp.branches,XQ,bn]
 refine ap.intro Ax.2 (by simp[Ax]) ?_
 have hI:∀ n:Nat,((n:Int)=0)=(n=0):=fun n=>propext ⟨fun h=>by omega,fun h=>by omega⟩
 by_cases h1:c=0
 ·by_cases h2:d=0
  ·by_cases h3:e=0
   ·by_cases h4:f=[]
    ·by_cases h5:g=[]
     ·by_cases h6:h.length=0
      ·by_cases h7:i.length=0
       ·by_cases h8:j.length=0
        ·by_cases h9:w.length=0
         ·simp(maxSteps:=9^7) (disch:=try exact dI) only[Ax,WF,h1,h2,h3,h4,h5,hI,h6,h7,h8,h9,push_cast,seval]
         ·simp(maxSteps:=9^7) (disch:=try exact dI) only[Ax,WF,h1,h2,h3,h4,h5,hI,h6,h7,h8,h9,push_cast,seval]
        ·simp(maxSteps:=9^7) (disch:=try exact dI) only[Ax,WF,h1,h2,h3,h4,h5,hI,h6,h7,h8,push_cast,seval]
       ·simp(maxSteps:=9^7) (disch:=try exact dI) only[Ax,WF,h1,h2,h3,h4,h5,hI,h6,h7,push_cast,seval]
      ·simp(maxSteps:=9^7) (disch:=try exact dI) only[Ax,WF,h1,h2,h3,h4,h5,hI,h6,push_cast,seval]
     ·simp(maxSteps:=9^7) (disch:=try exact dI) only[Ax,WF,h1,h2,h3,h4,h5,push_cast,seval]
    ·simp(maxSteps:=9^7) (disch:=try exact dI) only[Ax,WF,h1,h2,h3,h4,push_cast,seval]
   ·simp(maxSteps:=9^7) (disch:=try exact dI) only[Ax,WF,h1,h2,h3,push_cast,seval]
  ·simp(maxSteps:=9^7) (disch:=try exact dI) only[Ax,WF,h1,h2,push_cast,seval]
 ·simp(maxSteps:=9^7) (disch:=try exact dI) only[Ax,WF,h1,push_cast,seval]
def ew (c:Nat)(m:Nat)(q:Bra×Nat):Bool:=decide (q.1.when.length=c)||(decide (q.2+1=m)&&q.1.when.isEmpty)
theorem fg {α:Type}(P:α×Nat->Bool){l:List α}{i:Nat}{x:α}(h:l[i]? = some x):((l.take (i+1)).zipIdx.all P)=((l.take i).zipIdx.all P&&P (x,i)):=by
 have hm:i<l.length:=(List.getElem?_eq_some_iff.1 h).1
 have hl:(l.take i).length=i:=by rw[List.length_take];omega
 rw[aE h,List.zipIdx_append,List.all_append]
 simp[hl]
theorem Ll {α:Type}(P:α×Nat->Bool){l:List α}{i:Nat}{x:α}(h:l[i]? = some x)(hb:P (x,i)=false):l.zipIdx.all P=false:=by
 rw[List.all_eq_false]
 exact⟨(x,i),List.mem_zipIdx_iff_getElem?.2 (by simpa using h),by rw[hb];simp⟩
theorem mC (s:Stp)(c:Nat)(hs:s.ok):ap Tryz.prog aC 79 [s.pv,.int .i64 c] (.bool (fQ c s.branches)):=by
 have h1:=Ar s.branches.length 1 64
 unfold fQ
 change ap _ _ _ _ (.bool (s.branches.zipIdx.all (ew c s.branches.length)&&inR s.branches.length 1 64))
 generalize inR s.branches.length 1 64=a at *
 obtain⟨nm,k,c0,d,e,f,g,h,i,j,w⟩:=s
 rw[WE] at hs
 have hwl:w.length<=9000000000000:=by have:=hs.2.2.2.2.2.2.2.2.2.2.2.2.2.1;omega
 have hwo:=hs.2.2.2.2.2.2.2.2.2.2.2.2.2.2
 clear hs
 simp only[Stp.branches] at h1 ⊢
 refine ap.intro Q79.2 (by simp[Q79]) ?_
 simp(maxSteps:=9^7) (disch:=try exact dI) only[Q79,WF,push_cast,seval]
 refine au ([]) (fun i:Nat=>[(11,.pv (.int .i64 (i:Int)))]) (fun _=>[]) (fun i=>i<=w.length/\(w.take i).zipIdx.all (ew c w.length)=true) (fun i=>w.length - i) (0) ?_;intro e0 σ0 n0 h0;simp(maxSteps:=9^7) (disch:=try exact dI) only[push_cast,seval] at h0;obtain⟨rfl,rfl,rfl⟩:=h0;refine⟨?_,?_,?_⟩
 ·simp(maxSteps:=9^7) (disch:=try exact dI) only[push_cast,seval]
 ·exact⟨by omega,by simp⟩
 rintro i ⟨hi,hall⟩
 by_cases hlt:i<w.length
 ·have hltI:(i:Int)<w.length:=by omega
  obtain⟨x,hx⟩:∃ x,w[i]? = some x:=⟨_,List.getElem?_eq_getElem hlt⟩
  have hxo:=hwo x (List.mem_of_getElem? hx)
  have hsn:=fg (ew c w.length) hx
  have hbad:=Ll (ew c w.length) hx
  rw[hall,Xv] at hsn
  obtain⟨x1,x2⟩:=x
  rw[Wg] at hxo
  have hx1:x1.length<=9000000000000:=by omega
  by_cases hc:x1.length=c
  ·have hcI:(x1.length:Int)=(c:Int):=by omega
   have hg:ew c w.length (Bra.mk x1 x2,i)=true:=by simp[ew,Bra.when,hc]
   rw[hg] at hsn
   by_cases hlast':(i:Int)=(w.length:Int) - 1
   ·have hlast:=eq_true hlast'
    by_cases h0:x1.length=0
    ·have h0I:(x1.length:Int)=0:=by omega
     simp(maxSteps:=9^7) (disch:=try exact dI) only[hx,Wh,hlast,h0I,hcI,push_cast,seval]
     exact⟨i+1,aJ qsZ,⟨by omega,hsn⟩,by omega⟩
    ·have h0I:¬ (x1.length:Int)=0:=by omega
     simp(maxSteps:=9^7) (disch:=try exact dI) only[hx,Wh,hlast,h0I,hcI,push_cast,seval]
     exact⟨i+1,aJ qsZ,⟨by omega,hsn⟩,by omega⟩
   ·have hlast:=eq_false hlast'
    simp(maxSteps:=9^7) (disch:=try exact dI) only[hx,Wh,hlast,hcI,push_cast,seval]
    exact⟨i+1,aJ qsZ,⟨by omega,hsn⟩,by omega⟩
  ·have hcI:¬ (x1.length:Int)=(c:Int):=by omega
   by_cases hlast':(i:Int)=(w.length:Int) - 1
   ·have hlast:=eq_true hlast'
    by_cases h0:x1.length=0
    ·have h0I:(x1.length:Int)=0:=by omega
     have hg:ew c w.length (Bra.mk x1 x2,i)=true:=by simp[ew,Bra.when,bn,h0];omega
     rw[hg] at hsn
     simp(maxSteps:=9^7) (disch:=try exact dI) only[hx,Wh,hlast,h0I,hcI,push_cast,seval]
     exact⟨i+1,aJ qsZ,⟨by omega,hsn⟩,by omega⟩
    ·have h0I:¬ (x1.length:Int)=0:=by omega
     have hb:=hbad (by simp[ew,Bra.when,bn,hc,h0])
     simp(maxSteps:=9^7) (disch:=try exact dI) only[hx,Wh,hlast,h0I,hcI,hb,push_cast,seval]
   ·have hlast:=eq_false hlast'
    have hb:=hbad (by simp[ew,Bra.when,hc];intro q;omega)
    simp(maxSteps:=9^7) (disch:=try exact dI) only[hx,Wh,hlast,hcI,hb,push_cast,seval]
 ·have hltI:¬ (i:Int)<w.length:=by omega
  have he:w.take i=w:=List.take_of_length_le (by omega)
  rw[he] at hall
  rw[hall,Xv]
  simp(maxSteps:=9^7) (disch:=try exact dI) only[push_cast,seval]
  refine ab.pure h1 rfl ?_
  simp(maxSteps:=9^7) (disch:=try exact dI) only[push_cast,seval]
theorem MO (s:Stp)(hs:s.ok):ap Tryz.prog aC 78 [s.pv] (.bool (fQ 1 s.branches)):=by
 have h3:=mC s 1 hs
 generalize fQ 1 s.branches=q at *
 obtain⟨nm,k,c,d,e,f,g,h,i,j,w⟩:=s
 simp only[WF] at h3 ⊢
 refine ap.intro Q78.2 (by simp[Q78]) ?_
 simp(maxSteps:=9^7) (disch:=try exact dI) only[Q78,push_cast,seval]
 refine ab.pure h3 rfl ?_
 simp(maxSteps:=9^7) (disch:=try exact dI) only[push_cast,seval]
theorem MN (s:Stp)(hs:s.ok):ap Tryz.prog aC 80 [s.pv] (.bool (fQ 0 s.branches)):=by
 have h3:=mC s 0 hs
 generalize fQ 0 s.branches=q at *
 obtain⟨nm,k,c,d,e,f,g,h,i,j,w⟩:=s
 simp only[WF] at h3 ⊢
 refine ap.intro Q80.2 (by simp[Q80]) ?_
 simp(maxSteps:=9^7) (disch:=try exact dI) only[Q80,push_cast,seval]
 refine ab.pure h3 rfl ?_
 simp(maxSteps:=9^7) (disch:=try exact dI) only[push_cast,seval]
theorem cI (s:Stp)(c r:Nat)(cs:List PV)(φ:Stp->Stp)(q:Bool)(hs:s.ok)
  (hlook:cD (some .i64) true (.agg [.nilf,.nilf]) (.int .i64 s.kind) (.mp aX)=some (.pv (.tup [.agg [.clo c [] cs,.clo r [] []],.bool true])))
  (hc:Clr c cs φ) (hr:ap Tryz.prog aC r [s.pv] (.bool q)):bz Tryz.prog aC 1 88 [.pv s.pv,.mp 0] [.mp aX] (.pv (.bool (q&&cL (φ s)))) [.mp aX]:=by
 have hcall:=hc s
 have he:=JG (φ s)
 generalize φ s=s' at *
 generalize cL s'=b at *
 generalize aX=L at *
 obtain⟨nm,k,c0,d,e,f,g,h,i,j,w⟩:=s
 obtain⟨nm',k',c0',d',e',f',g',h',i',j',w'⟩:=s'
 simp only[Stp.kind] at hlook
 simp only[WF,aY] at hcall he hr ⊢
 refine bz.intro Q88.2 (by simp[Q88]) ?_
 simp(maxSteps:=9^7) (disch:=try exact dI) only[Q88,hlook,bj,cG,push_cast,seval]
 refine ab.pure hr rfl ?_
 cases q with
 | false=>
   simp(maxSteps:=9^7) (disch:=try exact dI) only[bj,cG,push_cast,seval]
   exact aH [] (by simp(maxSteps:=9^7) (disch:=try exact dI) only[bj,cG,push_cast,seval])
 | true=>
   simp(maxSteps:=9^7) (disch:=try exact dI) only[bj,cG,push_cast,seval]
   refine ab.lentK hcall [1] rfl (by simp(maxSteps:=9^7) (disch:=try exact dI) only[bj,cG,push_cast,seval]) (by simp(maxSteps:=9^7) (disch:=try exact dI) only[bj,cG,push_cast,seval]) ?_
   simp(maxSteps:=9^7) (disch:=try exact dI) only[bj,cG,push_cast,seval]
   refine ab.pure he rfl ?_
   simp(maxSteps:=9^7) (disch:=try exact dI) only[bj,cG,push_cast,seval]
   exact aH [] (by simp(maxSteps:=9^7) (disch:=try exact dI) only[bj,cG,push_cast,seval])
theorem Oo (s:Stp)(h:¬ (1<=s.kind/\s.kind<=14)):bz Tryz.prog aC 1 88 [.pv s.pv,.mp 0] [.mp aX] (.pv (.bool false)) [.mp aX]:=by
 have hlook:=G4 s.kind h
 generalize aX=L at *
 obtain⟨nm,k,c0,d,e,f,g,h,i,j,w⟩:=s
 simp only[Stp.kind] at hlook
 refine bz.intro Q88.2 (by simp[Q88]) ?_
 simp(maxSteps:=9^7) (disch:=try exact dI) only[Q88,hlook,WF,bj,cG,push_cast,seval]
 exact aH [] (by simp(maxSteps:=9^7) (disch:=try exact dI) only[bj,cG,push_cast,seval])
theorem Jq (s:Stp)(hs:s.ok)(hk:s.kind=1):ap Tryz.prog aC 94 [s.pv] (.bool (aQ s)):=by
 obtain⟨nm,k,c,d,e,f,g,h,i,j,w⟩:=s
 simp only[Stp.kind] at hk
 subst hk
 have eF:aQ (.mk nm 1 c d e f g h i j w)=((decide (h.length=1)&&cf f)&&(decide (c=0)&&(decide (d=0)&&(decide (e=0)&&(decide (g=[])&&(decide (i.length=0)&&(decide (j.length=0)&&(decide (w.length=0))))))))):=by
  simp only[aQ,Stp.kind,aP,bF,Stp.number,Stp.time,Stp.limit,Stp.text,Stp.schema,Stp.exprs,Stp.mapping,Stp.calls,Stp.branches,XQ,X1,Xv,bn]
  simp
  try (simp only[X5,Ya,XW];try rfl)
 rw[eF]
 clear eF
 have h1:=oi f
 generalize cf f=rb at *
 refine ap.intro Q94.2 (by simp[Q94]) ?_
 by_cases hl:h.length=1
 ·have hI:(h.length:Int)=1:=by omega
  simp(maxSteps:=9^7) (disch:=try exact dI) only[Q94,WF,hI,push_cast,seval]
  refine ab.pure h1 rfl ?_
  by_cases qn:c=0
  ·by_cases qt:d=0
   ·by_cases ql:e=0
    ·by_cases qc:g=[]
     ·by_cases qm:i.length=0
      ·have qmI:¬ (0:Int)<(i.length:Int):=by omega
       by_cases qk:j.length=0
       ·have qkI:¬ (0:Int)<(j.length:Int):=by omega
        by_cases qb:w.length=0
        ·have qbI:¬ (0:Int)<(w.length:Int):=by omega
         simp(maxSteps:=9^7) (disch:=try exact dI) only[hl,hI,qn,qt,ql,qc,qm,qmI,qk,qkI,qb,qbI,push_cast,seval]
        ·have qbI:(0:Int)<(w.length:Int):=by omega
         simp(maxSteps:=9^7) (disch:=try exact dI) only[hl,hI,qn,qt,ql,qc,qm,qmI,qk,qkI,qb,qbI,push_cast,seval]
       ·have qkI:(0:Int)<(j.length:Int):=by omega
        simp(maxSteps:=9^7) (disch:=try exact dI) only[hl,hI,qn,qt,ql,qc,qm,qmI,qk,qkI,push_cast,seval]
      ·have qmI:(0:Int)<(i.length:Int):=by omega
       simp(maxSteps:=9^7) (disch:=try exact dI) only[hl,hI,qn,qt,ql,qc,qm,qmI,push_cast,seval]
     ·simp(maxSteps:=9^7) (disch:=try exact dI) only[hl,hI,qn,qt,ql,qc,push_cast,seval]
    ·simp(maxSteps:=9^7) (disch:=try exact dI) only[hl,hI,qn,qt,ql,push_cast,seval]
   ·simp(maxSteps:=9^7) (disch:=try exact dI) only[hl,hI,qn,qt,push_cast,seval]
  ·simp(maxSteps:=9^7) (disch:=try exact dI) only[hl,hI,qn,push_cast,seval]
 ·have hI:¬ (h.length:Int)=1:=by omega
  simp(maxSteps:=9^7) (disch:=try exact dI) only[Q94,WF,hI,push_cast,seval]
  by_cases qn:c=0
  ·by_cases qt:d=0
   ·by_cases ql:e=0
    ·by_cases qc:g=[]
     ·by_cases qm:i.length=0
      ·have qmI:¬ (0:Int)<(i.length:Int):=by omega
       by_cases qk:j.length=0
       ·have qkI:¬ (0:Int)<(j.length:Int):=by omega
        by_cases qb:w.length=0
        ·have qbI:¬ (0:Int)<(w.length:Int):=by omega
         simp(maxSteps:=9^7) (disch:=try exact dI) only[hl,hI,qn,qt,ql,qc,qm,qmI,qk,qkI,qb,qbI,push_cast,seval]
        ·have qbI:(0:Int)<(w.length:Int):=by omega
         simp(maxSteps:=9^7) (disch:=try exact dI) only[hl,hI,qn,qt,ql,qc,qm,qmI,qk,qkI,qb,qbI,push_cast,seval]
       ·have qkI:(0:Int)<(j.length:Int):=by omega
        simp(maxSteps:=9^7) (disch:=try exact dI) only[hl,hI,qn,qt,ql,qc,qm,qmI,qk,qkI,push_cast,seval]
      ·have qmI:(0:Int)<(i.length:Int):=by omega
       simp(maxSteps:=9^7) (disch:=try exact dI) only[hl,hI,qn,qt,ql,qc,qm,qmI,push_cast,seval]
     ·simp(maxSteps:=9^7) (disch:=try exact dI) only[hl,hI,qn,qt,ql,qc,push_cast,seval]
    ·simp(maxSteps:=9^7) (disch:=try exact dI) only[hl,hI,qn,qt,ql,push_cast,seval]
   ·simp(maxSteps:=9^7) (disch:=try exact dI) only[hl,hI,qn,qt,push_cast,seval]
  ·simp(maxSteps:=9^7) (disch:=try exact dI) only[hl,hI,qn,push_cast,seval]
theorem Jp (s:Stp)(hs:s.ok)(hk:s.kind=2):ap Tryz.prog aC 94 [s.pv] (.bool (aQ s)):=by
 obtain⟨nm,k,c,d,e,f,g,h,i,j,w⟩:=s
 simp only[Stp.kind] at hk
 subst hk
 have eF:aQ (.mk nm 2 c d e f g h i j w)=((!decide (g=[]))&&(decide (c=0)&&(decide (d=0)&&(decide (e=0)&&(decide (f=[])&&(decide (h.length=0)&&(decide (j.length=0)&&(decide (w.length=0))))))))):=by
  simp only[aQ,Stp.kind,aP,bF,Stp.number,Stp.time,Stp.limit,Stp.text,Stp.schema,Stp.exprs,Stp.mapping,Stp.calls,Stp.branches,XQ,X1,Xv,bn]
  simp
  try (simp only[X5,Ya,XW];try rfl)
 rw[eF]
 clear eF
 refine ap.intro Q94.2 (by simp[Q94]) ?_
 by_cases hg:g=[]
 ·simp(maxSteps:=9^7) (disch:=try exact dI) only[Q94,WF,hg,push_cast,seval]
  by_cases qn:c=0
  ·by_cases qt:d=0
   ·by_cases ql:e=0
    ·by_cases qx:f=[]
     ·by_cases qe:h.length=0
      ·have qeI:¬ (0:Int)<(h.length:Int):=by omega
       by_cases qk:j.length=0
       ·have qkI:¬ (0:Int)<(j.length:Int):=by omega
        by_cases qb:w.length=0
        ·have qbI:¬ (0:Int)<(w.length:Int):=by omega
         simp(maxSteps:=9^7) (disch:=try exact dI) only[hg,qn,qt,ql,qx,qe,qeI,qk,qkI,qb,qbI,push_cast,seval]
        ·have qbI:(0:Int)<(w.length:Int):=by omega
         simp(maxSteps:=9^7) (disch:=try exact dI) only[hg,qn,qt,ql,qx,qe,qeI,qk,qkI,qb,qbI,push_cast,seval]
       ·have qkI:(0:Int)<(j.length:Int):=by omega
        simp(maxSteps:=9^7) (disch:=try exact dI) only[hg,qn,qt,ql,qx,qe,qeI,qk,qkI,push_cast,seval]
      ·have qeI:(0:Int)<(h.length:Int):=by omega
       simp(maxSteps:=9^7) (disch:=try exact dI) only[hg,qn,qt,ql,qx,qe,qeI,push_cast,seval]
     ·simp(maxSteps:=9^7) (disch:=try exact dI) only[hg,qn,qt,ql,qx,push_cast,seval]
    ·simp(maxSteps:=9^7) (disch:=try exact dI) only[hg,qn,qt,ql,push_cast,seval]
   ·simp(maxSteps:=9^7) (disch:=try exact dI) only[hg,qn,qt,push_cast,seval]
  ·simp(maxSteps:=9^7) (disch:=try exact dI) only[hg,qn,push_cast,seval]
 ·simp(maxSteps:=9^7) (disch:=try exact dI) only[Q94,WF,hg,push_cast,seval]
  by_cases qn:c=0
  ·by_cases qt:d=0
   ·by_cases ql:e=0
    ·by_cases qx:f=[]
     ·by_cases qe:h.length=0
      ·have qeI:¬ (0:Int)<(h.length:Int):=by omega
       by_cases qk:j.length=0
       ·have qkI:¬ (0:Int)<(j.length:Int):=by omega
        by_cases qb:w.length=0
        ·have qbI:¬ (0:Int)<(w.length:Int):=by omega
         simp(maxSteps:=9^7) (disch:=try exact dI) only[hg,qn,qt,ql,qx,qe,qeI,qk,qkI,qb,qbI,push_cast,seval]
        ·have qbI:(0:Int)<(w.length:Int):=by omega
         simp(maxSteps:=9^7) (disch:=try exact dI) only[hg,qn,qt,ql,qx,qe,qeI,qk,qkI,qb,qbI,push_cast,seval]
       ·have qkI:(0:Int)<(j.length:Int):=by omega
        simp(maxSteps:=9^7) (disch:=try exact dI) only[hg,qn,qt,ql,qx,qe,qeI,qk,qkI,push_cast,seval]
      ·have qeI:(0:Int)<(h.length:Int):=by omega
       simp(maxSteps:=9^7) (disch:=try exact dI) only[hg,qn,qt,ql,qx,qe,qeI,push_cast,seval]
     ·simp(maxSteps:=9^7) (disch:=try exact dI) only[hg,qn,qt,ql,qx,push_cast,seval]
    ·simp(maxSteps:=9^7) (disch:=try exact dI) only[hg,qn,qt,ql,push_cast,seval]
   ·simp(maxSteps:=9^7) (disch:=try exact dI) only[hg,qn,qt,push_cast,seval]
  ·simp(maxSteps:=9^7) (disch:=try exact dI) only[hg,qn,push_cast,seval]
theorem Jo (s:Stp)(hs:s.ok)(hk:s.kind=3):ap Tryz.prog aC 94 [s.pv] (.bool (aQ s)):=by
 obtain⟨nm,k,c,d,e,f,g,h,i,j,w⟩:=s
 simp only[Stp.kind] at hk
 subst hk
 have eF:aQ (.mk nm 3 c d e f g h i j w)=((!decide (f=[])&&!decide (g=[]))&&(decide (c=0)&&(decide (d=0)&&(decide (e=0)&&(decide (h.length=0)&&(decide (j.length=0)&&(decide (w.length=0)))))))):=by
  simp only[aQ,Stp.kind,aP,bF,Stp.number,Stp.time,Stp.limit,Stp.text,Stp.schema,Stp.exprs,Stp.mapping,Stp.calls,Stp.branches,XQ,X1,Xv,bn]
  simp
  try (simp only[X5,Ya,XW];try rfl)
 rw[eF]
 clear eF
 refine ap.intro Q94.2 (by simp[Q94]) ?_
 by_cases hf:f=[]
 ·simp(maxSteps:=9^7) (disch:=try exact dI) only[Q94,WF,hf,push_cast,seval]
  by_cases qn:c=0
  ·by_cases qt:d=0
   ·by_cases ql:e=0
    ·by_cases qe:h.length=0
     ·have qeI:¬ (0:Int)<(h.length:Int):=by omega
      by_cases qk:j.length=0
      ·have qkI:¬ (0:Int)<(j.length:Int):=by omega
       by_cases qb:w.length=0
       ·have qbI:¬ (0:Int)<(w.length:Int):=by omega
        simp(maxSteps:=9^7) (disch:=try exact dI) only[hf,qn,qt,ql,qe,qeI,qk,qkI,qb,qbI,push_cast,seval]
       ·have qbI:(0:Int)<(w.length:Int):=by omega
        simp(maxSteps:=9^7) (disch:=try exact dI) only[hf,qn,qt,ql,qe,qeI,qk,qkI,qb,qbI,push_cast,seval]
      ·have qkI:(0:Int)<(j.length:Int):=by omega
       simp(maxSteps:=9^7) (disch:=try exact dI) only[hf,qn,qt,ql,qe,qeI,qk,qkI,push_cast,seval]
     ·have qeI:(0:Int)<(h.length:Int):=by omega
      simp(maxSteps:=9^7) (disch:=try exact dI) only[hf,qn,qt,ql,qe,qeI,push_cast,seval]
    ·simp(maxSteps:=9^7) (disch:=try exact dI) only[hf,qn,qt,ql,push_cast,seval]
   ·simp(maxSteps:=9^7) (disch:=try exact dI) only[hf,qn,qt,push_cast,seval]
  ·simp(maxSteps:=9^7) (disch:=try exact dI) only[hf,qn,push_cast,seval]
 ·by_cases hg:g=[]
  ·simp(maxSteps:=9^7) (disch:=try exact dI) only[Q94,WF,hf,hg,push_cast,seval]
   by_cases qn:c=0
   ·by_cases qt:d=0
    ·by_cases ql:e=0
     ·by_cases qe:h.length=0
      ·have qeI:¬ (0:Int)<(h.length:Int):=by omega
       by_cases qk:j.length=0
       ·have qkI:¬ (0:Int)<(j.length:Int):=by omega
        by_cases qb:w.length=0
        ·have qbI:¬ (0:Int)<(w.length:Int):=by omega
         simp(maxSteps:=9^7) (disch:=try exact dI) only[hf,hg,qn,qt,ql,qe,qeI,qk,qkI,qb,qbI,push_cast,seval]
        ·have qbI:(0:Int)<(w.length:Int):=by omega
         simp(maxSteps:=9^7) (disch:=try exact dI) only[hf,hg,qn,qt,ql,qe,qeI,qk,qkI,qb,qbI,push_cast,seval]
       ·have qkI:(0:Int)<(j.length:Int):=by omega
        simp(maxSteps:=9^7) (disch:=try exact dI) only[hf,hg,qn,qt,ql,qe,qeI,qk,qkI,push_cast,seval]
      ·have qeI:(0:Int)<(h.length:Int):=by omega
       simp(maxSteps:=9^7) (disch:=try exact dI) only[hf,hg,qn,qt,ql,qe,qeI,push_cast,seval]
     ·simp(maxSteps:=9^7) (disch:=try exact dI) only[hf,hg,qn,qt,ql,push_cast,seval]
    ·simp(maxSteps:=9^7) (disch:=try exact dI) only[hf,hg,qn,qt,push_cast,seval]
   ·simp(maxSteps:=9^7) (disch:=try exact dI) only[hf,hg,qn,push_cast,seval]
  ·simp(maxSteps:=9^7) (disch:=try exact dI) only[Q94,WF,hf,hg,push_cast,seval]
   by_cases qn:c=0
   ·by_cases qt:d=0
    ·by_cases ql:e=0
     ·by_cases qe:h.length=0
      ·have qeI:¬ (0:Int)<(h.length:Int):=by omega
       by_cases qk:j.length=0
       ·have qkI:¬ (0:Int)<(j.length:Int):=by omega
        by_cases qb:w.length=0
        ·have qbI:¬ (0:Int)<(w.length:Int):=by omega
         simp(maxSteps:=9^7) (disch:=try exact dI) only[hf,hg,qn,qt,ql,qe,qeI,qk,qkI,qb,qbI,push_cast,seval]
        ·have qbI:(0:Int)<(w.length:Int):=by omega
         simp(maxSteps:=9^7) (disch:=try exact dI) only[hf,hg,qn,qt,ql,qe,qeI,qk,qkI,qb,qbI,push_cast,seval]
       ·have qkI:(0:Int)<(j.length:Int):=by omega
        simp(maxSteps:=9^7) (disch:=try exact dI) only[hf,hg,qn,qt,ql,qe,qeI,qk,qkI,push_cast,seval]
      ·have qeI:(0:Int)<(h.length:Int):=by omega
       simp(maxSteps:=9^7) (disch:=try exact dI) only[hf,hg,qn,qt,ql,qe,qeI,push_cast,seval]
     ·simp(maxSteps:=9^7) (disch:=try exact dI) only[hf,hg,qn,qt,ql,push_cast,seval]
    ·simp(maxSteps:=9^7) (disch:=try exact dI) only[hf,hg,qn,qt,push_cast,seval]
   ·simp(maxSteps:=9^7) (disch:=try exact dI) only[hf,hg,qn,push_cast,seval]
