/- A part. -/
import Derived.Test.YtngchmkoadaecaaGreatDoorClJN2
set_option linter.unusedVariables false
set_option linter.unusedSimpArgs false
set_option maxHeartbeats 16000000
set_option maxRecDepth 100000
open List renaming getElem?_eq_some_iff->Ur,getElem?_eq_getElem->Uq
namespace Go.Proofs.YtngchmkoadaecaaGreatDoor
open Go Go.Ab
def cx (s:Stp):Bool:=bj false false false false false false false false s
theorem rk {α:Type}(l:List α):l.isEmpty=decide (l.length=0):=by cases l<;>simp
theorem HB (s:Stp):ap Tryz.prog aB 108 [s.pv] (.bool (cx s)):=by
 obtain⟨nm,k,c,d,e,f,g,h,i,j,w⟩:=s
 unfold cx bj
 simp only[Stp.number,Stp.time,Stp.limit,Stp.text,Stp.schema,Stp.exprs,Stp.mapping,Stp.calls,Stp.branches,Bool.false_or,rk]
 refine ap.intro xX.2 (by simp[xX]) ?_
 have hI:∀ n:Nat,((n:Int)=0)=(n=0):=fun n=>propext ⟨fun h=>by omega,fun h=>by omega⟩
 by_cases h1:c=0
 ·by_cases h2:d=0
  ·by_cases h3:e=0
   ·by_cases h4:f=[]
    ·by_cases h5:g=[]
     ·by_cases h6:h.length=0
      ·by_cases h7:i.length=0
       ·by_cases h8:j.length=0
        ·by_cases h9:w.length=0
         ·simp(maxSteps:=9^7) (disch:=try exact dI) only[xX,Ud,h1,h2,h3,h4,h5,hI,h6,h7,h8,h9,push_cast,seval]
         ·simp(maxSteps:=9^7) (disch:=try exact dI) only[xX,Ud,h1,h2,h3,h4,h5,hI,h6,h7,h8,h9,push_cast,seval]
        ·simp(maxSteps:=9^7) (disch:=try exact dI) only[xX,Ud,h1,h2,h3,h4,h5,hI,h6,h7,h8,push_cast,seval]
       ·simp(maxSteps:=9^7) (disch:=try exact dI) only[xX,Ud,h1,h2,h3,h4,h5,hI,h6,h7,push_cast,seval]
      ·simp(maxSteps:=9^7) (disch:=try exact dI) only[xX,Ud,h1,h2,h3,h4,h5,hI,h6,push_cast,seval]
     ·simp(maxSteps:=9^7) (disch:=try exact dI) only[xX,Ud,h1,h2,h3,h4,h5,push_cast,seval]
    ·simp(maxSteps:=9^7) (disch:=try exact dI) only[xX,Ud,h1,h2,h3,h4,push_cast,seval]
   ·simp(maxSteps:=9^7) (disch:=try exact dI) only[xX,Ud,h1,h2,h3,push_cast,seval]
  ·simp(maxSteps:=9^7) (disch:=try exact dI) only[xX,Ud,h1,h2,push_cast,seval]
 ·simp(maxSteps:=9^7) (disch:=try exact dI) only[xX,Ud,h1,push_cast,seval]
def D4 (c:Nat)(m:Nat)(q:Bra×Nat):Bool:=decide (q.1.when.length=c)||(decide (q.2+1=m)&&q.1.when.isEmpty)
theorem mX {α:Type}(P:α×Nat->Bool){l:List α}{i:Nat}{x:α}(h:l[i]? = some x):((l.take (i+1)).zipIdx.all P)=((l.take i).zipIdx.all P&&P (x,i)):=by
 have hm:i<l.length:=(Ur.1 h).1
 have hl:(l.take i).length=i:=by rw[List.length_take];omega
 rw[aC h,List.zipIdx_append,List.all_append]
 simp[hl]
theorem Jf {α:Type}(P:α×Nat->Bool){l:List α}{i:Nat}{x:α}(h:l[i]? = some x)(hb:P (x,i)=false):l.zipIdx.all P=false:=by
 rw[List.all_eq_false]
 exact⟨(x,i),List.mem_zipIdx_iff_getElem?.2 (by simpa using h),by rw[hb];simp⟩
theorem lQ (s:Stp)(c:Nat)(hs:s.ok):ap Tryz.prog aB 79 [s.pv,.int .i64 c] (.bool (kv c s.branches)):=by
 have h1:=xQ s.branches.length 1 64
 unfold kv
 change ap _ _ _ _ (.bool (s.branches.zipIdx.all (D4 c s.branches.length)&&inR s.branches.length 1 64))
 generalize inR s.branches.length 1 64=a at *
 obtain⟨nm,k,c0,d,e,f,g,h,i,j,w⟩:=s
 rw[Uc] at hs
 have hwl:w.length<=9000000000000:=by have:=hs.2.2.2.2.2.2.2.2.2.2.2.2.2.1;omega
 have hwo:=hs.2.2.2.2.2.2.2.2.2.2.2.2.2.2
 clear hs
 simp only[Stp.branches] at h1 ⊢
 refine ap.intro Q79.2 (by simp[Q79]) ?_
 simp(maxSteps:=9^7) (disch:=try exact dI) only[Q79,Ud,push_cast,seval]
 refine aw ([]) (fun i:Nat=>[(11,.pv (.int .i64 (i:Int)))]) (fun _=>[]) (fun i=>i<=w.length/\(w.take i).zipIdx.all (D4 c w.length)=true) (fun i=>w.length - i) (0) ?_;intro e0 σ0 n0 h0;simp(maxSteps:=9^7) (disch:=try exact dI) only[push_cast,seval] at h0;obtain⟨rfl,rfl,rfl⟩:=h0;refine⟨?_,?_,?_⟩
 ·simp(maxSteps:=9^7) (disch:=try exact dI) only[push_cast,seval]
 ·exact⟨by omega,by simp⟩
 rintro i ⟨hi,hall⟩
 by_cases hlt:i<w.length
 ·have hltI:(i:Int)<w.length:=by omega
  obtain⟨x,hx⟩:∃ x,w[i]? = some x:=⟨_,Uq hlt⟩
  have hxo:=hwo x (List.mem_of_getElem? hx)
  have hsn:=mX (D4 c w.length) hx
  have hbad:=Jf (D4 c w.length) hx
  rw[hall,Bool.true_and] at hsn
  obtain⟨x1,x2⟩:=x
  rw[TP] at hxo
  have hx1:x1.length<=9000000000000:=by omega
  by_cases hc:x1.length=c
  ·have hcI:(x1.length:Int)=(c:Int):=by omega
   have hg:D4 c w.length (Bra.mk x1 x2,i)=true:=by simp[D4,Bra.when,hc]
   rw[hg] at hsn
   by_cases hlast':(i:Int)=(w.length:Int) - 1
   ·have hlast:=eq_true hlast'
    by_cases h0:x1.length=0
    ·have h0I:(x1.length:Int)=0:=by omega
     simp(maxSteps:=9^7) (disch:=try exact dI) only[hx,TQ,hlast,h0I,hcI,push_cast,seval]
     exact⟨i+1,aN qsZ,⟨by omega,hsn⟩,by omega⟩
    ·have h0I:¬ (x1.length:Int)=0:=by omega
     simp(maxSteps:=9^7) (disch:=try exact dI) only[hx,TQ,hlast,h0I,hcI,push_cast,seval]
     exact⟨i+1,aN qsZ,⟨by omega,hsn⟩,by omega⟩
   ·have hlast:=eq_false hlast'
    simp(maxSteps:=9^7) (disch:=try exact dI) only[hx,TQ,hlast,hcI,push_cast,seval]
    exact⟨i+1,aN qsZ,⟨by omega,hsn⟩,by omega⟩
  ·have hcI:¬ (x1.length:Int)=(c:Int):=by omega
   by_cases hlast':(i:Int)=(w.length:Int) - 1
   ·have hlast:=eq_true hlast'
    by_cases h0:x1.length=0
    ·have h0I:(x1.length:Int)=0:=by omega
     have hg:D4 c w.length (Bra.mk x1 x2,i)=true:=by simp[D4,Bra.when,rk,h0];omega
     rw[hg] at hsn
     simp(maxSteps:=9^7) (disch:=try exact dI) only[hx,TQ,hlast,h0I,hcI,push_cast,seval]
     exact⟨i+1,aN qsZ,⟨by omega,hsn⟩,by omega⟩
    ·have h0I:¬ (x1.length:Int)=0:=by omega
     have hb:=hbad (by simp[D4,Bra.when,rk,hc,h0])
     simp(maxSteps:=9^7) (disch:=try exact dI) only[hx,TQ,hlast,h0I,hcI,hb,push_cast,seval]
   ·have hlast:=eq_false hlast'
    have hb:=hbad (by simp[D4,Bra.when,hc];intro q;omega)
    simp(maxSteps:=9^7) (disch:=try exact dI) only[hx,TQ,hlast,hcI,hb,push_cast,seval]
 ·have hltI:¬ (i:Int)<w.length:=by omega
  have he:w.take i=w:=List.take_of_length_le (by omega)
  rw[he] at hall
  rw[hall,Bool.true_and]
  simp(maxSteps:=9^7) (disch:=try exact dI) only[push_cast,seval]
  refine ab.pure h1 rfl ?_
  simp(maxSteps:=9^7) (disch:=try exact dI) only[push_cast,seval]
theorem KD (s:Stp)(hs:s.ok):ap Tryz.prog aB 78 [s.pv] (.bool (kv 1 s.branches)):=by
 have h3:=lQ s 1 hs
 generalize kv 1 s.branches=q at *
 obtain⟨nm,k,c,d,e,f,g,h,i,j,w⟩:=s
 simp only[Ud] at h3 ⊢
 refine ap.intro Q78.2 (by simp[Q78]) ?_
 simp(maxSteps:=9^7) (disch:=try exact dI) only[Q78,push_cast,seval]
 refine ab.pure h3 rfl ?_
 simp(maxSteps:=9^7) (disch:=try exact dI) only[push_cast,seval]
theorem KC (s:Stp)(hs:s.ok):ap Tryz.prog aB 80 [s.pv] (.bool (kv 0 s.branches)):=by
 have h3:=lQ s 0 hs
 generalize kv 0 s.branches=q at *
 obtain⟨nm,k,c,d,e,f,g,h,i,j,w⟩:=s
 simp only[Ud] at h3 ⊢
 refine ap.intro Q80.2 (by simp[Q80]) ?_
 simp(maxSteps:=9^7) (disch:=try exact dI) only[Q80,push_cast,seval]
 refine ab.pure h3 rfl ?_
 simp(maxSteps:=9^7) (disch:=try exact dI) only[push_cast,seval]
theorem ct (s:Stp)(c r:Nat)(cs:List PV)(φ:Stp->Stp)(q:Bool)(hs:s.ok)
  (hlook:cg (some .i64) true (.agg [.nilf,.nilf]) (.int .i64 s.kind) (.mp aT)=some (.pv (.tup [.agg [.clo c [] cs,.clo r [] []],.bool true])))
  (hc:Clr c cs φ) (hr:ap Tryz.prog aB r [s.pv] (.bool q)):bA Tryz.prog aB 1 88 [.pv s.pv,.mp 0] [.mp aT] (.pv (.bool (q&&cx (φ s)))) [.mp aT]:=by
 have hcall:=hc s
 have he:=HB (φ s)
 generalize φ s=s' at *
 generalize cx s'=b at *
 generalize aT=L at *
 obtain⟨nm,k,c0,d,e,f,g,h,i,j,w⟩:=s
 obtain⟨nm',k',c0',d',e',f',g',h',i',j',w'⟩:=s'
 simp only[Stp.kind] at hlook
 simp only[Ud,eV] at hcall he hr ⊢
 refine bA.intro Q88.2 (by simp[Q88]) ?_
 simp(maxSteps:=9^7) (disch:=try exact dI) only[Q88,hlook,a8,cr,push_cast,seval]
 refine ab.pure hr rfl ?_
 cases q with
 | false=>
   simp(maxSteps:=9^7) (disch:=try exact dI) only[a8,cr,push_cast,seval]
   exact aI [] (by simp(maxSteps:=9^7) (disch:=try exact dI) only[a8,cr,push_cast,seval])
 | true=>
   simp(maxSteps:=9^7) (disch:=try exact dI) only[a8,cr,push_cast,seval]
   refine ab.lentK hcall [1] rfl (by simp(maxSteps:=9^7) (disch:=try exact dI) only[a8,cr,push_cast,seval]) (by simp(maxSteps:=9^7) (disch:=try exact dI) only[a8,cr,push_cast,seval]) ?_
   simp(maxSteps:=9^7) (disch:=try exact dI) only[a8,cr,push_cast,seval]
   refine ab.pure he rfl ?_
   simp(maxSteps:=9^7) (disch:=try exact dI) only[a8,cr,push_cast,seval]
   exact aI [] (by simp(maxSteps:=9^7) (disch:=try exact dI) only[a8,cr,push_cast,seval])
theorem L9 (s:Stp)(h:¬ (1<=s.kind/\s.kind<=14)):bA Tryz.prog aB 1 88 [.pv s.pv,.mp 0] [.mp aT] (.pv (.bool false)) [.mp aT]:=by
 have hlook:=E7 s.kind h
 generalize aT=L at *
 obtain⟨nm,k,c0,d,e,f,g,h,i,j,w⟩:=s
 simp only[Stp.kind] at hlook
 refine bA.intro Q88.2 (by simp[Q88]) ?_
 simp(maxSteps:=9^7) (disch:=try exact dI) only[Q88,hlook,Ud,a8,cr,push_cast,seval]
 exact aI [] (by simp(maxSteps:=9^7) (disch:=try exact dI) only[a8,cr,push_cast,seval])
theorem tc {α:Type}(l:List α)(q:α->Bool):(∃ i x,l[i]? = some x/\l.findIdx? q=some i/\l.find? q=some x)\/(l.findIdx? q=none/\l.find? q=none):=by
 cases h:l.findIdx? q with
 | none=>
   refine .inr ⟨rfl,?_⟩
   rw[List.findIdx?_eq_none_iff] at h
   exact List.find?_eq_none.2 fun x hx=>by simp[h x hx]
 | some i=>
   rw[List.findIdx?_eq_some_iff_getElem] at h
   obtain⟨hlt,hq,hn⟩:=h
   refine .inl ⟨i,l[i],Uq hlt,rfl,?_⟩
   rw[List.find?_eq_some_iff_getElem]
   exact⟨hq,i,hlt,rfl,fun j hj=>by simpa using hn j hj⟩
theorem IV (p:Prg)(nm:List UInt8)(hp:p.ok) :
  (∃ (i:Nat) (x:Enp),p.endpoints[i]? = some x/\epO p nm=some x/\ap Tryz.prog aB 30 [p.pv,.str nm] (.tup [.int .i64 (i:Int),.bool true])) \/
  (epO p nm=none/\ap Tryz.prog aB 30 [p.pv,.str nm] (.tup [.int .i64 0,.bool false])):=by
 have h:=Pc p nm hp
 rcases tc p.endpoints (fun x=>decide (x.name=nm)) with ⟨i,x,h1,h2,h3⟩ | ⟨h2,h3⟩
 ·rw[h2,show max (cj (some i)) 0=(i:Int) by simp[cj];try omega,show mz (some i)=true by simp[mz,cj]] at h
  exact .inl ⟨i,x,h1,h3,h⟩
 ·rw[h2,show max (cj none) 0=0 by simp only[cj];omega,show mz none=false by simp[mz,cj]] at h
  exact .inr ⟨h3,h⟩
theorem JS (p:Prg)(nm:List UInt8)(hp:p.ok) :
  (∃ (i:Nat) (x:Svc),p.services[i]? = some x/\svO p nm=some x/\ap Tryz.prog aB 109 [p.pv,.str nm] (.tup [.int .i64 (i:Int),.bool true])) \/
  (svO p nm=none/\ap Tryz.prog aB 109 [p.pv,.str nm] (.tup [.int .i64 0,.bool false])):=by
 have h:=Pb p nm hp
 rcases tc p.services (fun x=>decide (x.name=nm)) with ⟨i,x,h1,h2,h3⟩ | ⟨h2,h3⟩
 ·rw[h2,show max (cj (some i)) 0=(i:Int) by simp[cj];try omega,show mz (some i)=true by simp[mz,cj]] at h
  exact .inl ⟨i,x,h1,h3,h⟩
 ·rw[h2,show max (cj none) 0=0 by simp only[cj];omega,show mz none=false by simp[mz,cj]] at h
  exact .inr ⟨h3,h⟩
theorem Cj (o:Option Nat):mz o=o.isSome:=by cases o<;>simp[mz,cj]
theorem NJ (p:Prg)(nm:List UInt8)(v:Int)(hp:p.ok):ap Tryz.prog aB 54 [p.pv,.str nm,.int .i64 v] (.tup [.int .i64 (max (cj (p.schemas.findIdx? (vsn nm v))) 0),.bool (m7 p nm v)]):=by
 have h:=EV p nm v hp
 rw[Cj] at h
 exact h
theorem IJ (p:Prg)(nm:List UInt8)(hp:p.ok):ap Tryz.prog aB 55 [p.pv,.str nm] (.tup [.int .i64 (BN (eT p.schemas nm p.schemas.length)),.bool (dN p nm)]):=GJ p nm hp
theorem CK {p:Prg}{nm:List UInt8}{x:Enp}(h:epO p nm=some x):fa p nm=true:=by simp[fa,h]
theorem CL {p:Prg}{nm:List UInt8}(h:epO p nm=none):fa p nm=false:=by simp[fa,h]
theorem IT {p:Prg}{nm:List UInt8}{x:Enp}(h:epO p nm=some x)(k:Int):px p nm k=decide (x.kind=k):=by simp[px,h]
theorem IU {p:Prg}{nm:List UInt8}(h:epO p nm=none)(k:Int):px p nm k=false:=by simp[px,h]
theorem gP {p:Prg}{nm:List UInt8}{x:Svc}(h:svO p nm=some x):ci p nm=true:=by simp[ci,h]
theorem gQ {p:Prg}{nm:List UInt8}(h:svO p nm=none):ci p nm=false:=by simp[ci,h]
theorem kM {p:Prg}{nm:List UInt8}{x:Svc}(h:svO p nm=some x):f8 p nm=!x.undo:=by simp[f8,h]
theorem kN {p:Prg}{nm:List UInt8}(h:svO p nm=none):f8 p nm=false:=by simp[f8,h]
theorem CB {α:Type}{l:List α}{q:α->Bool}{i:Nat}{x:α}(hx:l[i]? = some x)(hq:q x=true)(h:∀ (j:Nat) (x:α),j<i->l[j]? = some x->q x=false):l.find? q=some x:=by
 obtain⟨hlt,he⟩:=Ur.1 hx
 rw[List.find?_eq_some_iff_getElem]
 refine⟨hq,i,hlt,he,fun j hj=>?_⟩
 have:=h j _ hj (Uq (by omega))
 rw[this];rfl
theorem CA {α:Type}{l:List α}{q:α->Bool}(h:∀ (j:Nat) (x:α),j<l.length->l[j]? = some x->q x=false):l.find? q=none:=by
 rw[List.find?_eq_none]
 intro x hx
 obtain⟨j,hj⟩:=List.getElem?_of_mem hx
 rw[h j x (Ur.1 hj).1 hj];simp
def epR:Option Enp->PV
 | some x=>.tup [x.pv,.bool true]
 | none=>.tup [.agg [.str [],.int .i64 0,.str [],.int .i64 0,.int .i64 0,.int .i64 0,.nils],.bool false]
def svR:Option Svc->PV
 | some x=>.tup [x.pv,.bool true]
 | none=>.tup [.agg [.str [],.str [],.str [],.bool false],.bool false]
theorem Pm (p:Prg)(nm:List UInt8)(hp:p.ok):ap Tryz.prog aB 13 [p.pv,.str nm] (epR (epO p nm)):=by
 obtain⟨pv,ps,pe,pw,pr⟩:=p
 rw[T3] at hp
 have hl:pe.length<=9000000000000:=by omega
 unfold epO
 simp only[Prg.endpoints]
 refine ap.intro Q13.2 (by simp[Q13]) ?_
 simp(maxSteps:=9^7) (disch:=try exact dI) only[Q13,T4,push_cast,seval]
 refine aw ([]) (fun i:Nat=>[(6,.pv (.int .i64 (i:Int)))]) (fun _=>[]) (fun i=>i<=pe.length/\∀ j x,j<i->pe[j]? = some x->decide (Enp.name x=nm)=false) (fun i=>pe.length - i) (0) ?_;intro e0 σ0 n0 h0;simp(maxSteps:=9^7) (disch:=try exact dI) only[push_cast,seval] at h0;obtain⟨rfl,rfl,rfl⟩:=h0;refine⟨?_,?_,?_⟩
 ·simp(maxSteps:=9^7) (disch:=try exact dI) only[push_cast,seval]
 ·exact⟨Nat.zero_le _,by omega⟩
 rintro i ⟨hi,hpre⟩
 by_cases hlt:i<pe.length
 ·have hltI:(i:Int)<pe.length:=by omega
  obtain⟨x,hx⟩:∃ x,pe[i]? = some x:=⟨_,Uq hlt⟩
  have hfa:=fun h=>CB (q:=fun x=>decide (Enp.name x=nm)) hx h hpre
  have hnx:decide (Enp.name x=nm)=false->∀ j y,j<i+1->pe[j]? = some y->decide (Enp.name y=nm)=false:=fun hqx j y hj hjy=>by
   rcases Nat.lt_or_ge j i with h | h
   ·exact hpre j y h hjy
   ·have:j=i:=by omega
    subst this
    rw[hx] at hjy;cases hjy;exact hqx
  obtain⟨x1,x2,x3,x4,⟨y1,y2,y3⟩⟩:=x
  by_cases hn:x1=nm
  ·rw[hfa (decide_eq_true hn),epR]
   simp(maxSteps:=9^7) (disch:=try exact dI) only[hx,TU,T1,hn,push_cast,seval]
  ·have hnn:=hnx (decide_eq_false hn)
   simp(maxSteps:=9^7) (disch:=try exact dI) only[hx,TU,T1,hn,push_cast,seval]
   exact⟨i+1,aN qsZ,⟨by omega,hnn⟩,by omega⟩
 ·have hltI:¬ (i:Int)<pe.length:=by omega
  rw[CA (fun j x hj hjx=>hpre j x (by omega) hjx),epR]
  simp(maxSteps:=9^7) (disch:=try exact dI) only[push_cast,seval]
theorem NI (p:Prg)(nm:List UInt8)(hp:p.ok):ap Tryz.prog aB 15 [p.pv,.str nm] (svR (svO p nm)):=by
 obtain⟨pv,ps,pe,pw,pr⟩:=p
 rw[T3] at hp
 have hl:pw.length<=9000000000000:=by omega
 unfold svO
 simp only[Prg.services]
 refine ap.intro Q15.2 (by simp[Q15]) ?_
 simp(maxSteps:=9^7) (disch:=try exact dI) only[Q15,T4,push_cast,seval]
 refine aw ([]) (fun i:Nat=>[(6,.pv (.int .i64 (i:Int)))]) (fun _=>[]) (fun i=>i<=pw.length/\∀ j x,j<i->pw[j]? = some x->decide (Svc.name x=nm)=false) (fun i=>pw.length - i) (0) ?_;intro e0 σ0 n0 h0;simp(maxSteps:=9^7) (disch:=try exact dI) only[push_cast,seval] at h0;obtain⟨rfl,rfl,rfl⟩:=h0;refine⟨?_,?_,?_⟩
 ·simp(maxSteps:=9^7) (disch:=try exact dI) only[push_cast,seval]
 ·exact⟨Nat.zero_le _,by omega⟩
 rintro i ⟨hi,hpre⟩
 by_cases hlt:i<pw.length
 ·have hltI:(i:Int)<pw.length:=by omega
  obtain⟨x,hx⟩:∃ x,pw[i]? = some x:=⟨_,Uq hlt⟩
  have hfa:=fun h=>CB (q:=fun x=>decide (Svc.name x=nm)) hx h hpre
  have hnx:decide (Svc.name x=nm)=false->∀ j y,j<i+1->pw[j]? = some y->decide (Svc.name y=nm)=false:=fun hqx j y hj hjy=>by
   rcases Nat.lt_or_ge j i with h | h
   ·exact hpre j y h hjy
   ·have:j=i:=by omega
    subst this
    rw[hx] at hjy;cases hjy;exact hqx
  obtain⟨x1,x2,x3,x4⟩:=x
  by_cases hn:x1=nm
  ·rw[hfa (decide_eq_true hn),svR]
   simp(maxSteps:=9^7) (disch:=try exact dI) only[hx,Uf,hn,push_cast,seval]
  ·have hnn:=hnx (decide_eq_false hn)
   simp(maxSteps:=9^7) (disch:=try exact dI) only[hx,Uf,hn,push_cast,seval]
   exact⟨i+1,aN qsZ,⟨by omega,hnn⟩,by omega⟩
 ·have hltI:¬ (i:Int)<pw.length:=by omega
  rw[CA (fun j x hj hjx=>hpre j x (by omega) hjx),svR]
  simp(maxSteps:=9^7) (disch:=try exact dI) only[push_cast,seval]
