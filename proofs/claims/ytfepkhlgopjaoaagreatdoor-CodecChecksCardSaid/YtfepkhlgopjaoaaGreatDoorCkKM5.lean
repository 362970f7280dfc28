/- A part of the proof for CodecChecksCardSaid. -/
import Derived.Test.YtfepkhlgopjaoaaGreatDoorCkKGK14
set_option linter.unusedVariables false
set_option linter.unusedSimpArgs false
set_option maxRecDepth 100000
-- many steps
namespace Go.Proofs.YtfepkhlgopjaoaaGreatDoor
open Go Go.Ab
attribute [local irreducible] vc
set_option maxHeartbeats 4000000 in
theorem xM (k s:Int)(w:List Int)(hl:w.length≤9000000000000):aq Tryz.prog aA 12 [(Fmt.mk k s w).pv] (.int .i64 (fR k s w)):=by
 have h30:=nv s
 have hwl:=bO w
 have hc:=lz k s w
 rw[gQ]
 generalize fR k s w=z at *
 obtain⟨L,hL⟩:∃ L,L=gL w:=⟨_,rfl⟩
 rw[← hL] at hwl ⊢
 rcases hc with ⟨h1,rfl⟩ | ⟨h1,h2,rfl⟩ | ⟨h1,h2,h3,h4,rfl⟩ | ⟨h1,h2,h3,h4,h5,rfl⟩ | ⟨rfl,rfl,hb,rfl⟩ | ⟨rfl,rfl,hb,rfl⟩ | ⟨h1,rfl,rfl,rfl⟩ | ⟨rfl,rfl,h1,rfl⟩ | ⟨rfl,rfl,h1,hz⟩
 ·refine aq.intro d6 (by simp[F12]) ?_
  simp(maxSteps:=9^7) (disch:=try exact dI) only[F12,h1,push_cast,seval]
 ·refine aq.intro d6 (by simp[F12]) ?_
  simp(maxSteps:=9^7) (disch:=try exact dI) only[F12,h1,h2,push_cast,seval]
 ·refine aq.intro d6 (by simp[F12]) ?_
  simp(maxSteps:=9^7) (disch:=try exact dI) only[F12,h1,h2,h3,h4,push_cast,seval]
 ·have h4I:(0:Int)<(w.length:Int):=by omega
  rcases h3 with rfl | rfl
  ·refine aq.intro d6 (by simp[F12]) ?_
   by_cases hs:s=0
   ·simp(maxSteps:=9^7) (disch:=try exact dI) only[F12,hs,hwl,h4I,push_cast,seval]
   ·simp(maxSteps:=9^7) (disch:=try exact dI) only[F12,hs,hwl,h4I,push_cast,seval]
  ·refine aq.intro d6 (by simp[F12]) ?_
   simp(maxSteps:=9^7) (disch:=try exact dI) only[F12,h1,h2,h5,hwl,h4I,push_cast,seval]
 ·simp only[List.length_nil] at hwl
  rw[hb] at h30
  refine aq.intro d6 (by simp[F12]) ?_
  by_cases hs:s=0
  ·simp(maxSteps:=9^7) (disch:=try exact dI) only[F12,hs,hwl,push_cast,seval]
   rw[hs] at h30
   refine ab.pure h30 rfl ?_
   simp(maxSteps:=9^7) (disch:=try exact dI) only[push_cast,seval]
  ·simp(maxSteps:=9^7) (disch:=try exact dI) only[F12,hs,hwl,push_cast,seval]
   refine ab.pure h30 rfl ?_
   simp(maxSteps:=9^7) (disch:=try exact dI) only[push_cast,seval]
 ·simp only[List.length_nil] at hwl
  rw[hb] at h30
  refine aq.intro d6 (by simp[F12]) ?_
  by_cases hs:s=0
  ·simp(maxSteps:=9^7) (disch:=try exact dI) only[F12,hs,hwl,push_cast,seval]
   rw[hs] at h30
   refine ab.pure h30 rfl ?_
   simp(maxSteps:=9^7) (disch:=try exact dI) only[push_cast,seval]
   refine aB ([]) (fun i:Nat=>[(3,.pv (.int .i64 (i:Int)))]) (fun _=>[]) (fun i=>i=0) (fun i=>0) (0) ?_;intro e0 σ0 n0 h0;simp(maxSteps:=9^7) (disch:=try exact dI) only[push_cast,seval] at h0;obtain⟨rfl,rfl,rfl⟩:=h0;refine⟨?_,?_,?_⟩
   ·simp(maxSteps:=9^7) (disch:=try exact dI) only[push_cast,seval]
   ·rfl
   rintro i rfl
   simp(maxSteps:=9^7) (disch:=try exact dI) only[hwl,push_cast,seval]
  ·simp(maxSteps:=9^7) (disch:=try exact dI) only[F12,hs,hwl,push_cast,seval]
   refine ab.pure h30 rfl ?_
   simp(maxSteps:=9^7) (disch:=try exact dI) only[push_cast,seval]
   refine aB ([]) (fun i:Nat=>[(3,.pv (.int .i64 (i:Int)))]) (fun _=>[]) (fun i=>i=0) (fun i=>0) (0) ?_;intro e0 σ0 n0 h0;simp(maxSteps:=9^7) (disch:=try exact dI) only[push_cast,seval] at h0;obtain⟨rfl,rfl,rfl⟩:=h0;refine⟨?_,?_,?_⟩
   ·simp(maxSteps:=9^7) (disch:=try exact dI) only[push_cast,seval]
   ·rfl
   rintro i rfl
   simp(maxSteps:=9^7) (disch:=try exact dI) only[hwl,push_cast,seval]
 ·simp only[List.length_nil] at hwl
  refine aq.intro d6 (by simp[F12]) ?_
  rcases h1 with rfl | rfl
  ·simp(maxSteps:=9^7) (disch:=try exact dI) only[F12,hwl,push_cast,seval]
   refine aB ([]) (fun i:Nat=>[(3,.pv (.int .i64 (i:Int)))]) (fun _=>[]) (fun i=>i=0) (fun i=>0) (0) ?_;intro e0 σ0 n0 h0;simp(maxSteps:=9^7) (disch:=try exact dI) only[push_cast,seval] at h0;obtain⟨rfl,rfl,rfl⟩:=h0;refine⟨?_,?_,?_⟩
   ·simp(maxSteps:=9^7) (disch:=try exact dI) only[push_cast,seval]
   ·rfl
   rintro i rfl
   simp(maxSteps:=9^7) (disch:=try exact dI) only[hwl,push_cast,seval]
  ·simp(maxSteps:=9^7) (disch:=try exact dI) only[F12,hwl,push_cast,seval]
   refine aB ([]) (fun i:Nat=>[(3,.pv (.int .i64 (i:Int)))]) (fun _=>[]) (fun i=>i=0) (fun i=>0) (0) ?_;intro e0 σ0 n0 h0;simp(maxSteps:=9^7) (disch:=try exact dI) only[push_cast,seval] at h0;obtain⟨rfl,rfl,rfl⟩:=h0;refine⟨?_,?_,?_⟩
   ·simp(maxSteps:=9^7) (disch:=try exact dI) only[push_cast,seval]
   ·rfl
   rintro i rfl
   simp(maxSteps:=9^7) (disch:=try exact dI) only[hwl,push_cast,seval]
 ·have h1I:(64:Int)<(w.length:Int):=by omega
  have h0I:(0:Int)<(w.length:Int):=by omega
  refine aq.intro d6 (by simp[F12]) ?_
  simp(maxSteps:=9^7) (disch:=try exact dI) only[F12,hwl,h1I,h0I,push_cast,seval]
 ·have h1I:¬ (64:Int)<(w.length:Int):=by omega
  obtain⟨B,hB⟩:∃ B,B=w.any sK:=⟨_,rfl⟩
  rw[← hB] at hz
  subst hz
  refine aq.intro d6 (by simp[F12]) ?_
  have fin:∀ (i:Nat),i=i:=fun _=>rfl
  by_cases h0:(0:Int)<(w.length:Int)
  all_goals
   simp(maxSteps:=9^7) (disch:=try exact dI) only[F12,hwl,h1I,h0,push_cast,seval]
   refine aB ([]) (fun i:Nat=>[(3,.pv (.int .i64 (i:Int)))]) (fun _=>[]) (fun i=>i≤w.length∧B=(w.drop i).any sK) (fun i=>w.length - i) (0) ?_;intro e0 σ0 n0 h0;simp(maxSteps:=9^7) (disch:=try exact dI) only[push_cast,seval] at h0;obtain⟨rfl,rfl,rfl⟩:=h0;refine⟨?_,?_,?_⟩
   ·simp(maxSteps:=9^7) (disch:=try exact dI) only[push_cast,seval]
   ·exact⟨by omega,by simpa using hB⟩
   rintro i ⟨hi,hr⟩
   by_cases hlt:i<w.length
   ·have hltI:(i:Int)<(w.length:Int):=by omega
    obtain⟨x,hx⟩:∃ x,w[i]? = some x:=⟨_,List.getElem?_eq_getElem hlt⟩
    have hx':=jy hx
    rw[← hL] at hx'
    rw[hH hx] at hr
    by_cases c1:x<1
    ·have:B=true:=by rw[hr];simp[sK,c1]
     subst this
     rw[if_pos rfl]
     simp(maxSteps:=9^7) (disch:=try exact dI) only[hwl,hx',c1,push_cast,seval]
    by_cases c2:4096<x
    ·have:B=true:=by rw[hr];simp[sK,c2]
     subst this
     rw[if_pos rfl]
     simp(maxSteps:=9^7) (disch:=try exact dI) only[hwl,hx',c1,c2,push_cast,seval]
    have hb:sK x=false:=by simp[sK,c1,c2]
    rw[hb,Bool.false_or] at hr
    simp(maxSteps:=9^7) (disch:=try exact dI) only[hwl,hx',c1,c2,push_cast,seval]
    exact⟨i+1,bQ qsZ,⟨by omega,hr⟩,by omega⟩
   ·obtain rfl:i=w.length:=by omega
    rw[List.drop_length,List.any_nil] at hr
    subst hr
    rw[if_neg (by decide)]
    simp(maxSteps:=9^7) (disch:=try exact dI) only[hwl,Int.lt_irrefl,push_cast,seval]
noncomputable def HT (nm:List UInt8)(v:Int)(t:Typ):Int:=if cp nm=false then 12 else if inB v 1 999=false then 2 else if ¬ t.kind=9 then 11 else mj t
theorem eQ (nm:List UInt8)(v:Int)(t:Typ)(ht:t.ok):aq Tryz.prog aA 21 [(Sch.mk nm v t).pv] (.int .i64 (HT nm v t)):=by
 have h43:=jn nm
 have h44:=jz v 1 999
 have h41:=nI t ht
 unfold HT
 generalize cp nm=a at *
 generalize inB v 1 999=b at *
 generalize mj t=z at *
 obtain⟨kk,hkk⟩:∃ kk,kk=t.kind:=⟨_,rfl⟩
 rw[← hkk]
 obtain⟨k,m,M,s,w,e,f⟩:=t
 rw[Sch.pv_mk]
 simp only[Typ.kind] at hkk
 subst hkk
 simp only[Typ.pv_mk] at h41 ⊢
 refine aq.intro K3 (by simp[F21]) ?_
 cases a with
 | false=>
   rw[if_pos rfl]
   simp(maxSteps:=9^7) (disch:=try exact dI) only[F21,ae,push_cast,seval]
   refine ab.pure h43 rfl ?_
   simp(maxSteps:=9^7) (disch:=try exact dI) only[push_cast,seval]
 | true=>
   rw[if_neg (by decide)]
   cases b with
   | false=>
     rw[if_pos rfl]
     simp(maxSteps:=9^7) (disch:=try exact dI) only[F21,ae,push_cast,seval]
     refine ab.pure h43 rfl ?_
     simp(maxSteps:=9^7) (disch:=try exact dI) only[push_cast,seval]
     refine ab.pure h44 rfl ?_
     simp(maxSteps:=9^7) (disch:=try exact dI) only[push_cast,seval]
   | true=>
     rw[if_neg (by decide)]
     by_cases hk:kk=9
     ·rw[if_neg (fun q=>q hk)]
      simp(maxSteps:=9^7) (disch:=try exact dI) only[F21,ae,hk,push_cast,seval]
      refine ab.pure h43 rfl ?_
      simp(maxSteps:=9^7) (disch:=try exact dI) only[push_cast,seval]
      refine ab.pure h44 rfl ?_
      simp(maxSteps:=9^7) (disch:=try exact dI) only[hk,push_cast,seval]
      rw[hk] at h41
      refine ab.pure h41 rfl ?_
      simp(maxSteps:=9^7) (disch:=try exact dI) only[push_cast,seval]
     ·rw[if_pos hk]
      simp(maxSteps:=9^7) (disch:=try exact dI) only[F21,ae,hk,push_cast,seval]
      refine ab.pure h43 rfl ?_
      simp(maxSteps:=9^7) (disch:=try exact dI) only[push_cast,seval]
      refine ab.pure h44 rfl ?_
      simp(maxSteps:=9^7) (disch:=try exact dI) only[hk,push_cast,seval]
noncomputable def IP (t:Typ)(n:Int):Int:=if fj n=false then 2 else if ¬ mj t=0 then 18 else if fP t=false then 18 else 0
theorem Dv (t:Typ)(n:Int)(ht:t.ok):aq Tryz.prog aA 33 [t.pv,.int .i64 n] (.int .i64 (IP t n)):=by
 have h30:=nv n
 have h41:=nI t ht
 have h59:=DL t (by obtain⟨k,m,M,s,w,e,f⟩:=t;rw[Typ.ok_mk] at ht;simp only[Typ.fields];omega)
 simp only[IP]
 generalize fj n=b at *
 generalize mj t=z at *
 generalize fP t=q at *
 obtain⟨k,m,M,s,w,e,f⟩:=t
 simp only[Typ.pv_mk] at h41 h59 ⊢
 refine aq.intro KU (by simp[F33]) ?_
 cases b with
 | false=>
   simp(maxSteps:=9^7) (disch:=try exact dI) only[F33,push_cast,seval]
   refine ab.pure h30 rfl ?_
   simp(maxSteps:=9^7) (disch:=try exact dI) only[push_cast,seval]
 | true=>
 rw[if_neg (show ¬ true=false by decide)]
 by_cases hz:z=0
 ·subst hz
  rw[if_neg (show ¬ ¬ (0:Int)=0 by decide)]
  simp(maxSteps:=9^7) (disch:=try exact dI) only[F33,push_cast,seval]
  refine ab.pure h30 rfl ?_
  simp(maxSteps:=9^7) (disch:=try exact dI) only[push_cast,seval]
  refine ab.pure h41 rfl ?_
  simp(maxSteps:=9^7) (disch:=try exact dI) only[push_cast,seval]
  refine ab.pure h59 rfl ?_
  cases q with
  | false=>simp(maxSteps:=9^7) (disch:=try exact dI) only[push_cast,seval]
  | true=>simp(maxSteps:=9^7) (disch:=try exact dI) only[push_cast,seval]
 ·rw[if_pos hz]
  simp(maxSteps:=9^7) (disch:=try exact dI) only[F33,push_cast,seval]
  refine ab.pure h30 rfl ?_
  simp(maxSteps:=9^7) (disch:=try exact dI) only[push_cast,seval]
  refine ab.pure h41 rfl ?_
  simp(maxSteps:=9^7) (disch:=try exact dI) only[hz,push_cast,seval]
end Go.Proofs.YtfepkhlgopjaoaaGreatDoor
-- many steps
namespace Go.Proofs.YtfepkhlgopjaoaaGreatDoor
open Go Go.Ab
attribute [local irreducible] vc
noncomputable def IQ (k s:Int)(w:List Int)(nm:List UInt8)(v:Int)(t:Typ):Int:=if ¬ fR k s w=0 then fR k s w else if ¬ HT nm v t=0 then HT nm v t else if k=2 then IP t s else if k=3 then IM t w else 0
theorem L2 (k s:Int)(w:List Int)(hl:w.length≤9000000000000)(nm:List UInt8)(v:Int)(t:Typ)(ht:t.ok):aq Tryz.prog aA 13 [(Fmt.mk k s w).pv,(Sch.mk nm v t).pv] (.int .i64 (IQ k s w nm v t)):=by
 have h1:=xN k s w hl
 have h2:=eQ nm v t ht
 have h3:=Dv t s ht
 have h4:=Dw t ht w
 unfold IQ
 rw[gQ] at h1 ⊢
 rw[Sch.pv_mk] at h2 ⊢
 generalize fR k s w=a at *
 generalize HT nm v t=b at *
 generalize IP t s=c at *
 generalize IM t w=d at *
 obtain⟨tk,m,M,sc,wd,e,f⟩:=t
 simp only[Typ.pv_mk] at h2 h3 h4 ⊢
 by_cases ha:a=0
 ·subst ha
  rw[if_neg (by decide)]
  by_cases hb:b=0
  ·subst hb
   rw[if_neg (by decide)]
   by_cases k2:k=2
   ·subst k2
    rw[if_pos rfl]
    refine aq.intro lR (by simp[F13]) ?_
    simp(maxSteps:=9^7) (disch:=try exact dI) only[F13,ae,push_cast,seval]
    first | refine ab.pure h1 rfl ?_ | refine am h1 rfl ?_
    simp(maxSteps:=9^7) (disch:=try exact dI) only[push_cast,seval]
    first | refine ab.pure h2 rfl ?_ | refine am h2 rfl ?_
    simp(maxSteps:=9^7) (disch:=try exact dI) only[push_cast,seval]
    first | refine ab.pure h3 rfl ?_ | refine am h3 rfl ?_
    simp(maxSteps:=9^7) (disch:=try exact dI) only[push_cast,seval]
   rw[if_neg k2]
   by_cases k3:k=3
   ·subst k3
    rw[if_pos rfl]
    refine aq.intro lR (by simp[F13]) ?_
    simp(maxSteps:=9^7) (disch:=try exact dI) only[F13,ae,push_cast,seval]
    first | refine ab.pure h1 rfl ?_ | refine am h1 rfl ?_
    simp(maxSteps:=9^7) (disch:=try exact dI) only[push_cast,seval]
    first | refine ab.pure h2 rfl ?_ | refine am h2 rfl ?_
    simp(maxSteps:=9^7) (disch:=try exact dI) only[push_cast,seval]
    first | refine ab.pure h4 rfl ?_ | refine am h4 rfl ?_
    simp(maxSteps:=9^7) (disch:=try exact dI) only[push_cast,seval]
   rw[if_neg k3]
   refine aq.intro lR (by simp[F13]) ?_
   simp(maxSteps:=9^7) (disch:=try exact dI) only[F13,ae,k2,k3,push_cast,seval]
   first | refine ab.pure h1 rfl ?_ | refine am h1 rfl ?_
   simp(maxSteps:=9^7) (disch:=try exact dI) only[push_cast,seval]
   first | refine ab.pure h2 rfl ?_ | refine am h2 rfl ?_
   simp(maxSteps:=9^7) (disch:=try exact dI) only[k2,k3,push_cast,seval]
  ·rw[if_pos hb]
   refine aq.intro lR (by simp[F13]) ?_
   simp(maxSteps:=9^7) (disch:=try exact dI) only[F13,ae,push_cast,seval]
   first | refine ab.pure h1 rfl ?_ | refine am h1 rfl ?_
   simp(maxSteps:=9^7) (disch:=try exact dI) only[push_cast,seval]
   first | refine ab.pure h2 rfl ?_ | refine am h2 rfl ?_
   simp(maxSteps:=9^7) (disch:=try exact dI) only[hb,push_cast,seval]
 ·rw[if_pos ha]
  refine aq.intro lR (by simp[F13]) ?_
  simp(maxSteps:=9^7) (disch:=try exact dI) only[F13,ae,push_cast,seval]
  first | refine ab.pure h1 rfl ?_ | refine am h1 rfl ?_
  simp(maxSteps:=9^7) (disch:=try exact dI) only[ha,push_cast,seval]
theorem L1 (k s:Int)(w:List Int)(hl:w.length≤9000000000000)(nm:List UInt8)(v:Int)(t:Typ)(ht:t.ok):aq Tryz.prog aA 14 [(Fmt.mk k s w).pv,(Sch.mk nm v t).pv] (.int .i64 (IQ k s w nm v t)):=by
 have h1:=xM k s w hl
 have h2:=eQ nm v t ht
 have h3:=Dv t s ht
 have h4:=Dw t ht w
 unfold IQ
 rw[gQ] at h1 ⊢
 rw[Sch.pv_mk] at h2 ⊢
 generalize fR k s w=a at *
 generalize HT nm v t=b at *
 generalize IP t s=c at *
 generalize IM t w=d at *
 obtain⟨tk,m,M,sc,wd,e,f⟩:=t
 simp only[Typ.pv_mk] at h2 h3 h4 ⊢
 by_cases ha:a=0
 ·subst ha
  rw[if_neg (by decide)]
  by_cases hb:b=0
  ·subst hb
   rw[if_neg (by decide)]
   by_cases k2:k=2
   ·subst k2
    rw[if_pos rfl]
    refine aq.intro lQ (by simp[F14]) ?_
    simp(maxSteps:=9^7) (disch:=try exact dI) only[F14,ae,push_cast,seval]
    first | refine ab.pure h1 rfl ?_ | refine am h1 rfl ?_
    simp(maxSteps:=9^7) (disch:=try exact dI) only[push_cast,seval]
    first | refine ab.pure h2 rfl ?_ | refine am h2 rfl ?_
    simp(maxSteps:=9^7) (disch:=try exact dI) only[push_cast,seval]
    first | refine ab.pure h3 rfl ?_ | refine am h3 rfl ?_
    simp(maxSteps:=9^7) (disch:=try exact dI) only[push_cast,seval]
   rw[if_neg k2]
   by_cases k3:k=3
   ·subst k3
    rw[if_pos rfl]
    refine aq.intro lQ (by simp[F14]) ?_
    simp(maxSteps:=9^7) (disch:=try exact dI) only[F14,ae,push_cast,seval]
    first | refine ab.pure h1 rfl ?_ | refine am h1 rfl ?_
    simp(maxSteps:=9^7) (disch:=try exact dI) only[push_cast,seval]
    first | refine ab.pure h2 rfl ?_ | refine am h2 rfl ?_
    simp(maxSteps:=9^7) (disch:=try exact dI) only[push_cast,seval]
    first | refine ab.pure h4 rfl ?_ | refine am h4 rfl ?_
    simp(maxSteps:=9^7) (disch:=try exact dI) only[push_cast,seval]
   rw[if_neg k3]
   refine aq.intro lQ (by simp[F14]) ?_
   simp(maxSteps:=9^7) (disch:=try exact dI) only[F14,ae,k2,k3,push_cast,seval]
   first | refine ab.pure h1 rfl ?_ | refine am h1 rfl ?_
   simp(maxSteps:=9^7) (disch:=try exact dI) only[push_cast,seval]
   first | refine ab.pure h2 rfl ?_ | refine am h2 rfl ?_
   simp(maxSteps:=9^7) (disch:=try exact dI) only[k2,k3,push_cast,seval]
  ·rw[if_pos hb]
   refine aq.intro lQ (by simp[F14]) ?_
   simp(maxSteps:=9^7) (disch:=try exact dI) only[F14,ae,push_cast,seval]
   first | refine ab.pure h1 rfl ?_ | refine am h1 rfl ?_
   simp(maxSteps:=9^7) (disch:=try exact dI) only[push_cast,seval]
   first | refine ab.pure h2 rfl ?_ | refine am h2 rfl ?_
   simp(maxSteps:=9^7) (disch:=try exact dI) only[hb,push_cast,seval]
 ·rw[if_pos ha]
  refine aq.intro lQ (by simp[F14]) ?_
  simp(maxSteps:=9^7) (disch:=try exact dI) only[F14,ae,push_cast,seval]
  first | refine ab.pure h1 rfl ?_ | refine am h1 rfl ?_
  simp(maxSteps:=9^7) (disch:=try exact dI) only[ha,push_cast,seval]
def Lq (w:List Int)(nm:List UInt8)(t:Typ):Bool:=decide (w.length≤70)&&(decide (nm.length≤100)&&(cC 12 200 t).1)
theorem Mk (k s:Int)(w:List Int)(nm:List UInt8)(v:Int)(t:Typ)(ht:t.ok):aq Tryz.prog aA 10 [(Fmt.mk k s w).pv,(Sch.mk nm v t).pv] (.bool (Lq w nm t)):=by
 have h1:=LL t ht
 have hwl:=bO w
 unfold Lq
 generalize (cC 12 200 t).1=b at *
 rw[gQ,Sch.pv_mk]
 obtain⟨tk,m,M,sc,wd,e,f⟩:=t
 simp only[Typ.pv_mk] at h1 ⊢
 refine aq.intro Lg (by simp[F10]) ?_
 by_cases c1:w.length≤70
 ·have c1I:(w.length:Int)≤70:=by omega
  rw[decide_eq_true c1,Bool.true_and]
  by_cases c2:nm.length≤100
  ·have c2I:(nm.length:Int)≤100:=by omega
   rw[decide_eq_true c2,Bool.true_and]
   simp(maxSteps:=9^7) (disch:=try exact dI) only[F10,ae,hwl,c1I,c2I,push_cast,seval]
   first | refine ab.pure h1 rfl ?_ | refine am h1 rfl ?_
   simp(maxSteps:=9^7) (disch:=try exact dI) only[push_cast,seval]
  ·have c2I:¬ (nm.length:Int)≤100:=by omega
   rw[decide_eq_false c2,Bool.false_and]
   simp(maxSteps:=9^7) (disch:=try exact dI) only[F10,ae,hwl,c1I,c2I,push_cast,seval]
 ·have c1I:¬ (w.length:Int)≤70:=by omega
  rw[decide_eq_false c1,Bool.false_and]
  simp(maxSteps:=9^7) (disch:=try exact dI) only[F10,ae,hwl,c1I,push_cast,seval]
theorem NA (F:Fmt)(S:Sch)(hF:F.ok)(hS:S.ok):aq Tryz.prog aA 3 [F.pv,S.pv] (.bool true):=by
 obtain⟨k,s,w⟩:=F
 obtain⟨nm,v,t⟩:=S
 rw[Sch.ok_mk] at hS
 have h9:=F4
 have h10:=Mk k s w nm v t hS.2.2
 cases hfw:Lq w nm t with
 | false=>
   rw[hfw] at h10
   rw[gQ,Sch.pv_mk] at *
   clear hS hF hfw
   obtain⟨tk,m,M,sc,wd,e,f⟩:=t
   simp only[Typ.pv_mk] at h10 ⊢
   refine aq.intro KS (by simp[F3]) ?_
   simp(maxSteps:=9^7) (disch:=try exact dI) only[F3,ae,push_cast,seval]
   first | refine ab.pure h9 rfl ?_ | refine am h9 rfl ?_
   simp(maxSteps:=9^7) (disch:=try exact dI) only[push_cast,seval]
   first | refine ab.pure h10 rfl ?_ | refine am h10 rfl ?_
   simp(maxSteps:=9^7) (disch:=try exact dI) only[push_cast,seval]
   first | refine ab.pure h9 rfl ?_ | refine am h9 rfl ?_
   simp(maxSteps:=9^7) (disch:=try exact dI) only[push_cast,seval]
 | true=>
   have hl:w.length≤9000000000000:=by
    unfold Lq at hfw
    simp only[Bool.and_eq_true,decide_eq_true_eq] at hfw
    omega
   have h11:=xN k s w hl
   have h12:=xM k s w hl
   have h13:=L2 k s w hl nm v t hS.2.2
   have h14:=L1 k s w hl nm v t hS.2.2
   generalize fR k s w=a at *
   generalize IQ k s w nm v t=b at *
   rw[hfw] at h10
   rw[gQ,Sch.pv_mk] at *
   clear hS hF hfw
   obtain⟨tk,m,M,sc,wd,e,f⟩:=t
   simp only[Typ.pv_mk] at h10 h13 h14 ⊢
   refine aq.intro KS (by simp[F3]) ?_
   simp(maxSteps:=9^7) (disch:=try exact dI) only[F3,ae,push_cast,seval]
   first | refine ab.pure h9 rfl ?_ | refine am h9 rfl ?_
   simp(maxSteps:=9^7) (disch:=try exact dI) only[push_cast,seval]
   first | refine ab.pure h10 rfl ?_ | refine am h10 rfl ?_
   simp(maxSteps:=9^7) (disch:=try exact dI) only[push_cast,seval]
   first | refine ab.pure h11 rfl ?_ | refine am h11 rfl ?_
   simp(maxSteps:=9^7) (disch:=try exact dI) only[push_cast,seval]
   first | refine ab.pure h12 rfl ?_ | refine am h12 rfl ?_
   simp(maxSteps:=9^7) (disch:=try exact dI) only[push_cast,seval]
   first | refine ab.pure h13 rfl ?_ | refine am h13 rfl ?_
   simp(maxSteps:=9^7) (disch:=try exact dI) only[push_cast,seval]
   first | refine ab.pure h14 rfl ?_ | refine am h14 rfl ?_
   simp(maxSteps:=9^7) (disch:=try exact dI) only[push_cast,seval]
theorem xF (p0 p1:PV)(h0:HasT Tryz.prog 24 p0)(h1:HasT Tryz.prog 31 p1):aq Tryz.prog aA 3 [p0,p1] (.bool true):=by
 obtain⟨F,rfl,hF⟩:=B9 h0
 obtain⟨S,rfl,hS⟩:=B8 h1
 exact NA F S hF hS
end Go.Proofs.YtfepkhlgopjaoaaGreatDoor
