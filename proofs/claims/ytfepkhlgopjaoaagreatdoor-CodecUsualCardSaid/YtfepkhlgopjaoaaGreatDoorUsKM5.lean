/- A part of the proof for CodecUsualCardSaid. -/
import Derived.Test.YtfepkhlgopjaoaaGreatDoorUsKM4
set_option linter.unusedVariables false
set_option linter.unusedSimpArgs false
set_option maxRecDepth 100000
-- many steps
namespace Go.Proofs.YtfepkhlgopjaoaaGreatDoor
open Go Go.Ab
attribute [local irreducible] vc
set_option maxHeartbeats 4000000 in
theorem Hf (k s:Int)(w:List Int)(hl:w.length≤9000000000000):ap Tryz.prog az 12 [(Fmt.mk k s w).pv] (.int .i64 (go k s w)):=by
 have h30:=nK s
 have hwl:=bR w
 have hc:=lO k s w
 rw[d7]
 generalize go k s w=z at *
 obtain⟨L,hL⟩:∃ L,L=dy w:=⟨_,rfl⟩
 rw[← hL] at hwl ⊢
 rcases hc with ⟨h1,rfl⟩ | ⟨h1,h2,rfl⟩ | ⟨h1,h2,h3,h4,rfl⟩ | ⟨h1,h2,h3,h4,h5,rfl⟩ | ⟨rfl,rfl,hb,rfl⟩ | ⟨rfl,rfl,hb,rfl⟩ | ⟨h1,rfl,rfl,rfl⟩ | ⟨rfl,rfl,h1,rfl⟩ | ⟨rfl,rfl,h1,hz⟩
 ·refine ap.intro ea (by simp[F12]) ?_
  simp(maxSteps:=9^7) (disch:=try exact dI) only[F12,h1,push_cast,seval]
 ·refine ap.intro ea (by simp[F12]) ?_
  simp(maxSteps:=9^7) (disch:=try exact dI) only[F12,h1,h2,push_cast,seval]
 ·refine ap.intro ea (by simp[F12]) ?_
  simp(maxSteps:=9^7) (disch:=try exact dI) only[F12,h1,h2,h3,h4,push_cast,seval]
 ·have h4I:(0:Int)<(w.length:Int):=by omega
  rcases h3 with rfl | rfl
  ·refine ap.intro ea (by simp[F12]) ?_
   by_cases hs:s=0
   ·simp(maxSteps:=9^7) (disch:=try exact dI) only[F12,hs,hwl,h4I,push_cast,seval]
   ·simp(maxSteps:=9^7) (disch:=try exact dI) only[F12,hs,hwl,h4I,push_cast,seval]
  ·refine ap.intro ea (by simp[F12]) ?_
   simp(maxSteps:=9^7) (disch:=try exact dI) only[F12,h1,h2,h5,hwl,h4I,push_cast,seval]
 ·simp only[List.length_nil] at hwl
  rw[hb] at h30
  refine ap.intro ea (by simp[F12]) ?_
  by_cases hs:s=0
  ·simp(maxSteps:=9^7) (disch:=try exact dI) only[F12,hs,hwl,push_cast,seval]
   rw[hs] at h30
   refine ae.pure h30 rfl ?_
   simp(maxSteps:=9^7) (disch:=try exact dI) only[push_cast,seval]
  ·simp(maxSteps:=9^7) (disch:=try exact dI) only[F12,hs,hwl,push_cast,seval]
   refine ae.pure h30 rfl ?_
   simp(maxSteps:=9^7) (disch:=try exact dI) only[push_cast,seval]
 ·simp only[List.length_nil] at hwl
  rw[hb] at h30
  refine ap.intro ea (by simp[F12]) ?_
  by_cases hs:s=0
  ·simp(maxSteps:=9^7) (disch:=try exact dI) only[F12,hs,hwl,push_cast,seval]
   rw[hs] at h30
   refine ae.pure h30 rfl ?_
   simp(maxSteps:=9^7) (disch:=try exact dI) only[push_cast,seval]
   refine aB ([]) (fun i:Nat=>[(3,.pv (.int .i64 (i:Int)))]) (fun _=>[]) (fun i=>i=0) (fun i=>0) (0) ?_;intro e0 σ0 n0 h0;simp(maxSteps:=9^7) (disch:=try exact dI) only[push_cast,seval] at h0;obtain⟨rfl,rfl,rfl⟩:=h0;refine⟨?_,?_,?_⟩
   ·simp(maxSteps:=9^7) (disch:=try exact dI) only[push_cast,seval]
   ·rfl
   rintro i rfl
   simp(maxSteps:=9^7) (disch:=try exact dI) only[hwl,push_cast,seval]
  ·simp(maxSteps:=9^7) (disch:=try exact dI) only[F12,hs,hwl,push_cast,seval]
   refine ae.pure h30 rfl ?_
   simp(maxSteps:=9^7) (disch:=try exact dI) only[push_cast,seval]
   refine aB ([]) (fun i:Nat=>[(3,.pv (.int .i64 (i:Int)))]) (fun _=>[]) (fun i=>i=0) (fun i=>0) (0) ?_;intro e0 σ0 n0 h0;simp(maxSteps:=9^7) (disch:=try exact dI) only[push_cast,seval] at h0;obtain⟨rfl,rfl,rfl⟩:=h0;refine⟨?_,?_,?_⟩
   ·simp(maxSteps:=9^7) (disch:=try exact dI) only[push_cast,seval]
   ·rfl
   rintro i rfl
   simp(maxSteps:=9^7) (disch:=try exact dI) only[hwl,push_cast,seval]
 ·simp only[List.length_nil] at hwl
  refine ap.intro ea (by simp[F12]) ?_
  rcases h1 with rfl | rfl
  ·simp(maxSteps:=9^7) (disch:=try exact dI) only[F12,hwl,push_cast,seval]
   refine aB ([]) (fun i:Nat=>[(3,.pv (.int .i64 (i:Int)))]) (fun _=>[]) (fun i=>i=0) (fun i=>0) (0) ?_;intro e0 σ0 n0 h0;simp(maxSteps:=9^7) (disch:=try exact dI) only[push_cast,seval] at h0;obtain⟨rfl,rfl,rfl⟩:=h0;refine⟨?_,?_,?_⟩
   ·simp(maxSteps:=9^7) (disch:=try exact dI) only[push_cast,seval]
   ·rfl
   rintro i rfl
   simp(maxSteps:=9^7) (disch:=try exact dI) only[hwl,push_cast,seval]
  ·simp(maxSteps:=9^7) (disch:=try exact dI) only[F12,hwl,push_cast,seval]
   refine aB ([]) (fun i:Nat=>[(3,.pv (.int .i64 (i:Int)))]) (fun _=>[]) (fun i=>i=0) (fun i=>0) (0) ?_;intro e0 σ0 n0 h0;simp(maxSteps:=9^7) (disch:=try exact dI) only[push_cast,seval] at h0;obtain⟨rfl,rfl,rfl⟩:=h0;refine⟨?_,?_,?_⟩
   ·simp(maxSteps:=9^7) (disch:=try exact dI) only[push_cast,seval]
   ·rfl
   rintro i rfl
   simp(maxSteps:=9^7) (disch:=try exact dI) only[hwl,push_cast,seval]
 ·have h1I:(64:Int)<(w.length:Int):=by omega
  have h0I:(0:Int)<(w.length:Int):=by omega
  refine ap.intro ea (by simp[F12]) ?_
  simp(maxSteps:=9^7) (disch:=try exact dI) only[F12,hwl,h1I,h0I,push_cast,seval]
 ·have h1I:¬ (64:Int)<(w.length:Int):=by omega
  obtain⟨B,hB⟩:∃ B,B=w.any tg:=⟨_,rfl⟩
  rw[← hB] at hz
  subst hz
  refine ap.intro ea (by simp[F12]) ?_
  have fin:∀ (i:Nat),i=i:=fun _=>rfl
  by_cases h0:(0:Int)<(w.length:Int)
  all_goals
   simp(maxSteps:=9^7) (disch:=try exact dI) only[F12,hwl,h1I,h0,push_cast,seval]
   refine aB ([]) (fun i:Nat=>[(3,.pv (.int .i64 (i:Int)))]) (fun _=>[]) (fun i=>i≤w.length∧B=(w.drop i).any tg) (fun i=>w.length - i) (0) ?_;intro e0 σ0 n0 h0;simp(maxSteps:=9^7) (disch:=try exact dI) only[push_cast,seval] at h0;obtain⟨rfl,rfl,rfl⟩:=h0;refine⟨?_,?_,?_⟩
   ·simp(maxSteps:=9^7) (disch:=try exact dI) only[push_cast,seval]
   ·exact⟨by omega,by simpa using hB⟩
   rintro i ⟨hi,hr⟩
   by_cases hlt:i<w.length
   ·have hltI:(i:Int)<(w.length:Int):=by omega
    obtain⟨x,hx⟩:∃ x,w[i]? = some x:=⟨_,List.getElem?_eq_getElem hlt⟩
    have hx':=jH hx
    rw[← hL] at hx'
    rw[ii hx] at hr
    by_cases c1:x<1
    ·have:B=true:=by rw[hr];simp[tg,c1]
     subst this
     rw[if_pos rfl]
     simp(maxSteps:=9^7) (disch:=try exact dI) only[hwl,hx',c1,push_cast,seval]
    by_cases c2:4096<x
    ·have:B=true:=by rw[hr];simp[tg,c2]
     subst this
     rw[if_pos rfl]
     simp(maxSteps:=9^7) (disch:=try exact dI) only[hwl,hx',c1,c2,push_cast,seval]
    have hb:tg x=false:=by simp[tg,c1,c2]
    rw[hb,Bool.false_or] at hr
    simp(maxSteps:=9^7) (disch:=try exact dI) only[hwl,hx',c1,c2,push_cast,seval]
    exact⟨i+1,bH qsZ,⟨by omega,hr⟩,by omega⟩
   ·obtain rfl:i=w.length:=by omega
    rw[List.drop_length,List.any_nil] at hr
    subst hr
    rw[if_neg (by decide)]
    simp(maxSteps:=9^7) (disch:=try exact dI) only[hwl,Int.lt_irrefl,push_cast,seval]
noncomputable def j2 (nm:List UInt8)(v:Int)(t:Typ):Int:=if ct nm=false then 12 else if inB v 1 999=false then 2 else if ¬ t.kind=9 then 11 else mE t
theorem bI (nm:List UInt8)(v:Int)(t:Typ)(ht:t.ok):ap Tryz.prog az 21 [(Sch.mk nm v t).pv] (.int .i64 (j2 nm v t)):=by
 have h43:=jx nm
 have h44:=jI v 1 999
 have h41:=nY t ht
 unfold j2
 generalize ct nm=a at *
 generalize inB v 1 999=b at *
 generalize mE t=z at *
 obtain⟨kk,hkk⟩:∃ kk,kk=t.kind:=⟨_,rfl⟩
 rw[← hkk]
 obtain⟨k,m,M,s,w,e,f⟩:=t
 rw[Sch.pv_mk]
 simp only[Typ.kind] at hkk
 subst hkk
 simp only[Typ.pv_mk] at h41 ⊢
 refine ap.intro Lz (by simp[F21]) ?_
 cases a with
 | false=>
   rw[if_pos rfl]
   simp(maxSteps:=9^7) (disch:=try exact dI) only[F21,ag,push_cast,seval]
   refine ae.pure h43 rfl ?_
   simp(maxSteps:=9^7) (disch:=try exact dI) only[push_cast,seval]
 | true=>
   rw[if_neg (by decide)]
   cases b with
   | false=>
     rw[if_pos rfl]
     simp(maxSteps:=9^7) (disch:=try exact dI) only[F21,ag,push_cast,seval]
     refine ae.pure h43 rfl ?_
     simp(maxSteps:=9^7) (disch:=try exact dI) only[push_cast,seval]
     refine ae.pure h44 rfl ?_
     simp(maxSteps:=9^7) (disch:=try exact dI) only[push_cast,seval]
   | true=>
     rw[if_neg (by decide)]
     by_cases hk:kk=9
     ·rw[if_neg (fun q=>q hk)]
      simp(maxSteps:=9^7) (disch:=try exact dI) only[F21,ag,hk,push_cast,seval]
      refine ae.pure h43 rfl ?_
      simp(maxSteps:=9^7) (disch:=try exact dI) only[push_cast,seval]
      refine ae.pure h44 rfl ?_
      simp(maxSteps:=9^7) (disch:=try exact dI) only[hk,push_cast,seval]
      rw[hk] at h41
      refine ae.pure h41 rfl ?_
      simp(maxSteps:=9^7) (disch:=try exact dI) only[push_cast,seval]
     ·rw[if_pos hk]
      simp(maxSteps:=9^7) (disch:=try exact dI) only[F21,ag,hk,push_cast,seval]
      refine ae.pure h43 rfl ?_
      simp(maxSteps:=9^7) (disch:=try exact dI) only[push_cast,seval]
      refine ae.pure h44 rfl ?_
      simp(maxSteps:=9^7) (disch:=try exact dI) only[hk,push_cast,seval]
noncomputable def Jm (t:Typ)(n:Int):Int:=if fq n=false then 2 else if ¬ mE t=0 then 18 else if fV t=false then 18 else 0
theorem DT (t:Typ)(n:Int)(ht:t.ok):ap Tryz.prog az 33 [t.pv,.int .i64 n] (.int .i64 (Jm t n)):=by
 have h30:=nK n
 have h41:=nY t ht
 have h59:=Ea t (by obtain⟨k,m,M,s,w,e,f⟩:=t;rw[Typ.ok_mk] at ht;simp only[Typ.fields];omega)
 simp only[Jm]
 generalize fq n=b at *
 generalize mE t=z at *
 generalize fV t=q at *
 obtain⟨k,m,M,s,w,e,f⟩:=t
 simp only[Typ.pv_mk] at h41 h59 ⊢
 refine ap.intro Lp (by simp[F33]) ?_
 cases b with
 | false=>
   simp(maxSteps:=9^7) (disch:=try exact dI) only[F33,push_cast,seval]
   refine ae.pure h30 rfl ?_
   simp(maxSteps:=9^7) (disch:=try exact dI) only[push_cast,seval]
 | true=>
 rw[if_neg (show ¬ true=false by decide)]
 by_cases hz:z=0
 ·subst hz
  rw[if_neg (show ¬ ¬ (0:Int)=0 by decide)]
  simp(maxSteps:=9^7) (disch:=try exact dI) only[F33,push_cast,seval]
  refine ae.pure h30 rfl ?_
  simp(maxSteps:=9^7) (disch:=try exact dI) only[push_cast,seval]
  refine ae.pure h41 rfl ?_
  simp(maxSteps:=9^7) (disch:=try exact dI) only[push_cast,seval]
  refine ae.pure h59 rfl ?_
  cases q with
  | false=>simp(maxSteps:=9^7) (disch:=try exact dI) only[push_cast,seval]
  | true=>simp(maxSteps:=9^7) (disch:=try exact dI) only[push_cast,seval]
 ·rw[if_pos hz]
  simp(maxSteps:=9^7) (disch:=try exact dI) only[F33,push_cast,seval]
  refine ae.pure h30 rfl ?_
  simp(maxSteps:=9^7) (disch:=try exact dI) only[push_cast,seval]
  refine ae.pure h41 rfl ?_
  simp(maxSteps:=9^7) (disch:=try exact dI) only[hz,push_cast,seval]
end Go.Proofs.YtfepkhlgopjaoaaGreatDoor
-- many steps
namespace Go.Proofs.YtfepkhlgopjaoaaGreatDoor
open Go Go.Ab
attribute [local irreducible] vc
noncomputable def gh (k s:Int)(w:List Int)(nm:List UInt8)(v:Int)(t:Typ):Int:=if ¬ go k s w=0 then go k s w else if ¬ j2 nm v t=0 then j2 nm v t else if k=2 then Jm t s else if k=3 then Jl t w else 0
theorem FC (k s:Int)(w:List Int)(hl:w.length≤9000000000000)(nm:List UInt8)(v:Int)(t:Typ)(ht:t.ok):ap Tryz.prog az 13 [(Fmt.mk k s w).pv,(Sch.mk nm v t).pv] (.int .i64 (gh k s w nm v t)):=by
 have h1:=Hg k s w hl
 have h2:=bI nm v t ht
 have h3:=DT t s ht
 have h4:=DU t ht w
 unfold gh
 rw[d7] at h1 ⊢
 rw[Sch.pv_mk] at h2 ⊢
 generalize go k s w=a at *
 generalize j2 nm v t=b at *
 generalize Jm t s=c at *
 generalize Jl t w=d at *
 obtain⟨tk,m,M,sc,wd,e,f⟩:=t
 simp only[Typ.pv_mk] at h2 h3 h4 ⊢
 by_cases ha:a=0
 ·subst ha
  rw[if_neg (by decide)]
  by_cases hb:b=0
  ·subst hb
   rw[if_neg (by decide)]
   by_cases k2:k=2
   ·subst k2
    rw[if_pos rfl]
    refine ap.intro mc (by simp[F13]) ?_
    simp(maxSteps:=9^7) (disch:=try exact dI) only[F13,ag,push_cast,seval]
    first | refine ae.pure h1 rfl ?_ | refine ab h1 rfl ?_
    simp(maxSteps:=9^7) (disch:=try exact dI) only[push_cast,seval]
    first | refine ae.pure h2 rfl ?_ | refine ab h2 rfl ?_
    simp(maxSteps:=9^7) (disch:=try exact dI) only[push_cast,seval]
    first | refine ae.pure h3 rfl ?_ | refine ab h3 rfl ?_
    simp(maxSteps:=9^7) (disch:=try exact dI) only[push_cast,seval]
   rw[if_neg k2]
   by_cases k3:k=3
   ·subst k3
    rw[if_pos rfl]
    refine ap.intro mc (by simp[F13]) ?_
    simp(maxSteps:=9^7) (disch:=try exact dI) only[F13,ag,push_cast,seval]
    first | refine ae.pure h1 rfl ?_ | refine ab h1 rfl ?_
    simp(maxSteps:=9^7) (disch:=try exact dI) only[push_cast,seval]
    first | refine ae.pure h2 rfl ?_ | refine ab h2 rfl ?_
    simp(maxSteps:=9^7) (disch:=try exact dI) only[push_cast,seval]
    first | refine ae.pure h4 rfl ?_ | refine ab h4 rfl ?_
    simp(maxSteps:=9^7) (disch:=try exact dI) only[push_cast,seval]
   rw[if_neg k3]
   refine ap.intro mc (by simp[F13]) ?_
   simp(maxSteps:=9^7) (disch:=try exact dI) only[F13,ag,k2,k3,push_cast,seval]
   first | refine ae.pure h1 rfl ?_ | refine ab h1 rfl ?_
   simp(maxSteps:=9^7) (disch:=try exact dI) only[push_cast,seval]
   first | refine ae.pure h2 rfl ?_ | refine ab h2 rfl ?_
   simp(maxSteps:=9^7) (disch:=try exact dI) only[k2,k3,push_cast,seval]
  ·rw[if_pos hb]
   refine ap.intro mc (by simp[F13]) ?_
   simp(maxSteps:=9^7) (disch:=try exact dI) only[F13,ag,push_cast,seval]
   first | refine ae.pure h1 rfl ?_ | refine ab h1 rfl ?_
   simp(maxSteps:=9^7) (disch:=try exact dI) only[push_cast,seval]
   first | refine ae.pure h2 rfl ?_ | refine ab h2 rfl ?_
   simp(maxSteps:=9^7) (disch:=try exact dI) only[hb,push_cast,seval]
 ·rw[if_pos ha]
  refine ap.intro mc (by simp[F13]) ?_
  simp(maxSteps:=9^7) (disch:=try exact dI) only[F13,ag,push_cast,seval]
  first | refine ae.pure h1 rfl ?_ | refine ab h1 rfl ?_
  simp(maxSteps:=9^7) (disch:=try exact dI) only[ha,push_cast,seval]
theorem Jo (k s:Int)(w:List Int)(hl:w.length≤9000000000000)(nm:List UInt8)(v:Int)(t:Typ)(ht:t.ok):ap Tryz.prog az 14 [(Fmt.mk k s w).pv,(Sch.mk nm v t).pv] (.int .i64 (gh k s w nm v t)):=by
 have h1:=Hf k s w hl
 have h2:=bI nm v t ht
 have h3:=DT t s ht
 have h4:=DU t ht w
 unfold gh
 rw[d7] at h1 ⊢
 rw[Sch.pv_mk] at h2 ⊢
 generalize go k s w=a at *
 generalize j2 nm v t=b at *
 generalize Jm t s=c at *
 generalize Jl t w=d at *
 obtain⟨tk,m,M,sc,wd,e,f⟩:=t
 simp only[Typ.pv_mk] at h2 h3 h4 ⊢
 by_cases ha:a=0
 ·subst ha
  rw[if_neg (by decide)]
  by_cases hb:b=0
  ·subst hb
   rw[if_neg (by decide)]
   by_cases k2:k=2
   ·subst k2
    rw[if_pos rfl]
    refine ap.intro mb (by simp[F14]) ?_
    simp(maxSteps:=9^7) (disch:=try exact dI) only[F14,ag,push_cast,seval]
    first | refine ae.pure h1 rfl ?_ | refine ab h1 rfl ?_
    simp(maxSteps:=9^7) (disch:=try exact dI) only[push_cast,seval]
    first | refine ae.pure h2 rfl ?_ | refine ab h2 rfl ?_
    simp(maxSteps:=9^7) (disch:=try exact dI) only[push_cast,seval]
    first | refine ae.pure h3 rfl ?_ | refine ab h3 rfl ?_
    simp(maxSteps:=9^7) (disch:=try exact dI) only[push_cast,seval]
   rw[if_neg k2]
   by_cases k3:k=3
   ·subst k3
    rw[if_pos rfl]
    refine ap.intro mb (by simp[F14]) ?_
    simp(maxSteps:=9^7) (disch:=try exact dI) only[F14,ag,push_cast,seval]
    first | refine ae.pure h1 rfl ?_ | refine ab h1 rfl ?_
    simp(maxSteps:=9^7) (disch:=try exact dI) only[push_cast,seval]
    first | refine ae.pure h2 rfl ?_ | refine ab h2 rfl ?_
    simp(maxSteps:=9^7) (disch:=try exact dI) only[push_cast,seval]
    first | refine ae.pure h4 rfl ?_ | refine ab h4 rfl ?_
    simp(maxSteps:=9^7) (disch:=try exact dI) only[push_cast,seval]
   rw[if_neg k3]
   refine ap.intro mb (by simp[F14]) ?_
   simp(maxSteps:=9^7) (disch:=try exact dI) only[F14,ag,k2,k3,push_cast,seval]
   first | refine ae.pure h1 rfl ?_ | refine ab h1 rfl ?_
   simp(maxSteps:=9^7) (disch:=try exact dI) only[push_cast,seval]
   first | refine ae.pure h2 rfl ?_ | refine ab h2 rfl ?_
   simp(maxSteps:=9^7) (disch:=try exact dI) only[k2,k3,push_cast,seval]
  ·rw[if_pos hb]
   refine ap.intro mb (by simp[F14]) ?_
   simp(maxSteps:=9^7) (disch:=try exact dI) only[F14,ag,push_cast,seval]
   first | refine ae.pure h1 rfl ?_ | refine ab h1 rfl ?_
   simp(maxSteps:=9^7) (disch:=try exact dI) only[push_cast,seval]
   first | refine ae.pure h2 rfl ?_ | refine ab h2 rfl ?_
   simp(maxSteps:=9^7) (disch:=try exact dI) only[hb,push_cast,seval]
 ·rw[if_pos ha]
  refine ap.intro mb (by simp[F14]) ?_
  simp(maxSteps:=9^7) (disch:=try exact dI) only[F14,ag,push_cast,seval]
  first | refine ae.pure h1 rfl ?_ | refine ab h1 rfl ?_
  simp(maxSteps:=9^7) (disch:=try exact dI) only[ha,push_cast,seval]
def Iw (w:List Int)(nm:List UInt8)(t:Typ):Bool:=decide (w.length≤70)&&(decide (nm.length≤100)&&(cG 12 200 t).1)
theorem MN (k s:Int)(w:List Int)(nm:List UInt8)(v:Int)(t:Typ)(ht:t.ok):ap Tryz.prog az 10 [(Fmt.mk k s w).pv,(Sch.mk nm v t).pv] (.bool (Iw w nm t)):=by
 have h1:=Mh t ht
 have hwl:=bR w
 unfold Iw
 generalize (cG 12 200 t).1=b at *
 rw[d7,Sch.pv_mk]
 obtain⟨tk,m,M,sc,wd,e,f⟩:=t
 simp only[Typ.pv_mk] at h1 ⊢
 refine ap.intro LN (by simp[F10]) ?_
 by_cases c1:w.length≤70
 ·have c1I:(w.length:Int)≤70:=by omega
  rw[decide_eq_true c1,Bool.true_and]
  by_cases c2:nm.length≤100
  ·have c2I:(nm.length:Int)≤100:=by omega
   rw[decide_eq_true c2,Bool.true_and]
   simp(maxSteps:=9^7) (disch:=try exact dI) only[F10,ag,hwl,c1I,c2I,push_cast,seval]
   first | refine ae.pure h1 rfl ?_ | refine ab h1 rfl ?_
   simp(maxSteps:=9^7) (disch:=try exact dI) only[push_cast,seval]
  ·have c2I:¬ (nm.length:Int)≤100:=by omega
   rw[decide_eq_false c2,Bool.false_and]
   simp(maxSteps:=9^7) (disch:=try exact dI) only[F10,ag,hwl,c1I,c2I,push_cast,seval]
 ·have c1I:¬ (w.length:Int)≤70:=by omega
  rw[decide_eq_false c1,Bool.false_and]
  simp(maxSteps:=9^7) (disch:=try exact dI) only[F10,ag,hwl,c1I,push_cast,seval]
end Go.Proofs.YtfepkhlgopjaoaaGreatDoor
