/- A part. -/
import Derived.Test.YtngchmkoadaecaaGreatDoorClJR2
set_option linter.unusedVariables false
set_option linter.unusedSimpArgs false
set_option maxHeartbeats 16000000
set_option maxRecDepth 100000
open List renaming getElem?_eq_getElem->Uq,getElem?_eq_some_iff->Ur
open Int renaming add_sub_cancel->U7
namespace Go.Proofs.YtngchmkoadaecaaGreatDoor
open Go Go.Ab
attribute [local irreducible] vc
def iu (n a b:Int):Int:=if n<a\/b<n then 2 else 0
def hU (n m e:Int):Int:=if m<n then e else 0
def iw:Option (List UInt8)->List (List UInt8)->Int
 | _,[]=>0
 | p,s::r=>if aE s=false then 12 else if p=some s then 7 else if (p.any fun q=>ca s q)=true then 24 else iw (some s) r
def b9:Val->Int
 | .mk k n s t l fs=>
   if k=1 then iu n 0 1
   else if k=2 then iu n (-999999999999999) 999999999999999
   else if k=3 then (if iu n (-999999999999999) 999999999999999=0 then iu s 0 12 else iu n (-999999999999999) 999999999999999)
   else if k=4 then (if hU t.length 1024 5=0 then (if Lib.validD t=true then 0 else 16) else hU t.length 1024 5)
   else if k=5 then hU t.length 1024 5
   else if k=6 then iu n (-719162) 2932896
   else if k=7 then iu n (-62135596800000) 253402300799999
   else if k=8 then hU l.length 256 9
   else if k=9 then (if hU fs.length 64 9=0 then iw none (fs.map Fld.name) else hU fs.length 64 9)
   else if k=10 then (if aE t=false then 12 else if l.length=0 then 4 else hU l.length 1 3)
   else 0
theorem Kl (v:Val)(hk:v.kind=1):ap Tryz.prog aB 172 [v.pv] (.int .i64 (b9 v)):=by
 obtain⟨k,n,s,t,l,fs⟩:=v
 simp only[Val.kind] at hk;subst hk
 rw[show b9 (.mk 1 n s t l fs)=iu n 0 1 from rfl]
 have h:=cZ n 0 1
 change ap _ _ _ _ (.int .i64 (iu n 0 1)) at h
 generalize iu n 0 1=e at *
 refine ap.intro SL.2 (by simp[SL]) ?_
 simp(maxSteps:=9^7) (disch:=try exact dI) only[SL,Uo,push_cast,seval]
 refine ab.pure h rfl ?_
 simp(maxSteps:=9^7) (disch:=try exact dI) only[push_cast,seval]
theorem Kk (v:Val)(hk:v.kind=2):ap Tryz.prog aB 174 [v.pv] (.int .i64 (b9 v)):=by
 obtain⟨k,n,s,t,l,fs⟩:=v
 simp only[Val.kind] at hk;subst hk
 rw[show b9 (.mk 2 n s t l fs)=iu n (-999999999999999) 999999999999999 from rfl]
 have h:=cZ n (-999999999999999) 999999999999999
 change ap _ _ _ _ (.int .i64 (iu n (-999999999999999) 999999999999999)) at h
 generalize iu n (-999999999999999) 999999999999999=e at *
 refine ap.intro SK.2 (by simp[SK]) ?_
 simp(maxSteps:=9^7) (disch:=try exact dI) only[SK,Uo,push_cast,seval]
 refine ab.pure h rfl ?_
 simp(maxSteps:=9^7) (disch:=try exact dI) only[push_cast,seval]
def gC:List Int->Int
 | []=>0
 | a::r=>if a=0 then gC r else a
theorem oA:∀ {L:List Int} {i:Nat} {x:Int},L[i]? = some x->x≠0->(∀ j,j<i->∀ y,L[j]? = some y->y=0)->gC L=x
 | [],i,x,h,_,_=>by simp at h
 | a::r,0,x,h,hx,_=>by simp at h;subst h;exact if_neg hx
 | a::r,i+1,x,h,hx,h0=>by
   have ha:=h0 0 (by omega) a rfl
   subst ha
   rw[gC,if_pos rfl]
   exact oA (by simpa using h) hx fun j hj y hy=>h0 (j+1) (by omega) y (by simpa using hy)
theorem jU:∀ {L:List Int},(∀ (j:Nat) y,L[j]? = some y->y=0)->gC L=0
 | [],_=>rfl
 | a::r,h=>by
   rw[gC,if_pos (h 0 a rfl)]
   exact jU fun j y hy=>h (j+1) y (by simpa using hy)
theorem Cz (L:List Int)(hL:L.length<=1000):ap Tryz.prog aB 176 [.list (L.map fun n=>.int .i64 n)] (.int .i64 (gC L)):=by
 generalize hr:gC L=e
 refine ap.intro SI.2 (by simp[SI]) ?_
 simp(maxSteps:=9^7) (disch:=try exact dI) only[SI,push_cast,seval]
 refine aw ([]) (fun i:Nat=>[(7,.pv (.int .i64 (i:Int)))]) (fun _=>[]) (fun i=>i<=L.length/\(∀ j,j<i->∀ y,L[j]? = some y->y=0)) (fun i=>L.length - i) (0) ?_;intro e0 σ0 n0 h0;simp(maxSteps:=9^7) (disch:=try exact dI) only[push_cast,seval] at h0;obtain⟨rfl,rfl,rfl⟩:=h0;refine⟨?_,?_,?_⟩
 ·simp(maxSteps:=9^7) (disch:=try exact dI) only[push_cast,seval]
 ·exact⟨by omega,by omega⟩
 rintro i ⟨hi,h0⟩
 by_cases hlt:i<L.length
 ·have hltI:(i:Int)<(L.length:Int):=by omega
  obtain⟨x,hx⟩:∃ x,L[i]? = some x:=⟨_,Uq hlt⟩
  have hcp:(L.map fun n=>PV.int .i64 n)[i]? = some (.int .i64 x):=by simp[hx]
  by_cases hx0:x=0
  ·subst hx0
   simp(maxSteps:=9^7) (disch:=try exact dI) only[hcp,push_cast,seval]
   exact⟨i+1,aN qsZ,⟨by omega,fun j hj y hy=>by
    rcases Nat.lt_or_ge j i with h | h
    ·exact h0 j h y hy
    ·have:j=i:=by omega
     subst this
     rw[hx] at hy;exact (Option.some.inj hy).symm⟩,by omega⟩
  ·have:=oA hx hx0 h0
   rw[this] at hr
   subst hr
   simp(maxSteps:=9^7) (disch:=try exact dI) only[hcp,push_cast,seval]
 ·have:=jU (L:=L) fun j y hy=>h0 j (by have:=(Ur.1 hy).1;omega) y hy
  rw[this] at hr
  subst hr
  simp(maxSteps:=9^7) (disch:=try exact dI) only[push_cast,seval]
theorem Ho (a b:Int):ap Tryz.prog aB 176 [.list [.int .i64 a,.int .i64 b]] (.int .i64 (if a=0 then b else a)):=by
 have:=Cz [a,b] (by simp)
 have e:gC [a,b]=if a=0 then b else a:=by
  simp only[gC]
  by_cases hb:b=0
  ·subst hb;simp
  ·simp[hb]
 rw[e] at this
 exact this
theorem Kj (v:Val)(hk:v.kind=3):ap Tryz.prog aB 175 [v.pv] (.int .i64 (b9 v)):=by
 obtain⟨k,n,s,t,l,fs⟩:=v
 simp only[Val.kind] at hk;subst hk
 rw[show b9 (.mk 3 n s t l fs)=(if iu n (-999999999999999) 999999999999999=0 then iu s 0 12 else iu n (-999999999999999) 999999999999999) from rfl]
 have h:=cZ n (-999999999999999) 999999999999999
 have h':=cZ s 0 12
 change ap _ _ _ _ (.int .i64 (iu n (-999999999999999) 999999999999999)) at h
 change ap _ _ _ _ (.int .i64 (iu s 0 12)) at h'
 generalize iu n (-999999999999999) 999999999999999=e at *
 generalize iu s 0 12=e' at *
 have h2:=Ho e e'
 generalize (if e=0 then e' else e)=e2 at *
 refine ap.intro SJ.2 (by simp[SJ]) ?_
 simp(maxSteps:=9^7) (disch:=try exact dI) only[SJ,Uo,push_cast,seval]
 refine au h rfl ?_
 simp(maxSteps:=9^7) (disch:=try exact dI) only[push_cast,seval]
 refine ab.pure h' rfl ?_
 simp(maxSteps:=9^7) (disch:=try exact dI) only[push_cast,seval]
 refine ab.pure h2 rfl ?_
 simp(maxSteps:=9^7) (disch:=try exact dI) only[push_cast,seval]
theorem Kh (v:Val)(hk:v.kind=5):ap Tryz.prog aB 179 [v.pv] (.int .i64 (b9 v)):=by
 obtain⟨k,n,s,t,l,fs⟩:=v
 simp only[Val.kind] at hk;subst hk
 rw[show b9 (.mk 5 n s t l fs)=hU t.length 1024 5 from rfl]
 have h:=jj t.length 1024 5
 change ap _ _ _ _ (.int .i64 (hU t.length 1024 5)) at h
 generalize hU t.length 1024 5=e at *
 refine ap.intro SH.2 (by simp[SH]) ?_
 simp(maxSteps:=9^7) (disch:=try exact dI) only[SH,Uo,push_cast,seval]
 refine ab.pure h rfl ?_
 simp(maxSteps:=9^7) (disch:=try exact dI) only[push_cast,seval]
theorem Kg (v:Val)(hk:v.kind=6):ap Tryz.prog aB 180 [v.pv] (.int .i64 (b9 v)):=by
 obtain⟨k,n,s,t,l,fs⟩:=v
 simp only[Val.kind] at hk;subst hk
 rw[show b9 (.mk 6 n s t l fs)=iu n (-719162) 2932896 from rfl]
 have h:=cZ n (-719162) 2932896
 change ap _ _ _ _ (.int .i64 (iu n (-719162) 2932896)) at h
 generalize iu n (-719162) 2932896=e at *
 refine ap.intro SG.2 (by simp[SG]) ?_
 simp(maxSteps:=9^7) (disch:=try exact dI) only[SG,Uo,push_cast,seval]
 refine ab.pure h rfl ?_
 simp(maxSteps:=9^7) (disch:=try exact dI) only[push_cast,seval]
theorem Kf (v:Val)(hk:v.kind=7):ap Tryz.prog aB 181 [v.pv] (.int .i64 (b9 v)):=by
 obtain⟨k,n,s,t,l,fs⟩:=v
 simp only[Val.kind] at hk;subst hk
 rw[show b9 (.mk 7 n s t l fs)=iu n (-62135596800000) 253402300799999 from rfl]
 have h:=cZ n (-62135596800000) 253402300799999
 change ap _ _ _ _ (.int .i64 (iu n (-62135596800000) 253402300799999)) at h
 generalize iu n (-62135596800000) 253402300799999=e at *
 refine ap.intro SF.2 (by simp[SF]) ?_
 simp(maxSteps:=9^7) (disch:=try exact dI) only[SF,Uo,push_cast,seval]
 refine ab.pure h rfl ?_
 simp(maxSteps:=9^7) (disch:=try exact dI) only[push_cast,seval]
theorem Ke (v:Val)(hk:v.kind=8):ap Tryz.prog aB 182 [v.pv] (.int .i64 (b9 v)):=by
 obtain⟨k,n,s,t,l,fs⟩:=v
 simp only[Val.kind] at hk;subst hk
 rw[show b9 (.mk 8 n s t l fs)=hU l.length 256 9 from rfl]
 have h:=jj l.length 256 9
 change ap _ _ _ _ (.int .i64 (hU l.length 256 9)) at h
 generalize hU l.length 256 9=e at *
 refine ap.intro SE.2 (by simp[SE]) ?_
 simp(maxSteps:=9^7) (disch:=try exact dI) only[SE,Uo,push_cast,seval]
 refine ab.pure h rfl ?_
 simp(maxSteps:=9^7) (disch:=try exact dI) only[push_cast,seval]
theorem Ki (v:Val)(hk:v.kind=4):ap Tryz.prog aB 177 [v.pv] (.int .i64 (b9 v)):=by
 obtain⟨k,n,s,t,l,fs⟩:=v
 simp only[Val.kind] at hk;subst hk
 rw[show b9 (.mk 4 n s t l fs)=(if hU t.length 1024 5=0 then (if Lib.validD t=true then 0 else 16) else hU t.length 1024 5) from rfl]
 have h:=jj t.length 1024 5
 have hv:=fF t
 change ap _ _ _ _ (.int .i64 (hU t.length 1024 5)) at h
 generalize hU t.length 1024 5=e at *
 refine ap.intro QG.2 (by simp[QG]) ?_
 by_cases he:e=0
 ·subst he
  rw[if_pos rfl]
  cases hb:Lib.validD t with
  | true=>
    rw[hb] at hv
    rw[if_pos rfl]
    simp(maxSteps:=9^7) (disch:=try exact dI) only[QG,Uo,push_cast,seval]
    refine ab.pure h rfl ?_
    simp(maxSteps:=9^7) (disch:=try exact dI) only[push_cast,seval]
    refine ab.pure hv rfl ?_
    simp(maxSteps:=9^7) (disch:=try exact dI) only[push_cast,seval]
  | false=>
    rw[hb] at hv
    rw[if_neg (by simp)]
    simp(maxSteps:=9^7) (disch:=try exact dI) only[QG,Uo,push_cast,seval]
    refine ab.pure h rfl ?_
    simp(maxSteps:=9^7) (disch:=try exact dI) only[push_cast,seval]
    refine ab.pure hv rfl ?_
    simp(maxSteps:=9^7) (disch:=try exact dI) only[push_cast,seval]
 ·rw[if_neg he]
  simp(maxSteps:=9^7) (disch:=try exact dI) only[QG,Uo,push_cast,seval]
  refine ab.pure h rfl ?_
  simp(maxSteps:=9^7) (disch:=try exact dI) only[push_cast,seval]
theorem qE {fs:List (List UInt8)}{i:Nat}{s:List UInt8}(h:fs[i]? = some s)(p:Option (List UInt8)):iw p (fs.drop i)=if aE s=false then 12 else if p=some s then 7 else if (p.any fun q=>ca s q)=true then 24 else iw (some s) (fs.drop (i+1)):=by
 have hi:i<fs.length:=(Ur.1 h).1
 have he:fs[i]=s:=(Ur.1 h).2
 rw[List.drop_eq_getElem_cons hi,he,iw]
def qy (fs:List Fld)(i:Nat):Option (List UInt8):=if i=0 then none else (fs[i - 1]?).map Fld.name
theorem Kd (v:Val)(hk:v.kind=9):ap Tryz.prog aB 183 [v.pv] (.int .i64 (b9 v)):=by
 obtain⟨k,n,s,t,l,fs⟩:=v
 simp only[Val.kind] at hk;subst hk
 rw[show b9 (.mk 9 n s t l fs)=(if hU fs.length 64 9=0 then iw none (fs.map Fld.name) else hU fs.length 64 9) from rfl]
 have h:=jj fs.length 64 9
 change ap _ _ _ _ (.int .i64 (hU fs.length 64 9)) at h
 by_cases h64:(64:Int)<fs.length
 ·have e:hU fs.length 64 9=9:=if_pos h64
  rw[e] at h ⊢
  rw[if_neg (by omega)]
  refine ap.intro Nk.2 (by simp[Nk]) ?_
  simp(maxSteps:=9^7) (disch:=try exact dI) only[Nk,Uo,push_cast,seval]
  refine ab.pure h rfl ?_
  simp(maxSteps:=9^7) (disch:=try exact dI) only[push_cast,seval]
 ·have e:hU fs.length 64 9=0:=if_neg h64
  rw[e] at h ⊢
  rw[if_pos rfl]
  have hfl:fs.length<=64:=by omega
  obtain⟨R,hR⟩:∃ R,R=iw none (fs.map Fld.name):=⟨_,rfl⟩
  rw[<- hR]
  refine ap.intro Nk.2 (by simp[Nk]) ?_
  simp(maxSteps:=9^7) (disch:=try exact dI) only[Nk,Uo,push_cast,seval]
  refine ab.pure h rfl ?_
  simp(maxSteps:=9^7) (disch:=try exact dI) only[push_cast,seval]
  refine aw ([]) (fun i:Nat=>[(16,.pv (.int .i64 (i:Int)))]) (fun _=>[]) (fun i=>i<=fs.length/\R=iw (qy fs i) ((fs.map Fld.name).drop i)) (fun i=>fs.length - i) (0) ?_;intro e0 σ0 n0 h0;simp(maxSteps:=9^7) (disch:=try exact dI) only[push_cast,seval] at h0;obtain⟨rfl,rfl,rfl⟩:=h0;refine⟨?_,?_,?_⟩
  ·simp(maxSteps:=9^7) (disch:=try exact dI) only[push_cast,seval]
  ·exact⟨by omega,by simpa[qy] using hR⟩
  rintro i ⟨hi,hr⟩
  by_cases hlt:i<fs.length
  ·have hltI:(i:Int)<(fs.length:Int):=by omega
   obtain⟨c,hc⟩:∃ c,fs[i]? = some c:=⟨_,Uq hlt⟩
   obtain⟨nm,⟨k',n',s',t',l',f'⟩⟩:=c
   have hcp:(fs.map Fld.pv)[i]? = some (.agg [.str nm,.int .i64 k',.int .i64 n',.int .i64 s',.str t',.list (l'.map Val.pv),.list (f'.map Fld.pv)]):=by simp[hc,TY,Uo,ae]
   have hnm:(fs.map Fld.name)[i]? = some nm:=by simp[hc,Fld.name]
   have hn:=me nm
   rw[qE hnm] at hr
   have hnext:qy fs (i+1)=some nm:=by simp[qy,hc,Fld.name]
   cases hb:aE nm with
   | false=>
     rw[hb] at hn hr
     rw[if_pos rfl] at hr
     subst hr
     simp(maxSteps:=9^7) (disch:=try exact dI) only[hcp,push_cast,seval]
     refine ab.pure hn rfl ?_
     simp(maxSteps:=9^7) (disch:=try exact dI) only[push_cast,seval]
   | true=>
     rw[hb] at hn hr
     rw[if_neg (by simp)] at hr
     by_cases hi0:i=0
     ·have hiI:¬ (0:Int)<(i:Int):=by omega
      have hpn:qy fs i=none:=if_pos hi0
      rw[hpn,if_neg (by simp),if_neg (by simp),<- hnext] at hr
      simp(maxSteps:=9^7) (disch:=try exact dI) only[hcp,push_cast,seval]
      refine ab.pure hn rfl ?_
      simp(maxSteps:=9^7) (disch:=try exact dI) only[push_cast,seval]
      exact⟨i+1,aN qsZ,⟨by omega,by rw[List.map_drop];exact hr⟩,by omega⟩
     ·obtain⟨j,rfl⟩:∃ j,i=j+1:=⟨i - 1,by omega⟩
      obtain⟨c,hc'⟩:∃ c,fs[j]? = some c:=⟨_,Uq (by omega)⟩
      have hpn:qy fs (j+1)=some c.name:=by simp[qy,hc']
      obtain⟨q,⟨k2,n2,s2,t2,l2,f2⟩⟩:=c
      have hcq:(fs.map Fld.pv)[j]? = some (.agg [.str q,.int .i64 k2,.int .i64 n2,.int .i64 s2,.str t2,.list (l2.map Val.pv),.list (f2.map Fld.pv)]):=by simp[hc',TY,Uo,ae]
      simp only[Fld.name] at hpn
      rw[hpn] at hr
      by_cases hq:nm=q
      ·subst hq
       rw[if_pos rfl] at hr
       subst hr
       simp(maxSteps:=9^7) (disch:=try exact dI) only[hcp,U7,push_cast,seval]
       refine ab.pure hn rfl ?_
       simp(maxSteps:=9^7) (disch:=try exact dI) only[hcq,U7,push_cast,seval]
      ·rw[if_neg (by simpa using fun e=>hq e.symm)] at hr
       cases hlt2:ca nm q with
       | true=>
         rw[if_pos (by simpa using hlt2)] at hr
         subst hr
         simp(maxSteps:=9^7) (disch:=try exact dI) only[hcp,U7,push_cast,seval]
         refine ab.pure hn rfl ?_
         simp(maxSteps:=9^7) (disch:=try exact dI) only[hcq,U7,hq,hlt2,push_cast,seval]
       | false=>
         rw[if_neg (by simp[hlt2]),<- hnext] at hr
         simp(maxSteps:=9^7) (disch:=try exact dI) only[hcp,U7,push_cast,seval]
         refine ab.pure hn rfl ?_
         simp(maxSteps:=9^7) (disch:=try exact dI) only[hcq,U7,hq,hlt2,push_cast,seval]
         exact⟨j+1+1,aN qsZ,⟨by omega,by rw[List.map_drop];exact hr⟩,by omega⟩
  ·have hie:i=fs.length:=by omega
   subst hie
   rw[List.drop_of_length_le (by simp)] at hr
   rw[show R=0 from hr]
   simp(maxSteps:=9^7) (disch:=try exact dI) only[push_cast,seval]
theorem Kc (v:Val)(hk:v.kind=10):ap Tryz.prog aB 184 [v.pv] (.int .i64 (b9 v)):=by
 obtain⟨k,n,s,t,l,fs⟩:=v
 simp only[Val.kind] at hk;subst hk
 rw[show b9 (.mk 10 n s t l fs)=(if aE t=false then 12 else if l.length=0 then 4 else hU l.length 1 3) from rfl]
 have h:=jj l.length 1 3
 have hn:=me t
 change ap _ _ _ _ (.int .i64 (hU l.length 1 3)) at h
 generalize hU l.length 1 3=e at *
 refine ap.intro QF.2 (by simp[QF]) ?_
 cases hb:aE t with
 | false=>
   rw[hb] at hn
   rw[if_pos rfl]
   simp(maxSteps:=9^7) (disch:=try exact dI) only[QF,Uo,push_cast,seval]
   refine ab.pure hn rfl ?_
   simp(maxSteps:=9^7) (disch:=try exact dI) only[push_cast,seval]
 | true=>
   rw[hb] at hn
   rw[if_neg (by simp)]
   by_cases hl:l.length=0
   ·have hlI:(l.length:Int)=0:=by omega
    rw[if_pos hl]
    simp(maxSteps:=9^7) (disch:=try exact dI) only[QF,Uo,push_cast,seval]
    refine ab.pure hn rfl ?_
    simp(maxSteps:=9^7) (disch:=try exact dI) only[push_cast,seval]
   ·have hlI:¬ (l.length:Int)=0:=by omega
    rw[if_neg hl]
    simp(maxSteps:=9^7) (disch:=try exact dI) only[QF,Uo,push_cast,seval]
    refine ab.pure hn rfl ?_
    simp(maxSteps:=9^7) (disch:=try exact dI) only[push_cast,seval]
    refine ab.pure h rfl ?_
    simp(maxSteps:=9^7) (disch:=try exact dI) only[push_cast,seval]
