/- A part of the proof for FixedwidthRepresentableCardSaid. -/
import Derived.Test.YtbojpfpliibfbaaGreatDoorReRR4
set_option maxRecDepth 100000
set_option linter.unusedVariables false
set_option linter.unusedSimpArgs false
-- many steps
namespace Go.Proofs.YtbojpfpliibfbaaGreatDoor
open Go Go.Ab
attribute [local irreducible] vc
def da (n a b:Int):Int:=if n<a∨b<n then 2 else 0
def cm (n m e:Int):Int:=if m<n then e else 0
def d7:Option (List UInt8)→List (List UInt8)→Int
 | _,[]=>0
 | p,s::r=>if bM s=false then 12 else if p=some s then 7 else if (p.any fun q=>bV s q)=true then 24 else d7 (some s) r
def bu:Val→Int
 | .mk k n s t l fs=>
   if k=1 then da n 0 1
   else if k=2 then da n (-999999999999999) 999999999999999
   else if k=3 then (if da n (-999999999999999) 999999999999999=0 then da s 0 12 else da n (-999999999999999) 999999999999999)
   else if k=4 then (if cm t.length 1024 5=0 then (if Lib.validD t=true then 0 else 16) else cm t.length 1024 5)
   else if k=5 then cm t.length 1024 5
   else if k=6 then da n (-719162) 2932896
   else if k=7 then da n (-62135596800000) 253402300799999
   else if k=8 then cm l.length 256 9
   else if k=9 then (if cm fs.length 64 9=0 then d7 none (fs.map Fld.name) else cm fs.length 64 9)
   else if k=10 then (if bM t=false then 12 else if l.length=0 then 4 else cm l.length 1 3)
   else 0
theorem EA (v:Val)(hk:v.kind=1):ag Tryz.prog aD 282 [v.pv] (.int .i64 (bu v)):=by
 obtain⟨k,n,s,t,l,fs⟩:=v
 simp only[Val.kind] at hk;subst hk
 rw[show bu (.mk 1 n s t l fs)=da n 0 1 from rfl]
 have h:=cC n 0 1
 change ag _ _ _ _ (.int .i64 (da n 0 1)) at h
 generalize da n 0 1=e at *
 refine ag.intro GI (by simp[MZ]) ?_
 simp(maxSteps:=9^7) (disch:=try exact dI) only[MZ,Val.pv_mk,push_cast,seval]
 refine ab.pure h rfl ?_
 simp(maxSteps:=9^7) (disch:=try exact dI) only[push_cast,seval]
theorem Ez (v:Val)(hk:v.kind=2):ag Tryz.prog aD 284 [v.pv] (.int .i64 (bu v)):=by
 obtain⟨k,n,s,t,l,fs⟩:=v
 simp only[Val.kind] at hk;subst hk
 rw[show bu (.mk 2 n s t l fs)=da n (-999999999999999) 999999999999999 from rfl]
 have h:=cC n (-999999999999999) 999999999999999
 change ag _ _ _ _ (.int .i64 (da n (-999999999999999) 999999999999999)) at h
 generalize da n (-999999999999999) 999999999999999=e at *
 refine ag.intro GG (by simp[MY]) ?_
 simp(maxSteps:=9^7) (disch:=try exact dI) only[MY,Val.pv_mk,push_cast,seval]
 refine ab.pure h rfl ?_
 simp(maxSteps:=9^7) (disch:=try exact dI) only[push_cast,seval]
def fA:List Int→Int
 | []=>0
 | a::r=>if a=0 then fA r else a
theorem mg:∀ {L:List Int} {i:Nat} {x:Int},L[i]? = some x→x≠0→(∀ j,j<i→∀ y,L[j]? = some y→y=0)→fA L=x
 | [],i,x,h,_,_=>by simp at h
 | a::r,0,x,h,hx,_=>by simp at h;subst h;exact if_neg hx
 | a::r,i+1,x,h,hx,h0=>by
   have ha:=h0 0 (by omega) a rfl
   subst ha
   rw[fA,if_pos rfl]
   exact mg (by simpa using h) hx fun j hj y hy=>h0 (j+1) (by omega) y (by simpa using hy)
theorem iS:∀ {L:List Int},(∀ (j:Nat) y,L[j]? = some y→y=0)→fA L=0
 | [],_=>rfl
 | a::r,h=>by
   rw[fA,if_pos (h 0 a rfl)]
   exact iS fun j y hy=>h (j+1) y (by simpa using hy)
theorem wC (L:List Int)(hL:L.length≤1000):ag Tryz.prog aD 286 [.list (L.map fun n=>.int .i64 n)] (.int .i64 (fA L)):=by
 generalize hr:fA L=e
 refine ag.intro GE (by simp[MW]) ?_
 simp(maxSteps:=9^7) (disch:=try exact dI) only[MW,push_cast,seval]
 refine aw ([]) (fun i:Nat=>[(7,.pv (.int .i64 (i:Int)))]) (fun _=>[]) (fun i=>i≤L.length∧(∀ j,j<i→∀ y,L[j]? = some y→y=0)) (fun i=>L.length - i) (0) ?_;intro e0 σ0 n0 h0;simp(maxSteps:=9^7) (disch:=try exact dI) only[push_cast,seval] at h0;obtain⟨rfl,rfl,rfl⟩:=h0;refine⟨?_,?_,?_⟩
 ·simp(maxSteps:=9^7) (disch:=try exact dI) only[push_cast,seval]
 ·exact⟨by omega,by omega⟩
 rintro i ⟨hi,h0⟩
 by_cases hlt:i<L.length
 ·have hltI:(i:Int)<(L.length:Int):=by omega
  obtain⟨x,hx⟩:∃ x,L[i]? = some x:=⟨_,List.getElem?_eq_getElem hlt⟩
  have hcp:(L.map fun n=>PV.int .i64 n)[i]? = some (.int .i64 x):=by simp[hx]
  by_cases hx0:x=0
  ·subst hx0
   simp(maxSteps:=9^7) (disch:=try exact dI) only[hcp,push_cast,seval]
   exact⟨i+1,aT qsZ,⟨by omega,fun j hj y hy=>by
    rcases Nat.lt_or_ge j i with h | h
    ·exact h0 j h y hy
    ·have:j=i:=by omega
     subst this
     rw[hx] at hy;exact (Option.some.inj hy).symm⟩,by omega⟩
  ·have:=mg hx hx0 h0
   rw[this] at hr
   subst hr
   simp(maxSteps:=9^7) (disch:=try exact dI) only[hcp,push_cast,seval]
 ·have:=iS (L:=L) fun j y hy=>h0 j (by have:=(List.getElem?_eq_some_iff.1 hy).1;omega) y hy
  rw[this] at hr
  subst hr
  simp(maxSteps:=9^7) (disch:=try exact dI) only[push_cast,seval]
theorem BY (a b:Int):ag Tryz.prog aD 286 [.list [.int .i64 a,.int .i64 b]] (.int .i64 (if a=0 then b else a)):=by
 have:=wC [a,b] (by simp)
 have e:fA [a,b]=if a=0 then b else a:=by
  simp only[fA]
  by_cases hb:b=0
  ·subst hb;simp
  ·simp[hb]
 rw[e] at this
 exact this
theorem Ey (v:Val)(hk:v.kind=3):ag Tryz.prog aD 285 [v.pv] (.int .i64 (bu v)):=by
 obtain⟨k,n,s,t,l,fs⟩:=v
 simp only[Val.kind] at hk;subst hk
 rw[show bu (.mk 3 n s t l fs)=(if da n (-999999999999999) 999999999999999=0 then da s 0 12 else da n (-999999999999999) 999999999999999) from rfl]
 have h:=cC n (-999999999999999) 999999999999999
 have h':=cC s 0 12
 change ag _ _ _ _ (.int .i64 (da n (-999999999999999) 999999999999999)) at h
 change ag _ _ _ _ (.int .i64 (da s 0 12)) at h'
 generalize da n (-999999999999999) 999999999999999=e at *
 generalize da s 0 12=e' at *
 have h2:=BY e e'
 generalize (if e=0 then e' else e)=e2 at *
 refine ag.intro GF (by simp[MX]) ?_
 simp(maxSteps:=9^7) (disch:=try exact dI) only[MX,Val.pv_mk,push_cast,seval]
 refine aA h rfl ?_
 simp(maxSteps:=9^7) (disch:=try exact dI) only[push_cast,seval]
 refine ab.pure h' rfl ?_
 simp(maxSteps:=9^7) (disch:=try exact dI) only[push_cast,seval]
 refine ab.pure h2 rfl ?_
 simp(maxSteps:=9^7) (disch:=try exact dI) only[push_cast,seval]
theorem Ew (v:Val)(hk:v.kind=5):ag Tryz.prog aD 289 [v.pv] (.int .i64 (bu v)):=by
 obtain⟨k,n,s,t,l,fs⟩:=v
 simp only[Val.kind] at hk;subst hk
 rw[show bu (.mk 5 n s t l fs)=cm t.length 1024 5 from rfl]
 have h:=ig t.length 1024 5
 change ag _ _ _ _ (.int .i64 (cm t.length 1024 5)) at h
 generalize cm t.length 1024 5=e at *
 refine ag.intro GB (by simp[MV]) ?_
 simp(maxSteps:=9^7) (disch:=try exact dI) only[MV,Val.pv_mk,push_cast,seval]
 refine ab.pure h rfl ?_
 simp(maxSteps:=9^7) (disch:=try exact dI) only[push_cast,seval]
theorem Ev (v:Val)(hk:v.kind=6):ag Tryz.prog aD 290 [v.pv] (.int .i64 (bu v)):=by
 obtain⟨k,n,s,t,l,fs⟩:=v
 simp only[Val.kind] at hk;subst hk
 rw[show bu (.mk 6 n s t l fs)=da n (-719162) 2932896 from rfl]
 have h:=cC n (-719162) 2932896
 change ag _ _ _ _ (.int .i64 (da n (-719162) 2932896)) at h
 generalize da n (-719162) 2932896=e at *
 refine ag.intro GA (by simp[MU]) ?_
 simp(maxSteps:=9^7) (disch:=try exact dI) only[MU,Val.pv_mk,push_cast,seval]
 refine ab.pure h rfl ?_
 simp(maxSteps:=9^7) (disch:=try exact dI) only[push_cast,seval]
theorem Eu (v:Val)(hk:v.kind=7):ag Tryz.prog aD 291 [v.pv] (.int .i64 (bu v)):=by
 obtain⟨k,n,s,t,l,fs⟩:=v
 simp only[Val.kind] at hk;subst hk
 rw[show bu (.mk 7 n s t l fs)=da n (-62135596800000) 253402300799999 from rfl]
 have h:=cC n (-62135596800000) 253402300799999
 change ag _ _ _ _ (.int .i64 (da n (-62135596800000) 253402300799999)) at h
 generalize da n (-62135596800000) 253402300799999=e at *
 refine ag.intro Gz (by simp[MT]) ?_
 simp(maxSteps:=9^7) (disch:=try exact dI) only[MT,Val.pv_mk,push_cast,seval]
 refine ab.pure h rfl ?_
 simp(maxSteps:=9^7) (disch:=try exact dI) only[push_cast,seval]
theorem Et (v:Val)(hk:v.kind=8):ag Tryz.prog aD 292 [v.pv] (.int .i64 (bu v)):=by
 obtain⟨k,n,s,t,l,fs⟩:=v
 simp only[Val.kind] at hk;subst hk
 rw[show bu (.mk 8 n s t l fs)=cm l.length 256 9 from rfl]
 have h:=ig l.length 256 9
 change ag _ _ _ _ (.int .i64 (cm l.length 256 9)) at h
 generalize cm l.length 256 9=e at *
 refine ag.intro Gy (by simp[MS]) ?_
 simp(maxSteps:=9^7) (disch:=try exact dI) only[MS,Val.pv_mk,push_cast,seval]
 refine ab.pure h rfl ?_
 simp(maxSteps:=9^7) (disch:=try exact dI) only[push_cast,seval]
theorem Ex (v:Val)(hk:v.kind=4):ag Tryz.prog aD 287 [v.pv] (.int .i64 (bu v)):=by
 obtain⟨k,n,s,t,l,fs⟩:=v
 simp only[Val.kind] at hk;subst hk
 rw[show bu (.mk 4 n s t l fs)=(if cm t.length 1024 5=0 then (if Lib.validD t=true then 0 else 16) else cm t.length 1024 5) from rfl]
 have h:=ig t.length 1024 5
 have hv:=dh t
 change ag _ _ _ _ (.int .i64 (cm t.length 1024 5)) at h
 generalize cm t.length 1024 5=e at *
 refine ag.intro GD (by simp[KH]) ?_
 by_cases he:e=0
 ·subst he
  rw[if_pos rfl]
  cases hb:Lib.validD t with
  | true=>
    rw[hb] at hv
    rw[if_pos rfl]
    simp(maxSteps:=9^7) (disch:=try exact dI) only[KH,Val.pv_mk,push_cast,seval]
    refine ab.pure h rfl ?_
    simp(maxSteps:=9^7) (disch:=try exact dI) only[push_cast,seval]
    refine ab.pure hv rfl ?_
    simp(maxSteps:=9^7) (disch:=try exact dI) only[push_cast,seval]
  | false=>
    rw[hb] at hv
    rw[if_neg (by simp)]
    simp(maxSteps:=9^7) (disch:=try exact dI) only[KH,Val.pv_mk,push_cast,seval]
    refine ab.pure h rfl ?_
    simp(maxSteps:=9^7) (disch:=try exact dI) only[push_cast,seval]
    refine ab.pure hv rfl ?_
    simp(maxSteps:=9^7) (disch:=try exact dI) only[push_cast,seval]
 ·rw[if_neg he]
  simp(maxSteps:=9^7) (disch:=try exact dI) only[KH,Val.pv_mk,push_cast,seval]
  refine ab.pure h rfl ?_
  simp(maxSteps:=9^7) (disch:=try exact dI) only[push_cast,seval]
theorem iD {fs:List (List UInt8)}{i:Nat}{s:List UInt8}(h:fs[i]? = some s)(p:Option (List UInt8)):d7 p (fs.drop i)=if bM s=false then 12 else if p=some s then 7 else if (p.any fun q=>bV s q)=true then 24 else d7 (some s) (fs.drop (i+1)):=by
 have hi:i<fs.length:=(List.getElem?_eq_some_iff.1 h).1
 have he:fs[i]=s:=(List.getElem?_eq_some_iff.1 h).2
 rw[List.drop_eq_getElem_cons hi,he,d7]
def fq (fs:List Fld)(i:Nat):Option (List UInt8):=if i=0 then none else (fs[i - 1]?).map Fld.name
set_option maxHeartbeats 2000000 in
theorem Er (v:Val)(hk:v.kind=9):ag Tryz.prog aD 293 [v.pv] (.int .i64 (bu v)):=by
 obtain⟨k,n,s,t,l,fs⟩:=v
 simp only[Val.kind] at hk;subst hk
 rw[show bu (.mk 9 n s t l fs)=(if cm fs.length 64 9=0 then d7 none (fs.map Fld.name) else cm fs.length 64 9) from rfl]
 have h:=ig fs.length 64 9
 change ag _ _ _ _ (.int .i64 (cm fs.length 64 9)) at h
 by_cases h64:(64:Int)<fs.length
 ·have e:cm fs.length 64 9=9:=if_pos h64
  rw[e] at h ⊢
  rw[if_neg (by omega)]
  refine ag.intro x9 (by simp[KF]) ?_
  simp(maxSteps:=9^7) (disch:=try exact dI) only[KF,Val.pv_mk,push_cast,seval]
  refine ab.pure h rfl ?_
  simp(maxSteps:=9^7) (disch:=try exact dI) only[push_cast,seval]
 ·have e:cm fs.length 64 9=0:=if_neg h64
  rw[e] at h ⊢
  rw[if_pos rfl]
  have hfl:fs.length≤64:=by omega
  obtain⟨R,hR⟩:∃ R,R=d7 none (fs.map Fld.name):=⟨_,rfl⟩
  rw[← hR]
  refine ag.intro x9 (by simp[KF]) ?_
  simp(maxSteps:=9^7) (disch:=try exact dI) only[KF,Val.pv_mk,push_cast,seval]
  refine ab.pure h rfl ?_
  simp(maxSteps:=9^7) (disch:=try exact dI) only[push_cast,seval]
  refine aw ([]) (fun i:Nat=>[(16,.pv (.int .i64 (i:Int)))]) (fun _=>[]) (fun i=>i≤fs.length∧R=d7 (fq fs i) ((fs.map Fld.name).drop i)) (fun i=>fs.length - i) (0) ?_;intro e0 σ0 n0 h0;simp(maxSteps:=9^7) (disch:=try exact dI) only[push_cast,seval] at h0;obtain⟨rfl,rfl,rfl⟩:=h0;refine⟨?_,?_,?_⟩
  ·simp(maxSteps:=9^7) (disch:=try exact dI) only[push_cast,seval]
  ·exact⟨by omega,by simpa[fq] using hR⟩
  rintro i ⟨hi,hr⟩
  by_cases hlt:i<fs.length
  ·have hltI:(i:Int)<(fs.length:Int):=by omega
   obtain⟨c,hc⟩:∃ c,fs[i]? = some c:=⟨_,List.getElem?_eq_getElem hlt⟩
   obtain⟨nm,⟨k',n',s',t',l',f'⟩⟩:=c
   have hcp:(fs.map Fld.pv)[i]? = some (.agg [.str nm,.int .i64 k',.int .i64 n',.int .i64 s',.str t',.list (l'.map Val.pv),.list (f'.map Fld.pv)]):=by simp[hc,Fld.pv_mk,Val.pv_mk,ae]
   have hnm:(fs.map Fld.name)[i]? = some nm:=by simp[hc,Fld.name]
   have hn:=nE nm
   rw[iD hnm] at hr
   have hnext:fq fs (i+1)=some nm:=by simp[fq,hc,Fld.name]
   cases hb:bM nm with
   | false=>
     rw[hb] at hn hr
     rw[if_pos rfl] at hr
     subst hr
     simp(maxSteps:=9^7) (disch:=try exact dI) only[hcp,push_cast,seval]
     refine ab.pure hn rfl ?_
     simp(maxSteps:=9^7) (disch:=try exact dI) only[push_cast,seval]
   | true=>
     rw[hb] at hn hr
     rw[if_neg (by simp)] at hr
     by_cases hi0:i=0
     ·have hiI:¬ (0:Int)<(i:Int):=by omega
      have hpn:fq fs i=none:=if_pos hi0
      rw[hpn,if_neg (by simp),if_neg (by simp),← hnext] at hr
      simp(maxSteps:=9^7) (disch:=try exact dI) only[hcp,push_cast,seval]
      refine ab.pure hn rfl ?_
      simp(maxSteps:=9^7) (disch:=try exact dI) only[push_cast,seval]
      exact⟨i+1,aT qsZ,⟨by omega,by rw[List.map_drop];exact hr⟩,by omega⟩
     ·obtain⟨j,rfl⟩:∃ j,i=j+1:=⟨i - 1,by omega⟩
      obtain⟨c,hc'⟩:∃ c,fs[j]? = some c:=⟨_,List.getElem?_eq_getElem (by omega)⟩
      have hpn:fq fs (j+1)=some c.name:=by simp[fq,hc']
      obtain⟨q,⟨k2,n2,s2,t2,l2,f2⟩⟩:=c
      have hcq:(fs.map Fld.pv)[j]? = some (.agg [.str q,.int .i64 k2,.int .i64 n2,.int .i64 s2,.str t2,.list (l2.map Val.pv),.list (f2.map Fld.pv)]):=by simp[hc',Fld.pv_mk,Val.pv_mk,ae]
      simp only[Fld.name] at hpn
      rw[hpn] at hr
      by_cases hq:nm=q
      ·subst hq
       rw[if_pos rfl] at hr
       subst hr
       simp(maxSteps:=9^7) (disch:=try exact dI) only[hcp,Int.add_sub_cancel,push_cast,seval]
       refine ab.pure hn rfl ?_
       simp(maxSteps:=9^7) (disch:=try exact dI) only[hcq,Int.add_sub_cancel,push_cast,seval]
      ·rw[if_neg (by simpa using fun e=>hq e.symm)] at hr
       cases hlt2:bV nm q with
       | true=>
         rw[if_pos (by simpa using hlt2)] at hr
         subst hr
         simp(maxSteps:=9^7) (disch:=try exact dI) only[hcp,Int.add_sub_cancel,push_cast,seval]
         refine ab.pure hn rfl ?_
         simp(maxSteps:=9^7) (disch:=try exact dI) only[hcq,Int.add_sub_cancel,hq,hlt2,push_cast,seval]
       | false=>
         rw[if_neg (by simp[hlt2]),← hnext] at hr
         simp(maxSteps:=9^7) (disch:=try exact dI) only[hcp,Int.add_sub_cancel,push_cast,seval]
         refine ab.pure hn rfl ?_
         simp(maxSteps:=9^7) (disch:=try exact dI) only[hcq,Int.add_sub_cancel,hq,hlt2,push_cast,seval]
         exact⟨j+1+1,aT qsZ,⟨by omega,by rw[List.map_drop];exact hr⟩,by omega⟩
  ·have hie:i=fs.length:=by omega
   subst hie
   rw[List.drop_of_length_le (by simp)] at hr
   rw[show R=0 from hr]
   simp(maxSteps:=9^7) (disch:=try exact dI) only[push_cast,seval]
theorem Ep (v:Val)(hk:v.kind=10):ag Tryz.prog aD 294 [v.pv] (.int .i64 (bu v)):=by
 obtain⟨k,n,s,t,l,fs⟩:=v
 simp only[Val.kind] at hk;subst hk
 rw[show bu (.mk 10 n s t l fs)=(if bM t=false then 12 else if l.length=0 then 4 else cm l.length 1 3) from rfl]
 have h:=ig l.length 1 3
 have hn:=nE t
 change ag _ _ _ _ (.int .i64 (cm l.length 1 3)) at h
 generalize cm l.length 1 3=e at *
 refine ag.intro Gw (by simp[KD]) ?_
 cases hb:bM t with
 | false=>
   rw[hb] at hn
   rw[if_pos rfl]
   simp(maxSteps:=9^7) (disch:=try exact dI) only[KD,Val.pv_mk,push_cast,seval]
   refine ab.pure hn rfl ?_
   simp(maxSteps:=9^7) (disch:=try exact dI) only[push_cast,seval]
 | true=>
   rw[hb] at hn
   rw[if_neg (by simp)]
   by_cases hl:l.length=0
   ·have hlI:(l.length:Int)=0:=by omega
    rw[if_pos hl]
    simp(maxSteps:=9^7) (disch:=try exact dI) only[KD,Val.pv_mk,push_cast,seval]
    refine ab.pure hn rfl ?_
    simp(maxSteps:=9^7) (disch:=try exact dI) only[push_cast,seval]
   ·have hlI:¬ (l.length:Int)=0:=by omega
    rw[if_neg hl]
    simp(maxSteps:=9^7) (disch:=try exact dI) only[KD,Val.pv_mk,push_cast,seval]
    refine ab.pure hn rfl ?_
    simp(maxSteps:=9^7) (disch:=try exact dI) only[push_cast,seval]
    refine ab.pure h rfl ?_
    simp(maxSteps:=9^7) (disch:=try exact dI) only[push_cast,seval]
end Go.Proofs.YtbojpfpliibfbaaGreatDoor
