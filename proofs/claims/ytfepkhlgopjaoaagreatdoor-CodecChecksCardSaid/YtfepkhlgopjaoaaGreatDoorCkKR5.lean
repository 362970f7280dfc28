/- A part of the proof for CodecChecksCardSaid. -/
import Derived.Test.YtfepkhlgopjaoaaGreatDoorCkKR2
set_option linter.unusedVariables false
set_option linter.unusedSimpArgs false
set_option maxRecDepth 100000
-- many steps
namespace Go.Proofs.YtfepkhlgopjaoaaGreatDoor
open Go Go.Ab
attribute [local irreducible] vc
def fy (n a b:Int):Int:=if n<a∨b<n then 2 else 0
def fg (n m e:Int):Int:=if m<n then e else 0
def fC:Option (List UInt8)→List (List UInt8)→Int
 | _,[]=>0
 | p,s::r=>if cp s=false then 12 else if p=some s then 7 else if (p.any fun q=>bj s q)=true then 24 else fC (some s) r
def bi:Val→Int
 | .mk k n s t l fs=>
   if k=1 then fy n 0 1
   else if k=2 then fy n (-999999999999999) 999999999999999
   else if k=3 then (if fy n (-999999999999999) 999999999999999=0 then fy s 0 12 else fy n (-999999999999999) 999999999999999)
   else if k=4 then (if fg t.length 1024 5=0 then (if Lib.validD t=true then 0 else 16) else fg t.length 1024 5)
   else if k=5 then fg t.length 1024 5
   else if k=6 then fy n (-719162) 2932896
   else if k=7 then fy n (-62135596800000) 253402300799999
   else if k=8 then fg l.length 256 9
   else if k=9 then (if fg fs.length 64 9=0 then fC none (fs.map Fld.name) else fg fs.length 64 9)
   else if k=10 then (if cp t=false then 12 else if l.length=0 then 4 else fg l.length 1 3)
   else 0
theorem E5 (v:Val)(hk:v.kind=1):aq Tryz.prog aA 212 [v.pv] (.int .i64 (bi v)):=by
 obtain⟨k,n,s,t,l,fs⟩:=v
 simp only[Val.kind] at hk;subst hk
 rw[show bi (.mk 1 n s t l fs)=fy n 0 1 from rfl]
 have h:=bH n 0 1
 change aq _ _ _ _ (.int .i64 (fy n 0 1)) at h
 generalize fy n 0 1=e at *
 refine aq.intro Hn (by simp[M1]) ?_
 simp(maxSteps:=9^7) (disch:=try exact dI) only[M1,Val.pv_mk,push_cast,seval]
 refine ab.pure h rfl ?_
 simp(maxSteps:=9^7) (disch:=try exact dI) only[push_cast,seval]
theorem E4 (v:Val)(hk:v.kind=2):aq Tryz.prog aA 214 [v.pv] (.int .i64 (bi v)):=by
 obtain⟨k,n,s,t,l,fs⟩:=v
 simp only[Val.kind] at hk;subst hk
 rw[show bi (.mk 2 n s t l fs)=fy n (-999999999999999) 999999999999999 from rfl]
 have h:=bH n (-999999999999999) 999999999999999
 change aq _ _ _ _ (.int .i64 (fy n (-999999999999999) 999999999999999)) at h
 generalize fy n (-999999999999999) 999999999999999=e at *
 refine aq.intro Hl (by simp[M0]) ?_
 simp(maxSteps:=9^7) (disch:=try exact dI) only[M0,Val.pv_mk,push_cast,seval]
 refine ab.pure h rfl ?_
 simp(maxSteps:=9^7) (disch:=try exact dI) only[push_cast,seval]
def eL:List Int→Int
 | []=>0
 | a::r=>if a=0 then eL r else a
theorem lg:∀ {L:List Int} {i:Nat} {x:Int},L[i]? = some x→x≠0→(∀ j,j<i→∀ y,L[j]? = some y→y=0)→eL L=x
 | [],i,x,h,_,_=>by simp at h
 | a::r,0,x,h,hx,_=>by simp at h;subst h;exact if_neg hx
 | a::r,i+1,x,h,hx,h0=>by
   have ha:=h0 0 (by omega) a rfl
   subst ha
   rw[eL,if_pos rfl]
   exact lg (by simpa using h) hx fun j hj y hy=>h0 (j+1) (by omega) y (by simpa using hy)
theorem gR:∀ {L:List Int},(∀ (j:Nat) y,L[j]? = some y→y=0)→eL L=0
 | [],_=>rfl
 | a::r,h=>by
   rw[eL,if_pos (h 0 a rfl)]
   exact gR fun j y hy=>h (j+1) y (by simpa using hy)
theorem wZ (L:List Int)(hL:L.length≤1000):aq Tryz.prog aA 216 [.list (L.map fun n=>.int .i64 n)] (.int .i64 (eL L)):=by
 generalize hr:eL L=e
 refine aq.intro Hj (by simp[MY]) ?_
 simp(maxSteps:=9^7) (disch:=try exact dI) only[MY,push_cast,seval]
 refine aB ([]) (fun i:Nat=>[(7,.pv (.int .i64 (i:Int)))]) (fun _=>[]) (fun i=>i≤L.length∧(∀ j,j<i→∀ y,L[j]? = some y→y=0)) (fun i=>L.length - i) (0) ?_;intro e0 σ0 n0 h0;simp(maxSteps:=9^7) (disch:=try exact dI) only[push_cast,seval] at h0;obtain⟨rfl,rfl,rfl⟩:=h0;refine⟨?_,?_,?_⟩
 ·simp(maxSteps:=9^7) (disch:=try exact dI) only[push_cast,seval]
 ·exact⟨by omega,by omega⟩
 rintro i ⟨hi,h0⟩
 by_cases hlt:i<L.length
 ·have hltI:(i:Int)<(L.length:Int):=by omega
  obtain⟨x,hx⟩:∃ x,L[i]? = some x:=⟨_,List.getElem?_eq_getElem hlt⟩
  have hcp:(L.map fun n=>PV.int .i64 n)[i]? = some (.int .i64 x):=by simp[hx]
  by_cases hx0:x=0
  ·subst hx0
   simp(maxSteps:=9^7) (disch:=try exact dI) only[hcp,push_cast,seval]
   exact⟨i+1,bQ qsZ,⟨by omega,fun j hj y hy=>by
    rcases Nat.lt_or_ge j i with h | h
    ·exact h0 j h y hy
    ·have:j=i:=by omega
     subst this
     rw[hx] at hy;exact (Option.some.inj hy).symm⟩,by omega⟩
  ·have:=lg hx hx0 h0
   rw[this] at hr
   subst hr
   simp(maxSteps:=9^7) (disch:=try exact dI) only[hcp,push_cast,seval]
 ·have:=gR (L:=L) fun j y hy=>h0 j (by have:=(List.getElem?_eq_some_iff.1 hy).1;omega) y hy
  rw[this] at hr
  subst hr
  simp(maxSteps:=9^7) (disch:=try exact dI) only[push_cast,seval]
theorem Cl (a b:Int):aq Tryz.prog aA 216 [.list [.int .i64 a,.int .i64 b]] (.int .i64 (if a=0 then b else a)):=by
 have:=wZ [a,b] (by simp)
 have e:eL [a,b]=if a=0 then b else a:=by
  simp only[eL]
  by_cases hb:b=0
  ·subst hb;simp
  ·simp[hb]
 rw[e] at this
 exact this
theorem E3 (v:Val)(hk:v.kind=3):aq Tryz.prog aA 215 [v.pv] (.int .i64 (bi v)):=by
 obtain⟨k,n,s,t,l,fs⟩:=v
 simp only[Val.kind] at hk;subst hk
 rw[show bi (.mk 3 n s t l fs)=(if fy n (-999999999999999) 999999999999999=0 then fy s 0 12 else fy n (-999999999999999) 999999999999999) from rfl]
 have h:=bH n (-999999999999999) 999999999999999
 have h':=bH s 0 12
 change aq _ _ _ _ (.int .i64 (fy n (-999999999999999) 999999999999999)) at h
 change aq _ _ _ _ (.int .i64 (fy s 0 12)) at h'
 generalize fy n (-999999999999999) 999999999999999=e at *
 generalize fy s 0 12=e' at *
 have h2:=Cl e e'
 generalize (if e=0 then e' else e)=e2 at *
 refine aq.intro Hk (by simp[MZ]) ?_
 simp(maxSteps:=9^7) (disch:=try exact dI) only[MZ,Val.pv_mk,push_cast,seval]
 refine am h rfl ?_
 simp(maxSteps:=9^7) (disch:=try exact dI) only[push_cast,seval]
 refine ab.pure h' rfl ?_
 simp(maxSteps:=9^7) (disch:=try exact dI) only[push_cast,seval]
 refine ab.pure h2 rfl ?_
 simp(maxSteps:=9^7) (disch:=try exact dI) only[push_cast,seval]
theorem E1 (v:Val)(hk:v.kind=5):aq Tryz.prog aA 220 [v.pv] (.int .i64 (bi v)):=by
 obtain⟨k,n,s,t,l,fs⟩:=v
 simp only[Val.kind] at hk;subst hk
 rw[show bi (.mk 5 n s t l fs)=fg t.length 1024 5 from rfl]
 have h:=gp t.length 1024 5
 change aq _ _ _ _ (.int .i64 (fg t.length 1024 5)) at h
 generalize fg t.length 1024 5=e at *
 refine aq.intro Hg (by simp[MX]) ?_
 simp(maxSteps:=9^7) (disch:=try exact dI) only[MX,Val.pv_mk,push_cast,seval]
 refine ab.pure h rfl ?_
 simp(maxSteps:=9^7) (disch:=try exact dI) only[push_cast,seval]
theorem E0 (v:Val)(hk:v.kind=6):aq Tryz.prog aA 221 [v.pv] (.int .i64 (bi v)):=by
 obtain⟨k,n,s,t,l,fs⟩:=v
 simp only[Val.kind] at hk;subst hk
 rw[show bi (.mk 6 n s t l fs)=fy n (-719162) 2932896 from rfl]
 have h:=bH n (-719162) 2932896
 change aq _ _ _ _ (.int .i64 (fy n (-719162) 2932896)) at h
 generalize fy n (-719162) 2932896=e at *
 refine aq.intro Hf (by simp[MW]) ?_
 simp(maxSteps:=9^7) (disch:=try exact dI) only[MW,Val.pv_mk,push_cast,seval]
 refine ab.pure h rfl ?_
 simp(maxSteps:=9^7) (disch:=try exact dI) only[push_cast,seval]
theorem EZ (v:Val)(hk:v.kind=7):aq Tryz.prog aA 222 [v.pv] (.int .i64 (bi v)):=by
 obtain⟨k,n,s,t,l,fs⟩:=v
 simp only[Val.kind] at hk;subst hk
 rw[show bi (.mk 7 n s t l fs)=fy n (-62135596800000) 253402300799999 from rfl]
 have h:=bH n (-62135596800000) 253402300799999
 change aq _ _ _ _ (.int .i64 (fy n (-62135596800000) 253402300799999)) at h
 generalize fy n (-62135596800000) 253402300799999=e at *
 refine aq.intro He (by simp[MV]) ?_
 simp(maxSteps:=9^7) (disch:=try exact dI) only[MV,Val.pv_mk,push_cast,seval]
 refine ab.pure h rfl ?_
 simp(maxSteps:=9^7) (disch:=try exact dI) only[push_cast,seval]
theorem EY (v:Val)(hk:v.kind=8):aq Tryz.prog aA 223 [v.pv] (.int .i64 (bi v)):=by
 obtain⟨k,n,s,t,l,fs⟩:=v
 simp only[Val.kind] at hk;subst hk
 rw[show bi (.mk 8 n s t l fs)=fg l.length 256 9 from rfl]
 have h:=gp l.length 256 9
 change aq _ _ _ _ (.int .i64 (fg l.length 256 9)) at h
 generalize fg l.length 256 9=e at *
 refine aq.intro Hc (by simp[MU]) ?_
 simp(maxSteps:=9^7) (disch:=try exact dI) only[MU,Val.pv_mk,push_cast,seval]
 refine ab.pure h rfl ?_
 simp(maxSteps:=9^7) (disch:=try exact dI) only[push_cast,seval]
theorem E2 (v:Val)(hk:v.kind=4):aq Tryz.prog aA 217 [v.pv] (.int .i64 (bi v)):=by
 obtain⟨k,n,s,t,l,fs⟩:=v
 simp only[Val.kind] at hk;subst hk
 rw[show bi (.mk 4 n s t l fs)=(if fg t.length 1024 5=0 then (if Lib.validD t=true then 0 else 16) else fg t.length 1024 5) from rfl]
 have h:=gp t.length 1024 5
 have hv:=dU t
 change aq _ _ _ _ (.int .i64 (fg t.length 1024 5)) at h
 generalize fg t.length 1024 5=e at *
 refine aq.intro Hi (by simp[K4]) ?_
 by_cases he:e=0
 ·subst he
  rw[if_pos rfl]
  cases hb:Lib.validD t with
  | true=>
    rw[hb] at hv
    rw[if_pos rfl]
    simp(maxSteps:=9^7) (disch:=try exact dI) only[K4,Val.pv_mk,push_cast,seval]
    refine ab.pure h rfl ?_
    simp(maxSteps:=9^7) (disch:=try exact dI) only[push_cast,seval]
    refine ab.pure hv rfl ?_
    simp(maxSteps:=9^7) (disch:=try exact dI) only[push_cast,seval]
  | false=>
    rw[hb] at hv
    rw[if_neg (by simp)]
    simp(maxSteps:=9^7) (disch:=try exact dI) only[K4,Val.pv_mk,push_cast,seval]
    refine ab.pure h rfl ?_
    simp(maxSteps:=9^7) (disch:=try exact dI) only[push_cast,seval]
    refine ab.pure hv rfl ?_
    simp(maxSteps:=9^7) (disch:=try exact dI) only[push_cast,seval]
 ·rw[if_neg he]
  simp(maxSteps:=9^7) (disch:=try exact dI) only[K4,Val.pv_mk,push_cast,seval]
  refine ab.pure h rfl ?_
  simp(maxSteps:=9^7) (disch:=try exact dI) only[push_cast,seval]
theorem mS {fs:List (List UInt8)}{i:Nat}{s:List UInt8}(h:fs[i]? = some s)(p:Option (List UInt8)):fC p (fs.drop i)=if cp s=false then 12 else if p=some s then 7 else if (p.any fun q=>bj s q)=true then 24 else fC (some s) (fs.drop (i+1)):=by
 have hi:i<fs.length:=(List.getElem?_eq_some_iff.1 h).1
 have he:fs[i]=s:=(List.getElem?_eq_some_iff.1 h).2
 rw[List.drop_eq_getElem_cons hi,he,fC]
def mM (fs:List Fld)(i:Nat):Option (List UInt8):=if i=0 then none else (fs[i - 1]?).map Fld.name
set_option maxHeartbeats 2000000 in
theorem EX (v:Val)(hk:v.kind=9):aq Tryz.prog aA 224 [v.pv] (.int .i64 (bi v)):=by
 obtain⟨k,n,s,t,l,fs⟩:=v
 simp only[Val.kind] at hk;subst hk
 rw[show bi (.mk 9 n s t l fs)=(if fg fs.length 64 9=0 then fC none (fs.map Fld.name) else fg fs.length 64 9) from rfl]
 have h:=gp fs.length 64 9
 change aq _ _ _ _ (.int .i64 (fg fs.length 64 9)) at h
 by_cases h64:(64:Int)<fs.length
 ·have e:fg fs.length 64 9=9:=if_pos h64
  rw[e] at h ⊢
  rw[if_neg (by omega)]
  refine aq.intro yK (by simp[K2]) ?_
  simp(maxSteps:=9^7) (disch:=try exact dI) only[K2,Val.pv_mk,push_cast,seval]
  refine ab.pure h rfl ?_
  simp(maxSteps:=9^7) (disch:=try exact dI) only[push_cast,seval]
 ·have e:fg fs.length 64 9=0:=if_neg h64
  rw[e] at h ⊢
  rw[if_pos rfl]
  have hfl:fs.length≤64:=by omega
  obtain⟨R,hR⟩:∃ R,R=fC none (fs.map Fld.name):=⟨_,rfl⟩
  rw[← hR]
  refine aq.intro yK (by simp[K2]) ?_
  simp(maxSteps:=9^7) (disch:=try exact dI) only[K2,Val.pv_mk,push_cast,seval]
  refine ab.pure h rfl ?_
  simp(maxSteps:=9^7) (disch:=try exact dI) only[push_cast,seval]
  refine aB ([]) (fun i:Nat=>[(16,.pv (.int .i64 (i:Int)))]) (fun _=>[]) (fun i=>i≤fs.length∧R=fC (mM fs i) ((fs.map Fld.name).drop i)) (fun i=>fs.length - i) (0) ?_;intro e0 σ0 n0 h0;simp(maxSteps:=9^7) (disch:=try exact dI) only[push_cast,seval] at h0;obtain⟨rfl,rfl,rfl⟩:=h0;refine⟨?_,?_,?_⟩
  ·simp(maxSteps:=9^7) (disch:=try exact dI) only[push_cast,seval]
  ·exact⟨by omega,by simpa[mM] using hR⟩
  rintro i ⟨hi,hr⟩
  by_cases hlt:i<fs.length
  ·have hltI:(i:Int)<(fs.length:Int):=by omega
   obtain⟨c,hc⟩:∃ c,fs[i]? = some c:=⟨_,List.getElem?_eq_getElem hlt⟩
   obtain⟨nm,⟨k',n',s',t',l',f'⟩⟩:=c
   have hcp:(fs.map Fld.pv)[i]? = some (.agg [.str nm,.int .i64 k',.int .i64 n',.int .i64 s',.str t',.list (l'.map Val.pv),.list (f'.map Fld.pv)]):=by simp[hc,Fld.pv_mk,Val.pv_mk,ae]
   have hnm:(fs.map Fld.name)[i]? = some nm:=by simp[hc,Fld.name]
   have hn:=jn nm
   rw[mS hnm] at hr
   have hnext:mM fs (i+1)=some nm:=by simp[mM,hc,Fld.name]
   cases hb:cp nm with
   | false=>
     rw[hb] at hn hr
     rw[if_pos rfl] at hr
     subst hr
     simp(maxSteps:=9^7) (disch:=try exact dI) only[hcp,push_cast,seval]
     refine ab.pure hn rfl ?_
     simp(maxSteps:=9^7) (disch:=try exact dI) only[push_cast,seval]
   | true=>
     rw[hb] at hn hr
     rw[if_neg (by simp)] at hr
     by_cases hi0:i=0
     ·have hiI:¬ (0:Int)<(i:Int):=by omega
      have hpn:mM fs i=none:=if_pos hi0
      rw[hpn,if_neg (by simp),if_neg (by simp),← hnext] at hr
      simp(maxSteps:=9^7) (disch:=try exact dI) only[hcp,push_cast,seval]
      refine ab.pure hn rfl ?_
      simp(maxSteps:=9^7) (disch:=try exact dI) only[push_cast,seval]
      exact⟨i+1,bQ qsZ,⟨by omega,by rw[List.map_drop];exact hr⟩,by omega⟩
     ·obtain⟨j,rfl⟩:∃ j,i=j+1:=⟨i - 1,by omega⟩
      obtain⟨c,hc'⟩:∃ c,fs[j]? = some c:=⟨_,List.getElem?_eq_getElem (by omega)⟩
      have hpn:mM fs (j+1)=some c.name:=by simp[mM,hc']
      obtain⟨q,⟨k2,n2,s2,t2,l2,f2⟩⟩:=c
      have hcq:(fs.map Fld.pv)[j]? = some (.agg [.str q,.int .i64 k2,.int .i64 n2,.int .i64 s2,.str t2,.list (l2.map Val.pv),.list (f2.map Fld.pv)]):=by simp[hc',Fld.pv_mk,Val.pv_mk,ae]
      simp only[Fld.name] at hpn
      rw[hpn] at hr
      by_cases hq:nm=q
      ·subst hq
       rw[if_pos rfl] at hr
       subst hr
       simp(maxSteps:=9^7) (disch:=try exact dI) only[hcp,Int.add_sub_cancel,push_cast,seval]
       refine ab.pure hn rfl ?_
       simp(maxSteps:=9^7) (disch:=try exact dI) only[hcq,Int.add_sub_cancel,push_cast,seval]
      ·rw[if_neg (by simpa using fun e=>hq e.symm)] at hr
       cases hlt2:bj nm q with
       | true=>
         rw[if_pos (by simpa using hlt2)] at hr
         subst hr
         simp(maxSteps:=9^7) (disch:=try exact dI) only[hcp,Int.add_sub_cancel,push_cast,seval]
         refine ab.pure hn rfl ?_
         simp(maxSteps:=9^7) (disch:=try exact dI) only[hcq,Int.add_sub_cancel,hq,hlt2,push_cast,seval]
       | false=>
         rw[if_neg (by simp[hlt2]),← hnext] at hr
         simp(maxSteps:=9^7) (disch:=try exact dI) only[hcp,Int.add_sub_cancel,push_cast,seval]
         refine ab.pure hn rfl ?_
         simp(maxSteps:=9^7) (disch:=try exact dI) only[hcq,Int.add_sub_cancel,hq,hlt2,push_cast,seval]
         exact⟨j+1+1,bQ qsZ,⟨by omega,by rw[List.map_drop];exact hr⟩,by omega⟩
  ·have hie:i=fs.length:=by omega
   subst hie
   rw[List.drop_of_length_le (by simp)] at hr
   rw[show R=0 from hr]
   simp(maxSteps:=9^7) (disch:=try exact dI) only[push_cast,seval]
theorem EW (v:Val)(hk:v.kind=10):aq Tryz.prog aA 225 [v.pv] (.int .i64 (bi v)):=by
 obtain⟨k,n,s,t,l,fs⟩:=v
 simp only[Val.kind] at hk;subst hk
 rw[show bi (.mk 10 n s t l fs)=(if cp t=false then 12 else if l.length=0 then 4 else fg l.length 1 3) from rfl]
 have h:=gp l.length 1 3
 have hn:=jn t
 change aq _ _ _ _ (.int .i64 (fg l.length 1 3)) at h
 generalize fg l.length 1 3=e at *
 refine aq.intro Ha (by simp[K0]) ?_
 cases hb:cp t with
 | false=>
   rw[hb] at hn
   rw[if_pos rfl]
   simp(maxSteps:=9^7) (disch:=try exact dI) only[K0,Val.pv_mk,push_cast,seval]
   refine ab.pure hn rfl ?_
   simp(maxSteps:=9^7) (disch:=try exact dI) only[push_cast,seval]
 | true=>
   rw[hb] at hn
   rw[if_neg (by simp)]
   by_cases hl:l.length=0
   ·have hlI:(l.length:Int)=0:=by omega
    rw[if_pos hl]
    simp(maxSteps:=9^7) (disch:=try exact dI) only[K0,Val.pv_mk,push_cast,seval]
    refine ab.pure hn rfl ?_
    simp(maxSteps:=9^7) (disch:=try exact dI) only[push_cast,seval]
   ·have hlI:¬ (l.length:Int)=0:=by omega
    rw[if_neg hl]
    simp(maxSteps:=9^7) (disch:=try exact dI) only[K0,Val.pv_mk,push_cast,seval]
    refine ab.pure hn rfl ?_
    simp(maxSteps:=9^7) (disch:=try exact dI) only[push_cast,seval]
    refine ab.pure h rfl ?_
    simp(maxSteps:=9^7) (disch:=try exact dI) only[push_cast,seval]
end Go.Proofs.YtfepkhlgopjaoaaGreatDoor
