/- A part of the proof. -/
import Derived.Test.YtbojpfpliibfbaaGreatDoorMxRR3
set_option maxHeartbeats 16000000
set_option maxRecDepth 100000
set_option linter.unusedVariables false
set_option linter.unusedSimpArgs false
namespace Go.Proofs.YtbojpfpliibfbaaGreatDoor
open Go Go.Ab
attribute [local irreducible] vc
def iR (n a b:Int):Int:=if n<a\/b<n then 2 else 0
def iv (n m e:Int):Int:=if m<n then e else 0
def iS:Option (List UInt8)->List (List UInt8)->Int
 | _,[]=>0
 | p,s::r=>if bw s=false then 12 else if p=some s then 7 else if (p.any fun q=>bj s q)=true then 24 else iS (some s) r
def bJ:Val->Int
 | .mk k n s t l fs=>
   if k=1 then iR n 0 1
   else if k=2 then iR n (-999999999999999) 999999999999999
   else if k=3 then (if iR n (-999999999999999) 999999999999999=0 then iR s 0 12 else iR n (-999999999999999) 999999999999999)
   else if k=4 then (if iv t.length 1024 5=0 then (if Lib.validD t=true then 0 else 16) else iv t.length 1024 5)
   else if k=5 then iv t.length 1024 5
   else if k=6 then iR n (-719162) 2932896
   else if k=7 then iR n (-62135596800000) 253402300799999
   else if k=8 then iv l.length 256 9
   else if k=9 then (if iv fs.length 64 9=0 then iS none (fs.map Fld.name) else iv fs.length 64 9)
   else if k=10 then (if bw t=false then 12 else if l.length=0 then 4 else iv l.length 1 3)
   else 0
theorem KN (v:Val)(hk:v.kind=1):ag Tryz.prog aq 282 [v.pv] (.int .i64 (bJ v)):=by
 obtain⟨k,n,s,t,l,fs⟩:=v
 simp only[Val.kind] at hk;subst hk
 rw[show bJ (.mk 1 n s t l fs)=iR n 0 1 from rfl]
 have h:=cU n 0 1
 change ag _ _ _ _ (.int .i64 (iR n 0 1)) at h
 generalize iR n 0 1=e at *
 refine ag.intro SY.2 (by simp[SY]) ?_
 simp(disch:=try exact dI) only[SY,Val.pv_mk,push_cast,seval]
 refine ab.pure h rfl ?_
 exact qsZ
theorem KM (v:Val)(hk:v.kind=2):ag Tryz.prog aq 284 [v.pv] (.int .i64 (bJ v)):=by
 obtain⟨k,n,s,t,l,fs⟩:=v
 simp only[Val.kind] at hk;subst hk
 rw[show bJ (.mk 2 n s t l fs)=iR n (-999999999999999) 999999999999999 from rfl]
 have h:=cU n (-999999999999999) 999999999999999
 change ag _ _ _ _ (.int .i64 (iR n (-999999999999999) 999999999999999)) at h
 generalize iR n (-999999999999999) 999999999999999=e at *
 refine ag.intro SW.2 (by simp[SW]) ?_
 simp(disch:=try exact dI) only[SW,Val.pv_mk,push_cast,seval]
 refine ab.pure h rfl ?_
 exact qsZ
def gD:List Int->Int
 | []=>0
 | a::r=>if a=0 then gD r else a
theorem pA:∀ {L:List Int} {i:Nat} {x:Int},L[i]? = some x->x≠0->(∀ j,j<i->∀ y,L[j]? = some y->y=0)->gD L=x
 | [],i,x,h,_,_=>by simp at h
 | a::r,0,x,h,hx,_=>by simp at h;subst h;exact if_neg hx
 | a::r,i+1,x,h,hx,h0=>by
   have ha:=h0 0 (by omega) a rfl
   subst ha
   rw[gD,if_pos rfl]
   exact pA (by simpa using h) hx fun j hj y hy=>h0 (j+1) (by omega) y (by simpa using hy)
theorem kD:∀ {L:List Int},(∀ (j:Nat) y,L[j]? = some y->y=0)->gD L=0
 | [],_=>rfl
 | a::r,h=>by
   rw[gD,if_pos (h 0 a rfl)]
   exact kD fun j y hy=>h (j+1) y (by simpa using hy)
theorem C5 (L:List Int)(hL:L.length<=1000):ag Tryz.prog aq 286 [.list (L.map fun n=>.int .i64 n)] (.int .i64 (gD L)):=by
 generalize hr:gD L=e
 refine ag.intro SU.2 (by simp[SU]) ?_
 simp(disch:=try exact dI) only[SU,push_cast,seval]
 refine az ([]) (fun i:Nat=>[(7,.pv (.int .i64 (i:Int)))]) (fun _=>[]) (fun i=>i<=L.length/\(∀ j,j<i->∀ y,L[j]? = some y->y=0)) (fun i=>L.length - i) (0) ?_;intro e0 σ0 n0 h0;simp(disch:=try exact dI) only[push_cast,seval] at h0;obtain⟨rfl,rfl,rfl⟩:=h0;refine⟨?_,?_,?_⟩
 ·exact qsZ
 ·exact⟨by omega,by omega⟩
 rintro i ⟨hi,h0⟩
 by_cases hlt:i<L.length
 ·have hltI:(i:Int)<(L.length:Int):=by omega
  obtain⟨x,hx⟩:∃ x,L[i]? = some x:=⟨_,List.getElem?_eq_getElem hlt⟩
  have hcp:(L.map fun n=>PV.int .i64 n)[i]? = some (.int .i64 x):=by simp[hx]
  by_cases hx0:x=0
  ·subst hx0
   simp(disch:=try exact dI) only[hcp,push_cast,seval]
   exact⟨i+1,aV qsZ,⟨by omega,fun j hj y hy=>by
    rcases Nat.lt_or_ge j i with h | h
    ·exact h0 j h y hy
    ·have:j=i:=by omega
     subst this
     rw[hx] at hy;exact (Option.some.inj hy).symm⟩,by omega⟩
  ·have:=pA hx hx0 h0
   rw[this] at hr
   subst hr
   simp(disch:=try exact dI) only[hcp,push_cast,seval]
 ·have:=kD (L:=L) fun j y hy=>h0 j (by have:=(List.getElem?_eq_some_iff.1 hy).1;omega) y hy
  rw[this] at hr
  subst hr
  exact qsZ
theorem HM (a b:Int):ag Tryz.prog aq 286 [.list [.int .i64 a,.int .i64 b]] (.int .i64 (if a=0 then b else a)):=by
 have:=C5 [a,b] (by simp)
 have e:gD [a,b]=if a=0 then b else a:=by
  simp only[gD]
  by_cases hb:b=0
  ·subst hb;simp
  ·simp[hb]
 rw[e] at this
 exact this
theorem KL (v:Val)(hk:v.kind=3):ag Tryz.prog aq 285 [v.pv] (.int .i64 (bJ v)):=by
 obtain⟨k,n,s,t,l,fs⟩:=v
 simp only[Val.kind] at hk;subst hk
 rw[show bJ (.mk 3 n s t l fs)=(if iR n (-999999999999999) 999999999999999=0 then iR s 0 12 else iR n (-999999999999999) 999999999999999) from rfl]
 have h:=cU n (-999999999999999) 999999999999999
 have h':=cU s 0 12
 change ag _ _ _ _ (.int .i64 (iR n (-999999999999999) 999999999999999)) at h
 change ag _ _ _ _ (.int .i64 (iR s 0 12)) at h'
 generalize iR n (-999999999999999) 999999999999999=e at *
 generalize iR s 0 12=e' at *
 have h2:=HM e e'
 generalize (if e=0 then e' else e)=e2 at *
 refine ag.intro SV.2 (by simp[SV]) ?_
 simp(disch:=try exact dI) only[SV,Val.pv_mk,push_cast,seval]
 refine am h rfl ?_
 refine zgZ ?_
 refine ab.pure h' rfl ?_
 refine zgZ ?_
 refine ab.pure h2 rfl ?_
 exact qsZ
theorem KJ (v:Val)(hk:v.kind=5):ag Tryz.prog aq 289 [v.pv] (.int .i64 (bJ v)):=by
 obtain⟨k,n,s,t,l,fs⟩:=v
 simp only[Val.kind] at hk;subst hk
 rw[show bJ (.mk 5 n s t l fs)=iv t.length 1024 5 from rfl]
 have h:=jQ t.length 1024 5
 change ag _ _ _ _ (.int .i64 (iv t.length 1024 5)) at h
 generalize iv t.length 1024 5=e at *
 refine ag.intro ST.2 (by simp[ST]) ?_
 simp(disch:=try exact dI) only[ST,Val.pv_mk,push_cast,seval]
 refine ab.pure h rfl ?_
 exact qsZ
theorem KI (v:Val)(hk:v.kind=6):ag Tryz.prog aq 290 [v.pv] (.int .i64 (bJ v)):=by
 obtain⟨k,n,s,t,l,fs⟩:=v
 simp only[Val.kind] at hk;subst hk
 rw[show bJ (.mk 6 n s t l fs)=iR n (-719162) 2932896 from rfl]
 have h:=cU n (-719162) 2932896
 change ag _ _ _ _ (.int .i64 (iR n (-719162) 2932896)) at h
 generalize iR n (-719162) 2932896=e at *
 refine ag.intro SS.2 (by simp[SS]) ?_
 simp(disch:=try exact dI) only[SS,Val.pv_mk,push_cast,seval]
 refine ab.pure h rfl ?_
 exact qsZ
theorem KH (v:Val)(hk:v.kind=7):ag Tryz.prog aq 291 [v.pv] (.int .i64 (bJ v)):=by
 obtain⟨k,n,s,t,l,fs⟩:=v
 simp only[Val.kind] at hk;subst hk
 rw[show bJ (.mk 7 n s t l fs)=iR n (-62135596800000) 253402300799999 from rfl]
 have h:=cU n (-62135596800000) 253402300799999
 change ag _ _ _ _ (.int .i64 (iR n (-62135596800000) 253402300799999)) at h
 generalize iR n (-62135596800000) 253402300799999=e at *
 refine ag.intro SR.2 (by simp[SR]) ?_
 simp(disch:=try exact dI) only[SR,Val.pv_mk,push_cast,seval]
 refine ab.pure h rfl ?_
 exact qsZ
theorem KG (v:Val)(hk:v.kind=8):ag Tryz.prog aq 292 [v.pv] (.int .i64 (bJ v)):=by
 obtain⟨k,n,s,t,l,fs⟩:=v
 simp only[Val.kind] at hk;subst hk
 rw[show bJ (.mk 8 n s t l fs)=iv l.length 256 9 from rfl]
 have h:=jQ l.length 256 9
 change ag _ _ _ _ (.int .i64 (iv l.length 256 9)) at h
 generalize iv l.length 256 9=e at *
 refine ag.intro SQ.2 (by simp[SQ]) ?_
 simp(disch:=try exact dI) only[SQ,Val.pv_mk,push_cast,seval]
 refine ab.pure h rfl ?_
 exact qsZ
theorem KK (v:Val)(hk:v.kind=4):ag Tryz.prog aq 287 [v.pv] (.int .i64 (bJ v)):=by
 obtain⟨k,n,s,t,l,fs⟩:=v
 simp only[Val.kind] at hk;subst hk
 rw[show bJ (.mk 4 n s t l fs)=(if iv t.length 1024 5=0 then (if Lib.validD t=true then 0 else 16) else iv t.length 1024 5) from rfl]
 have h:=jQ t.length 1024 5
 have hv:=dv t
 change ag _ _ _ _ (.int .i64 (iv t.length 1024 5)) at h
 generalize iv t.length 1024 5=e at *
 refine ag.intro QI.2 (by simp[QI]) ?_
 by_cases he:e=0
 ·subst he
  rw[if_pos rfl]
  cases hb:Lib.validD t with
  | true=>
    rw[hb] at hv
    rw[if_pos rfl]
    simp(disch:=try exact dI) only[QI,Val.pv_mk,push_cast,seval]
    refine ab.pure h rfl ?_
    refine zgZ ?_
    refine ab.pure hv rfl ?_
    exact qsZ
  | false=>
    rw[hb] at hv
    rw[if_neg (by simp)]
    simp(disch:=try exact dI) only[QI,Val.pv_mk,push_cast,seval]
    refine ab.pure h rfl ?_
    refine zgZ ?_
    refine ab.pure hv rfl ?_
    exact qsZ
 ·rw[if_neg he]
  simp(disch:=try exact dI) only[QI,Val.pv_mk,push_cast,seval]
  refine ab.pure h rfl ?_
  exact qsZ
theorem rD {fs:List (List UInt8)}{i:Nat}{s:List UInt8}(h:fs[i]? = some s)(p:Option (List UInt8)):iS p (fs.drop i)=if bw s=false then 12 else if p=some s then 7 else if (p.any fun q=>bj s q)=true then 24 else iS (some s) (fs.drop (i+1)):=by
 have hi:i<fs.length:=(List.getElem?_eq_some_iff.1 h).1
 have he:fs[i]=s:=(List.getElem?_eq_some_iff.1 h).2
 rw[List.drop_eq_getElem_cons hi,he,iS]
def rj (fs:List Fld)(i:Nat):Option (List UInt8):=if i=0 then none else (fs[i - 1]?).map Fld.name
theorem KF (v:Val)(hk:v.kind=9):ag Tryz.prog aq 293 [v.pv] (.int .i64 (bJ v)):=by
 obtain⟨k,n,s,t,l,fs⟩:=v
 simp only[Val.kind] at hk;subst hk
 rw[show bJ (.mk 9 n s t l fs)=(if iv fs.length 64 9=0 then iS none (fs.map Fld.name) else iv fs.length 64 9) from rfl]
 have h:=jQ fs.length 64 9
 change ag _ _ _ _ (.int .i64 (iv fs.length 64 9)) at h
 by_cases h64:(64:Int)<fs.length
 ·have e:iv fs.length 64 9=9:=if_pos h64
  rw[e] at h ⊢
  rw[if_neg (by omega)]
  refine ag.intro Ns.2 (by simp[Ns]) ?_
  simp(disch:=try exact dI) only[Ns,Val.pv_mk,push_cast,seval]
  refine ab.pure h rfl ?_
  exact qsZ
 ·have e:iv fs.length 64 9=0:=if_neg h64
  rw[e] at h ⊢
  rw[if_pos rfl]
  have hfl:fs.length<=64:=by omega
  obtain⟨R,hR⟩:∃ R,R=iS none (fs.map Fld.name):=⟨_,rfl⟩
  rw[<- hR]
  refine ag.intro Ns.2 (by simp[Ns]) ?_
  simp(disch:=try exact dI) only[Ns,Val.pv_mk,push_cast,seval]
  refine ab.pure h rfl ?_
  refine zgZ ?_
  refine az ([]) (fun i:Nat=>[(16,.pv (.int .i64 (i:Int)))]) (fun _=>[]) (fun i=>i<=fs.length/\R=iS (rj fs i) ((fs.map Fld.name).drop i)) (fun i=>fs.length - i) (0) ?_;intro e0 σ0 n0 h0;simp(disch:=try exact dI) only[push_cast,seval] at h0;obtain⟨rfl,rfl,rfl⟩:=h0;refine⟨?_,?_,?_⟩
  ·exact qsZ
  ·exact⟨by omega,by simpa[rj] using hR⟩
  rintro i ⟨hi,hr⟩
  by_cases hlt:i<fs.length
  ·have hltI:(i:Int)<(fs.length:Int):=by omega
   obtain⟨c,hc⟩:∃ c,fs[i]? = some c:=⟨_,List.getElem?_eq_getElem hlt⟩
   obtain⟨nm,⟨k',n',s',t',l',f'⟩⟩:=c
   have hcp:(fs.map Fld.pv)[i]? = some (.agg [.str nm,.int .i64 k',.int .i64 n',.int .i64 s',.str t',.list (l'.map Val.pv),.list (f'.map Fld.pv)]):=by simp[hc,Fld.pv_mk,Val.pv_mk,ae]
   have hnm:(fs.map Fld.name)[i]? = some nm:=by simp[hc,Fld.name]
   have hn:=rF nm
   rw[rD hnm] at hr
   have hnext:rj fs (i+1)=some nm:=by simp[rj,hc,Fld.name]
   cases hb:bw nm with
   | false=>
     rw[hb] at hn hr
     rw[if_pos rfl] at hr
     subst hr
     simp(disch:=try exact dI) only[hcp,push_cast,seval]
     refine ab.pure hn rfl ?_
     exact qsZ
   | true=>
     rw[hb] at hn hr
     rw[if_neg (by simp)] at hr
     by_cases hi0:i=0
     ·have hiI:¬ (0:Int)<(i:Int):=by omega
      have hpn:rj fs i=none:=if_pos hi0
      rw[hpn,if_neg (by simp),if_neg (by simp),<- hnext] at hr
      simp(disch:=try exact dI) only[hcp,push_cast,seval]
      refine ab.pure hn rfl ?_
      refine zgZ ?_
      exact⟨i+1,aV qsZ,⟨by omega,by rw[List.map_drop];exact hr⟩,by omega⟩
     ·obtain⟨j,rfl⟩:∃ j,i=j+1:=⟨i - 1,by omega⟩
      obtain⟨c,hc'⟩:∃ c,fs[j]? = some c:=⟨_,List.getElem?_eq_getElem (by omega)⟩
      have hpn:rj fs (j+1)=some c.name:=by simp[rj,hc']
      obtain⟨q,⟨k2,n2,s2,t2,l2,f2⟩⟩:=c
      have hcq:(fs.map Fld.pv)[j]? = some (.agg [.str q,.int .i64 k2,.int .i64 n2,.int .i64 s2,.str t2,.list (l2.map Val.pv),.list (f2.map Fld.pv)]):=by simp[hc',Fld.pv_mk,Val.pv_mk,ae]
      simp only[Fld.name] at hpn
      rw[hpn] at hr
      by_cases hq:nm=q
      ·subst hq
       rw[if_pos rfl] at hr
       subst hr
       simp(disch:=try exact dI) only[hcp,Int.add_sub_cancel,push_cast,seval]
       refine ab.pure hn rfl ?_
       simp(disch:=try exact dI) only[hcq,Int.add_sub_cancel,push_cast,seval]
      ·rw[if_neg (by simpa using fun e=>hq e.symm)] at hr
       cases hlt2:bj nm q with
       | true=>
         rw[if_pos (by simpa using hlt2)] at hr
         subst hr
         simp(disch:=try exact dI) only[hcp,Int.add_sub_cancel,push_cast,seval]
         refine ab.pure hn rfl ?_
         simp(disch:=try exact dI) only[hcq,Int.add_sub_cancel,hq,hlt2,push_cast,seval]
       | false=>
         rw[if_neg (by simp[hlt2]),<- hnext] at hr
         simp(disch:=try exact dI) only[hcp,Int.add_sub_cancel,push_cast,seval]
         refine ab.pure hn rfl ?_
         simp(disch:=try exact dI) only[hcq,Int.add_sub_cancel,hq,hlt2,push_cast,seval]
         exact⟨j+1+1,aV qsZ,⟨by omega,by rw[List.map_drop];exact hr⟩,by omega⟩
  ·have hie:i=fs.length:=by omega
   subst hie
   rw[List.drop_of_length_le (by simp)] at hr
   rw[show R=0 from hr]
   exact qsZ
theorem KE (v:Val)(hk:v.kind=10):ag Tryz.prog aq 294 [v.pv] (.int .i64 (bJ v)):=by
 obtain⟨k,n,s,t,l,fs⟩:=v
 simp only[Val.kind] at hk;subst hk
 rw[show bJ (.mk 10 n s t l fs)=(if bw t=false then 12 else if l.length=0 then 4 else iv l.length 1 3) from rfl]
 have h:=jQ l.length 1 3
 have hn:=rF t
 change ag _ _ _ _ (.int .i64 (iv l.length 1 3)) at h
 generalize iv l.length 1 3=e at *
 refine ag.intro QH.2 (by simp[QH]) ?_
 cases hb:bw t with
 | false=>
   rw[hb] at hn
   rw[if_pos rfl]
   simp(disch:=try exact dI) only[QH,Val.pv_mk,push_cast,seval]
   refine ab.pure hn rfl ?_
   exact qsZ
 | true=>
   rw[hb] at hn
   rw[if_neg (by simp)]
   by_cases hl:l.length=0
   ·have hlI:(l.length:Int)=0:=by omega
    rw[if_pos hl]
    simp(disch:=try exact dI) only[QH,Val.pv_mk,push_cast,seval]
    refine ab.pure hn rfl ?_
    exact qsZ
   ·have hlI:¬ (l.length:Int)=0:=by omega
    rw[if_neg hl]
    simp(disch:=try exact dI) only[QH,Val.pv_mk,push_cast,seval]
    refine ab.pure hn rfl ?_
    refine zgZ ?_
    refine ab.pure h rfl ?_
    exact qsZ
def be (i:Nat)(q:Int×Val):Int:=
 if 4096<=i then 9 else if 8<q.1 then 23 else if bv q.2=true then 19 else if q.2.kind<1\/10<q.2.kind then 11 else if eN q.2=false then 3 else bJ q.2
section
variable {i:Nat}{q:Int×Val}
theorem Kn (c1:4096<=i):be i q=9:=if_pos c1
theorem Km (c1:¬ 4096<=i)(c2:8<q.1):be i q=23:=by unfold be;rw[if_neg c1,if_pos c2]
theorem Kl (c1:¬ 4096<=i)(c2:¬ 8<q.1)(c3:bv q.2=true):be i q=19:=by unfold be;rw[if_neg c1,if_neg c2,if_pos c3]
theorem Kk (c1:¬ 4096<=i)(c2:¬ 8<q.1)(c3:bv q.2=false)(c4:q.2.kind<1\/10<q.2.kind):be i q=11:=by unfold be;rw[if_neg c1,if_neg c2,if_neg (by rw[c3];simp),if_pos c4]
theorem Kj (c1:¬ 4096<=i)(c2:¬ 8<q.1)(c3:bv q.2=false)(c4:¬ (q.2.kind<1\/10<q.2.kind))(c5:eN q.2=false):be i q=3:=by unfold be;rw[if_neg c1,if_neg c2,if_neg (by rw[c3];simp),if_neg c4,if_pos c5]
theorem Al (c1:¬ 4096<=i)(c2:¬ 8<q.1)(c3:bv q.2=false)(c4:¬ (q.2.kind<1\/10<q.2.kind))(c5:eN q.2=true):be i q=bJ q.2:=by unfold be;rw[if_neg c1,if_neg c2,if_neg (by rw[c3];simp),if_neg c4,if_neg (by rw[c5];simp)]
end
def qo:Nat->List (Int×Val)->Int
 | _,[]=>0
 | i,q::r=>if be i q=0 then qo (i+1) r else be i q
def KD (k:Int):Nat:=if k=1 then 282 else if k=2 then 284 else if k=3 then 285 else if k=4 then 287 else if k=5 then 289 else if k=6 then 290 else if k=7 then 291 else if k=8 then 292 else if k=9 then 293 else 294
theorem KC (v:Val)(h:1<=v.kind/\v.kind<=10):ag Tryz.prog aq (KD v.kind) [v.pv] (.int .i64 (bJ v)):=by
 have hc:v.kind=1\/v.kind=2\/v.kind=3\/v.kind=4\/v.kind=5\/v.kind=6\/v.kind=7\/v.kind=8\/v.kind=9\/v.kind=10:=by omega
 rcases hc with h | h | h | h | h | h | h | h | h | h<;>rw[h]
 ·exact KN v h
 ·exact KM v h
 ·exact KL v h
 ·exact KK v h
 ·exact KJ v h
 ·exact KI v h
 ·exact KH v h
 ·exact KG v h
 ·exact KF v h
 ·exact KE v h
theorem aA {n sz r o:Nat}{k:IntKind}{i:Int}(h0:0<=i)(h1:i.toNat<n):ic n sz (.ptr r o) (.pv (.int k i))=some (.ptr r (o+i.toNat*sz)):=if_pos ⟨h0,h1⟩
theorem J3 (x:Val)(h:1<=x.kind/\x.kind<=10):ag Tryz.prog aq 262 [x.pv] (.bool (eN x)):=J1 x h
theorem MC {xs:List (Int×Val)}{i:Nat}{q:Int×Val}(h:xs[i]? = some q):qo i (xs.drop i)=if be i q=0 then qo (i+1) (xs.drop (i+1)) else be i q:=by
 have hi:i<xs.length:=(List.getElem?_eq_some_iff.1 h).1
 have he:xs[i]=q:=(List.getElem?_eq_some_iff.1 h).2
 rw[List.drop_eq_getElem_cons hi,he,qo]
theorem ur (n:Nat)(v:Val)(hd:ly n v)(hv:v.ok):ag Tryz.prog aq 233 [v.pv] (.int .i64 (qo 0 (eQ n 1 v))):=by
 have hseq:=iQ n v hd hv
 have h243:=j1 v
 have h242:=FM
 generalize hxs:eQ n 1 v=xs at *
 obtain⟨R,hR⟩:∃ R,R=qo 0 xs:=⟨_,rfl⟩
 rw[<- hR]
 obtain⟨k,a,s,t,l,fs⟩:=v
 simp only[Val.pv_mk,Av] at h243 h242 hseq
 refine ag.intro S4.2 (by simp[S4]) ?_
 simp(disch:=try exact dI) only[S4,Val.pv_mk,push_cast,seval]
 refine ab.pure h242 rfl ?_
 simp(disch:=try exact dI) only[BJ,tv,push_cast,seval]
 refine ab.pure h243 rfl ?_
 refine zgZ ?_
 refine sQ ([]) (fun i:Nat=>[]) (fun i:Nat=>[(2,.cells 3 true [.pv (.int .i64 (i:Int))])]) (fun j i=>j=i/\i<=4096/\R=qo i (xs.drop i)) (0) (hseq) ?_;intro e0 σ0 n0 h0;simp(disch:=try exact dI) only[push_cast,seval] at h0;obtain⟨rfl,rfl,rfl⟩:=h0;refine⟨?_,?_,?_,?_,?_⟩
 ·exact qsZ
 ·exact⟨rfl,by omega,by simpa using hR⟩
 ·rfl
 ·rintro j i y hy ⟨hij,hj4,hr⟩
  subst hij
  obtain⟨q,hq⟩:∃ q,xs[j]? = some q:=by
   cases h:xs[j]? with
   | none=>simp[h] at hy
   | some q=>exact⟨q,rfl⟩
  have hye:y=yN q:=by simpa[hq] using hy.symm
  subst hye
  rw[MC hq] at hr
  have hjl:j<xs.length:=(List.getElem?_eq_some_iff.1 hq).1
  obtain⟨lv,x⟩:=q
  have h111:=rA x
  have hrule:=KC x
  have huse:=J3 x
  obtain⟨k',n',s',t',l',f'⟩:=x
  simp only[Val.pv_mk,Val.kind] at h111 hrule huse
  refine⟨rfl,?_⟩
  simp only[yN,Val.pv_mk]
  clear hy h242 h243 hseq
  by_cases c1:4096<=j
  ·have e:be j (lv,Val.mk k' n' s' t' l' f')=9:=if_pos c1
   rw[e,if_neg (by omega)] at hr
   subst hr
   exact qsZ
  ·have hj1:¬ (4096:Int)<(j:Int)+1:=by omega
   by_cases c2:8<lv
   ·have e:be j (lv,Val.mk k' n' s' t' l' f')=23:=Km c1 c2
    rw[e,if_neg (by omega)] at hr
    subst hr
    exact qsZ
   ·cases c3:bv (Val.mk k' n' s' t' l' f') with
    | true=>
      have e:be j (lv,Val.mk k' n' s' t' l' f')=19:=Kl c1 c2 c3
      rw[e,if_neg (by omega)] at hr
      subst hr
      rw[c3] at h111
      refine zgZ ?_
      refine ab.pure h111 rfl ?_
      exact qsZ
    | false=>
      rw[c3] at h111
      by_cases c4:k'<1\/10<k'
      ·have e:be j (lv,Val.mk k' n' s' t' l' f')=11:=Kk c1 c2 c3 c4
       rw[e,if_neg (by omega)] at hr
       subst hr
       rcases c4 with c4 | c4
       ·refine zgZ ?_
        refine ab.pure h111 rfl ?_
        exact qsZ
       ·refine zgZ ?_
        refine ab.pure h111 rfl ?_
        exact qsZ
      ·have huse:=huse (by omega)
       have hrule:=hrule (by omega)
       cases c5:eN (Val.mk k' n' s' t' l' f') with
       | false=>
         have e:be j (lv,Val.mk k' n' s' t' l' f')=3:=Kj c1 c2 c3 c4 c5
         rw[e,if_neg (by omega)] at hr
         subst hr
         rw[c5] at huse
         refine zgZ ?_
         refine ab.pure h111 rfl ?_
         refine zgZ ?_
         refine ab.pure huse rfl ?_
         exact qsZ
       | true=>
         have e:be j (lv,Val.mk k' n' s' t' l' f')=bJ (Val.mk k' n' s' t' l' f'):=Al c1 c2 c3 c4 c5
         rw[e] at hr
         rw[c5] at huse
         generalize bJ (Val.mk k' n' s' t' l' f')=z at hr hrule
         have hkc:([AV.pv PV.nilf,AV.pv (PV.clo 282 [] []),AV.pv (PV.clo 284 [] []),AV.pv (PV.clo 285 [] []),AV.pv (PV.clo 287 [] []),AV.pv (PV.clo 289 [] []),AV.pv (PV.clo 290 [] []),AV.pv (PV.clo 291 [] []),AV.pv (PV.clo 292 [] []),AV.pv (PV.clo 293 [] []),AV.pv (PV.clo 294 [] [])]:List AV)[k'.toNat*1]? = some (.pv (.clo (KD k') [] [])):=by
          have hc:k'=1\/k'=2\/k'=3\/k'=4\/k'=5\/k'=6\/k'=7\/k'=8\/k'=9\/k'=10:=by omega
          rcases hc with h | h | h | h | h | h | h | h | h | h<;>rw[h]<;>rfl
         generalize KD k'=rf at hkc hrule
         by_cases hz:z=0
         ·rw[if_pos hz] at hr
          subst hz
          refine zgZ ?_
          refine ab.pure h111 rfl ?_
          refine zgZ ?_
          refine ab.pure huse rfl ?_
          simp(disch:=try exact dI) only[aA,hkc,push_cast,seval]
          refine ab.pure hrule rfl ?_
          refine zgZ ?_
          exact⟨j+1,aV qsZ,rfl,by omega,hr⟩
         ·rw[if_neg hz] at hr
          subst hr
          refine zgZ ?_
          refine ab.pure h111 rfl ?_
          refine zgZ ?_
          refine ab.pure huse rfl ?_
          simp(disch:=try exact dI) only[aA,hkc,push_cast,seval]
          refine ab.pure hrule rfl ?_
          exact qsZ
 ·rintro j ⟨hj,hj4,hr⟩
  simp only[List.length_map] at hj
  subst hj
  rw[List.drop_length] at hr
  rw[show R=0 from hr]
  exact qsZ
theorem Ks (n:Nat)(v:Val)(hd:ly n v)(hv:v.ok)(hs:(eQ n 1 v).length<=9223372036854775806):ag Tryz.prog aq 235 [v.pv] (.int .i64 ((eQ n 1 v).length:Int)):=by
 have hseq:=iQ n v hd hv
 have h243:=j1 v
 generalize hxs:eQ n 1 v=xs at *
 obtain⟨k,a,s,t,l,fs⟩:=v
 simp only[Val.pv_mk] at h243 hseq
 refine ag.intro S3.2 (by simp[S3]) ?_
 simp(disch:=try exact dI) only[S3,Val.pv_mk,push_cast,seval]
 refine ab.pure h243 rfl ?_
 refine zgZ ?_
 refine sQ ([]) (fun i:Nat=>[]) (fun i:Nat=>[(0,.cells 3 true [.pv (.int .i64 (i:Int))])]) (fun j i=>j=i/\i<=xs.length) (0) (hseq) ?_;intro e0 σ0 n0 h0;simp(disch:=try exact dI) only[push_cast,seval] at h0;obtain⟨rfl,rfl,rfl⟩:=h0;refine⟨?_,?_,?_,?_,?_⟩
 ·exact qsZ
 ·exact⟨rfl,by omega⟩
 ·rfl
 ·rintro j i y hy ⟨hij,hi⟩
  subst hij
  have hjl:j<xs.length:=by
   have:=(List.getElem?_eq_some_iff.1 hy).1
   simpa using this
  obtain⟨q,hq⟩:∃ q,xs[j]? = some q:=⟨_,List.getElem?_eq_getElem hjl⟩
  have hye:y=yN q:=by simpa[hq] using hy.symm
  subst hye
  obtain⟨lv,⟨k',n',s',t',l',f'⟩⟩:=q
  refine⟨rfl,?_⟩
  simp only[yN,Val.pv_mk]
  clear hy h243 hseq
  refine zgZ ?_
  exact⟨j+1,aV qsZ,rfl,by omega⟩
 ·rintro j ⟨hj,hi⟩
  simp only[List.length_map] at hj
  subst hj
  exact qsZ
end Go.Proofs.YtbojpfpliibfbaaGreatDoor
