/- A part of the proof for CodecUsualCardSaid. -/
import Derived.Test.YtfepkhlgopjaoaaGreatDoorUsKR2
set_option linter.unusedVariables false
set_option linter.unusedSimpArgs false
set_option maxRecDepth 100000
-- many steps
namespace Go.Proofs.YtfepkhlgopjaoaaGreatDoor
open Go Go.Ab
attribute [local irreducible] vc
def fF (n a b:Int):Int:=if n<a∨b<n then 2 else 0
def fm (n m e:Int):Int:=if m<n then e else 0
def fI:Option (List UInt8)→List (List UInt8)→Int
 | _,[]=>0
 | p,s::r=>if ct s=false then 12 else if p=some s then 7 else if (p.any fun q=>bj s q)=true then 24 else fI (some s) r
def bi:Val→Int
 | .mk k n s t l fs=>
   if k=1 then fF n 0 1
   else if k=2 then fF n (-999999999999999) 999999999999999
   else if k=3 then (if fF n (-999999999999999) 999999999999999=0 then fF s 0 12 else fF n (-999999999999999) 999999999999999)
   else if k=4 then (if fm t.length 1024 5=0 then (if Lib.validD t=true then 0 else 16) else fm t.length 1024 5)
   else if k=5 then fm t.length 1024 5
   else if k=6 then fF n (-719162) 2932896
   else if k=7 then fF n (-62135596800000) 253402300799999
   else if k=8 then fm l.length 256 9
   else if k=9 then (if fm fs.length 64 9=0 then fI none (fs.map Fld.name) else fm fs.length 64 9)
   else if k=10 then (if ct t=false then 12 else if l.length=0 then 4 else fm l.length 1 3)
   else 0
theorem FA (v:Val)(hk:v.kind=1):ap Tryz.prog az 212 [v.pv] (.int .i64 (bi v)):=by
 obtain⟨k,n,s,t,l,fs⟩:=v
 simp only[Val.kind] at hk;subst hk
 rw[show bi (.mk 1 n s t l fs)=fF n 0 1 from rfl]
 have h:=bK n 0 1
 change ap _ _ _ _ (.int .i64 (fF n 0 1)) at h
 generalize fF n 0 1=e at *
 refine ap.intro HT (by simp[Nw]) ?_
 simp(maxSteps:=9^7) (disch:=try exact dI) only[Nw,Val.pv_mk,push_cast,seval]
 refine ae.pure h rfl ?_
 simp(maxSteps:=9^7) (disch:=try exact dI) only[push_cast,seval]
theorem Fz (v:Val)(hk:v.kind=2):ap Tryz.prog az 214 [v.pv] (.int .i64 (bi v)):=by
 obtain⟨k,n,s,t,l,fs⟩:=v
 simp only[Val.kind] at hk;subst hk
 rw[show bi (.mk 2 n s t l fs)=fF n (-999999999999999) 999999999999999 from rfl]
 have h:=bK n (-999999999999999) 999999999999999
 change ap _ _ _ _ (.int .i64 (fF n (-999999999999999) 999999999999999)) at h
 generalize fF n (-999999999999999) 999999999999999=e at *
 refine ap.intro HR (by simp[Nv]) ?_
 simp(maxSteps:=9^7) (disch:=try exact dI) only[Nv,Val.pv_mk,push_cast,seval]
 refine ae.pure h rfl ?_
 simp(maxSteps:=9^7) (disch:=try exact dI) only[push_cast,seval]
def eQ:List Int→Int
 | []=>0
 | a::r=>if a=0 then eQ r else a
theorem lC:∀ {L:List Int} {i:Nat} {x:Int},L[i]? = some x→x≠0→(∀ j,j<i→∀ y,L[j]? = some y→y=0)→eQ L=x
 | [],i,x,h,_,_=>by simp at h
 | a::r,0,x,h,hx,_=>by simp at h;subst h;exact if_neg hx
 | a::r,i+1,x,h,hx,h0=>by
   have ha:=h0 0 (by omega) a rfl
   subst ha
   rw[eQ,if_pos rfl]
   exact lC (by simpa using h) hx fun j hj y hy=>h0 (j+1) (by omega) y (by simpa using hy)
theorem gX:∀ {L:List Int},(∀ (j:Nat) y,L[j]? = some y→y=0)→eQ L=0
 | [],_=>rfl
 | a::r,h=>by
   rw[eQ,if_pos (h 0 a rfl)]
   exact gX fun j y hy=>h (j+1) y (by simpa using hy)
theorem xD (L:List Int)(hL:L.length≤1000):ap Tryz.prog az 216 [.list (L.map fun n=>.int .i64 n)] (.int .i64 (eQ L)):=by
 generalize hr:eQ L=e
 refine ap.intro HP (by simp[Nt]) ?_
 simp(maxSteps:=9^7) (disch:=try exact dI) only[Nt,push_cast,seval]
 refine aB ([]) (fun i:Nat=>[(7,.pv (.int .i64 (i:Int)))]) (fun _=>[]) (fun i=>i≤L.length∧(∀ j,j<i→∀ y,L[j]? = some y→y=0)) (fun i=>L.length - i) (0) ?_;intro e0 σ0 n0 h0;simp(maxSteps:=9^7) (disch:=try exact dI) only[push_cast,seval] at h0;obtain⟨rfl,rfl,rfl⟩:=h0;refine⟨?_,?_,?_⟩
 ·simp(maxSteps:=9^7) (disch:=try exact dI) only[push_cast,seval]
 ·exact⟨by omega,by omega⟩
 rintro i ⟨hi,h0⟩
 by_cases hlt:i<L.length
 ·have hltI:(i:Int)<(L.length:Int):=by omega
  obtain⟨x,hx⟩:∃ x,L[i]? = some x:=⟨_,List.getElem?_eq_getElem hlt⟩
  have hcp:(L.map fun n=>PV.int .i64 n)[i]? = some (.int .i64 x):=by simp[hx]
  by_cases hx0:x=0
  ·subst hx0
   simp(maxSteps:=9^7) (disch:=try exact dI) only[hcp,push_cast,seval]
   exact⟨i+1,bH qsZ,⟨by omega,fun j hj y hy=>by
    rcases Nat.lt_or_ge j i with h | h
    ·exact h0 j h y hy
    ·have:j=i:=by omega
     subst this
     rw[hx] at hy;exact (Option.some.inj hy).symm⟩,by omega⟩
  ·have:=lC hx hx0 h0
   rw[this] at hr
   subst hr
   simp(maxSteps:=9^7) (disch:=try exact dI) only[hcp,push_cast,seval]
 ·have:=gX (L:=L) fun j y hy=>h0 j (by have:=(List.getElem?_eq_some_iff.1 hy).1;omega) y hy
  rw[this] at hr
  subst hr
  simp(maxSteps:=9^7) (disch:=try exact dI) only[push_cast,seval]
theorem CI (a b:Int):ap Tryz.prog az 216 [.list [.int .i64 a,.int .i64 b]] (.int .i64 (if a=0 then b else a)):=by
 have:=xD [a,b] (by simp)
 have e:eQ [a,b]=if a=0 then b else a:=by
  simp only[eQ]
  by_cases hb:b=0
  ·subst hb;simp
  ·simp[hb]
 rw[e] at this
 exact this
theorem Fy (v:Val)(hk:v.kind=3):ap Tryz.prog az 215 [v.pv] (.int .i64 (bi v)):=by
 obtain⟨k,n,s,t,l,fs⟩:=v
 simp only[Val.kind] at hk;subst hk
 rw[show bi (.mk 3 n s t l fs)=(if fF n (-999999999999999) 999999999999999=0 then fF s 0 12 else fF n (-999999999999999) 999999999999999) from rfl]
 have h:=bK n (-999999999999999) 999999999999999
 have h':=bK s 0 12
 change ap _ _ _ _ (.int .i64 (fF n (-999999999999999) 999999999999999)) at h
 change ap _ _ _ _ (.int .i64 (fF s 0 12)) at h'
 generalize fF n (-999999999999999) 999999999999999=e at *
 generalize fF s 0 12=e' at *
 have h2:=CI e e'
 generalize (if e=0 then e' else e)=e2 at *
 refine ap.intro HQ (by simp[Nu]) ?_
 simp(maxSteps:=9^7) (disch:=try exact dI) only[Nu,Val.pv_mk,push_cast,seval]
 refine ab h rfl ?_
 simp(maxSteps:=9^7) (disch:=try exact dI) only[push_cast,seval]
 refine ae.pure h' rfl ?_
 simp(maxSteps:=9^7) (disch:=try exact dI) only[push_cast,seval]
 refine ae.pure h2 rfl ?_
 simp(maxSteps:=9^7) (disch:=try exact dI) only[push_cast,seval]
theorem Fw (v:Val)(hk:v.kind=5):ap Tryz.prog az 220 [v.pv] (.int .i64 (bi v)):=by
 obtain⟨k,n,s,t,l,fs⟩:=v
 simp only[Val.kind] at hk;subst hk
 rw[show bi (.mk 5 n s t l fs)=fm t.length 1024 5 from rfl]
 have h:=gz t.length 1024 5
 change ap _ _ _ _ (.int .i64 (fm t.length 1024 5)) at h
 generalize fm t.length 1024 5=e at *
 refine ap.intro HM (by simp[Ns]) ?_
 simp(maxSteps:=9^7) (disch:=try exact dI) only[Ns,Val.pv_mk,push_cast,seval]
 refine ae.pure h rfl ?_
 simp(maxSteps:=9^7) (disch:=try exact dI) only[push_cast,seval]
theorem Fv (v:Val)(hk:v.kind=6):ap Tryz.prog az 221 [v.pv] (.int .i64 (bi v)):=by
 obtain⟨k,n,s,t,l,fs⟩:=v
 simp only[Val.kind] at hk;subst hk
 rw[show bi (.mk 6 n s t l fs)=fF n (-719162) 2932896 from rfl]
 have h:=bK n (-719162) 2932896
 change ap _ _ _ _ (.int .i64 (fF n (-719162) 2932896)) at h
 generalize fF n (-719162) 2932896=e at *
 refine ap.intro HL (by simp[Nr]) ?_
 simp(maxSteps:=9^7) (disch:=try exact dI) only[Nr,Val.pv_mk,push_cast,seval]
 refine ae.pure h rfl ?_
 simp(maxSteps:=9^7) (disch:=try exact dI) only[push_cast,seval]
theorem Fu (v:Val)(hk:v.kind=7):ap Tryz.prog az 222 [v.pv] (.int .i64 (bi v)):=by
 obtain⟨k,n,s,t,l,fs⟩:=v
 simp only[Val.kind] at hk;subst hk
 rw[show bi (.mk 7 n s t l fs)=fF n (-62135596800000) 253402300799999 from rfl]
 have h:=bK n (-62135596800000) 253402300799999
 change ap _ _ _ _ (.int .i64 (fF n (-62135596800000) 253402300799999)) at h
 generalize fF n (-62135596800000) 253402300799999=e at *
 refine ap.intro HK (by simp[Nq]) ?_
 simp(maxSteps:=9^7) (disch:=try exact dI) only[Nq,Val.pv_mk,push_cast,seval]
 refine ae.pure h rfl ?_
 simp(maxSteps:=9^7) (disch:=try exact dI) only[push_cast,seval]
theorem Ft (v:Val)(hk:v.kind=8):ap Tryz.prog az 223 [v.pv] (.int .i64 (bi v)):=by
 obtain⟨k,n,s,t,l,fs⟩:=v
 simp only[Val.kind] at hk;subst hk
 rw[show bi (.mk 8 n s t l fs)=fm l.length 256 9 from rfl]
 have h:=gz l.length 256 9
 change ap _ _ _ _ (.int .i64 (fm l.length 256 9)) at h
 generalize fm l.length 256 9=e at *
 refine ap.intro HJ (by simp[Np]) ?_
 simp(maxSteps:=9^7) (disch:=try exact dI) only[Np,Val.pv_mk,push_cast,seval]
 refine ae.pure h rfl ?_
 simp(maxSteps:=9^7) (disch:=try exact dI) only[push_cast,seval]
theorem Fx (v:Val)(hk:v.kind=4):ap Tryz.prog az 217 [v.pv] (.int .i64 (bi v)):=by
 obtain⟨k,n,s,t,l,fs⟩:=v
 simp only[Val.kind] at hk;subst hk
 rw[show bi (.mk 4 n s t l fs)=(if fm t.length 1024 5=0 then (if Lib.validD t=true then 0 else 16) else fm t.length 1024 5) from rfl]
 have h:=gz t.length 1024 5
 have hv:=dX t
 change ap _ _ _ _ (.int .i64 (fm t.length 1024 5)) at h
 generalize fm t.length 1024 5=e at *
 refine ap.intro HO (by simp[LA]) ?_
 by_cases he:e=0
 ·subst he
  rw[if_pos rfl]
  cases hb:Lib.validD t with
  | true=>
    rw[hb] at hv
    rw[if_pos rfl]
    simp(maxSteps:=9^7) (disch:=try exact dI) only[LA,Val.pv_mk,push_cast,seval]
    refine ae.pure h rfl ?_
    simp(maxSteps:=9^7) (disch:=try exact dI) only[push_cast,seval]
    refine ae.pure hv rfl ?_
    simp(maxSteps:=9^7) (disch:=try exact dI) only[push_cast,seval]
  | false=>
    rw[hb] at hv
    rw[if_neg (by simp)]
    simp(maxSteps:=9^7) (disch:=try exact dI) only[LA,Val.pv_mk,push_cast,seval]
    refine ae.pure h rfl ?_
    simp(maxSteps:=9^7) (disch:=try exact dI) only[push_cast,seval]
    refine ae.pure hv rfl ?_
    simp(maxSteps:=9^7) (disch:=try exact dI) only[push_cast,seval]
 ·rw[if_neg he]
  simp(maxSteps:=9^7) (disch:=try exact dI) only[LA,Val.pv_mk,push_cast,seval]
  refine ae.pure h rfl ?_
  simp(maxSteps:=9^7) (disch:=try exact dI) only[push_cast,seval]
theorem na {fs:List (List UInt8)}{i:Nat}{s:List UInt8}(h:fs[i]? = some s)(p:Option (List UInt8)):fI p (fs.drop i)=if ct s=false then 12 else if p=some s then 7 else if (p.any fun q=>bj s q)=true then 24 else fI (some s) (fs.drop (i+1)):=by
 have hi:i<fs.length:=(List.getElem?_eq_some_iff.1 h).1
 have he:fs[i]=s:=(List.getElem?_eq_some_iff.1 h).2
 rw[List.drop_eq_getElem_cons hi,he,fI]
def m4 (fs:List Fld)(i:Nat):Option (List UInt8):=if i=0 then none else (fs[i - 1]?).map Fld.name
set_option maxHeartbeats 2000000 in
theorem Fs (v:Val)(hk:v.kind=9):ap Tryz.prog az 224 [v.pv] (.int .i64 (bi v)):=by
 obtain⟨k,n,s,t,l,fs⟩:=v
 simp only[Val.kind] at hk;subst hk
 rw[show bi (.mk 9 n s t l fs)=(if fm fs.length 64 9=0 then fI none (fs.map Fld.name) else fm fs.length 64 9) from rfl]
 have h:=gz fs.length 64 9
 change ap _ _ _ _ (.int .i64 (fm fs.length 64 9)) at h
 by_cases h64:(64:Int)<fs.length
 ·have e:fm fs.length 64 9=9:=if_pos h64
  rw[e] at h ⊢
  rw[if_neg (by omega)]
  refine ap.intro zj (by simp[Ly]) ?_
  simp(maxSteps:=9^7) (disch:=try exact dI) only[Ly,Val.pv_mk,push_cast,seval]
  refine ae.pure h rfl ?_
  simp(maxSteps:=9^7) (disch:=try exact dI) only[push_cast,seval]
 ·have e:fm fs.length 64 9=0:=if_neg h64
  rw[e] at h ⊢
  rw[if_pos rfl]
  have hfl:fs.length≤64:=by omega
  obtain⟨R,hR⟩:∃ R,R=fI none (fs.map Fld.name):=⟨_,rfl⟩
  rw[← hR]
  refine ap.intro zj (by simp[Ly]) ?_
  simp(maxSteps:=9^7) (disch:=try exact dI) only[Ly,Val.pv_mk,push_cast,seval]
  refine ae.pure h rfl ?_
  simp(maxSteps:=9^7) (disch:=try exact dI) only[push_cast,seval]
  refine aB ([]) (fun i:Nat=>[(16,.pv (.int .i64 (i:Int)))]) (fun _=>[]) (fun i=>i≤fs.length∧R=fI (m4 fs i) ((fs.map Fld.name).drop i)) (fun i=>fs.length - i) (0) ?_;intro e0 σ0 n0 h0;simp(maxSteps:=9^7) (disch:=try exact dI) only[push_cast,seval] at h0;obtain⟨rfl,rfl,rfl⟩:=h0;refine⟨?_,?_,?_⟩
  ·simp(maxSteps:=9^7) (disch:=try exact dI) only[push_cast,seval]
  ·exact⟨by omega,by simpa[m4] using hR⟩
  rintro i ⟨hi,hr⟩
  by_cases hlt:i<fs.length
  ·have hltI:(i:Int)<(fs.length:Int):=by omega
   obtain⟨c,hc⟩:∃ c,fs[i]? = some c:=⟨_,List.getElem?_eq_getElem hlt⟩
   obtain⟨nm,⟨k',n',s',t',l',f'⟩⟩:=c
   have hcp:(fs.map Fld.pv)[i]? = some (.agg [.str nm,.int .i64 k',.int .i64 n',.int .i64 s',.str t',.list (l'.map Val.pv),.list (f'.map Fld.pv)]):=by simp[hc,Fld.pv_mk,Val.pv_mk,ag]
   have hnm:(fs.map Fld.name)[i]? = some nm:=by simp[hc,Fld.name]
   have hn:=jx nm
   rw[na hnm] at hr
   have hnext:m4 fs (i+1)=some nm:=by simp[m4,hc,Fld.name]
   cases hb:ct nm with
   | false=>
     rw[hb] at hn hr
     rw[if_pos rfl] at hr
     subst hr
     simp(maxSteps:=9^7) (disch:=try exact dI) only[hcp,push_cast,seval]
     refine ae.pure hn rfl ?_
     simp(maxSteps:=9^7) (disch:=try exact dI) only[push_cast,seval]
   | true=>
     rw[hb] at hn hr
     rw[if_neg (by simp)] at hr
     by_cases hi0:i=0
     ·have hiI:¬ (0:Int)<(i:Int):=by omega
      have hpn:m4 fs i=none:=if_pos hi0
      rw[hpn,if_neg (by simp),if_neg (by simp),← hnext] at hr
      simp(maxSteps:=9^7) (disch:=try exact dI) only[hcp,push_cast,seval]
      refine ae.pure hn rfl ?_
      simp(maxSteps:=9^7) (disch:=try exact dI) only[push_cast,seval]
      exact⟨i+1,bH qsZ,⟨by omega,by rw[List.map_drop];exact hr⟩,by omega⟩
     ·obtain⟨j,rfl⟩:∃ j,i=j+1:=⟨i - 1,by omega⟩
      obtain⟨c,hc'⟩:∃ c,fs[j]? = some c:=⟨_,List.getElem?_eq_getElem (by omega)⟩
      have hpn:m4 fs (j+1)=some c.name:=by simp[m4,hc']
      obtain⟨q,⟨k2,n2,s2,t2,l2,f2⟩⟩:=c
      have hcq:(fs.map Fld.pv)[j]? = some (.agg [.str q,.int .i64 k2,.int .i64 n2,.int .i64 s2,.str t2,.list (l2.map Val.pv),.list (f2.map Fld.pv)]):=by simp[hc',Fld.pv_mk,Val.pv_mk,ag]
      simp only[Fld.name] at hpn
      rw[hpn] at hr
      by_cases hq:nm=q
      ·subst hq
       rw[if_pos rfl] at hr
       subst hr
       simp(maxSteps:=9^7) (disch:=try exact dI) only[hcp,Int.add_sub_cancel,push_cast,seval]
       refine ae.pure hn rfl ?_
       simp(maxSteps:=9^7) (disch:=try exact dI) only[hcq,Int.add_sub_cancel,push_cast,seval]
      ·rw[if_neg (by simpa using fun e=>hq e.symm)] at hr
       cases hlt2:bj nm q with
       | true=>
         rw[if_pos (by simpa using hlt2)] at hr
         subst hr
         simp(maxSteps:=9^7) (disch:=try exact dI) only[hcp,Int.add_sub_cancel,push_cast,seval]
         refine ae.pure hn rfl ?_
         simp(maxSteps:=9^7) (disch:=try exact dI) only[hcq,Int.add_sub_cancel,hq,hlt2,push_cast,seval]
       | false=>
         rw[if_neg (by simp[hlt2]),← hnext] at hr
         simp(maxSteps:=9^7) (disch:=try exact dI) only[hcp,Int.add_sub_cancel,push_cast,seval]
         refine ae.pure hn rfl ?_
         simp(maxSteps:=9^7) (disch:=try exact dI) only[hcq,Int.add_sub_cancel,hq,hlt2,push_cast,seval]
         exact⟨j+1+1,bH qsZ,⟨by omega,by rw[List.map_drop];exact hr⟩,by omega⟩
  ·have hie:i=fs.length:=by omega
   subst hie
   rw[List.drop_of_length_le (by simp)] at hr
   rw[show R=0 from hr]
   simp(maxSteps:=9^7) (disch:=try exact dI) only[push_cast,seval]
theorem Fr (v:Val)(hk:v.kind=10):ap Tryz.prog az 225 [v.pv] (.int .i64 (bi v)):=by
 obtain⟨k,n,s,t,l,fs⟩:=v
 simp only[Val.kind] at hk;subst hk
 rw[show bi (.mk 10 n s t l fs)=(if ct t=false then 12 else if l.length=0 then 4 else fm l.length 1 3) from rfl]
 have h:=gz l.length 1 3
 have hn:=jx t
 change ap _ _ _ _ (.int .i64 (fm l.length 1 3)) at h
 generalize fm l.length 1 3=e at *
 refine ap.intro HH (by simp[Lw]) ?_
 cases hb:ct t with
 | false=>
   rw[hb] at hn
   rw[if_pos rfl]
   simp(maxSteps:=9^7) (disch:=try exact dI) only[Lw,Val.pv_mk,push_cast,seval]
   refine ae.pure hn rfl ?_
   simp(maxSteps:=9^7) (disch:=try exact dI) only[push_cast,seval]
 | true=>
   rw[hb] at hn
   rw[if_neg (by simp)]
   by_cases hl:l.length=0
   ·have hlI:(l.length:Int)=0:=by omega
    rw[if_pos hl]
    simp(maxSteps:=9^7) (disch:=try exact dI) only[Lw,Val.pv_mk,push_cast,seval]
    refine ae.pure hn rfl ?_
    simp(maxSteps:=9^7) (disch:=try exact dI) only[push_cast,seval]
   ·have hlI:¬ (l.length:Int)=0:=by omega
    rw[if_neg hl]
    simp(maxSteps:=9^7) (disch:=try exact dI) only[Lw,Val.pv_mk,push_cast,seval]
    refine ae.pure hn rfl ?_
    simp(maxSteps:=9^7) (disch:=try exact dI) only[push_cast,seval]
    refine ae.pure h rfl ?_
    simp(maxSteps:=9^7) (disch:=try exact dI) only[push_cast,seval]
end Go.Proofs.YtfepkhlgopjaoaaGreatDoor
