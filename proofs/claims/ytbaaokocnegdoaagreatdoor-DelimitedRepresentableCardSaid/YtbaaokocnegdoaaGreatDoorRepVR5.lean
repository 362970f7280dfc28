/- A part of the proof for DelimitedRepresentableCardSaid. -/
import Derived.Test.YtbaaokocnegdoaaGreatDoorRepVR4
set_option maxRecDepth 100000
set_option linter.unusedVariables false
set_option linter.unusedSimpArgs false
-- many steps
namespace Go.Proofs.YtbaaokocnegdoaaGreatDoor
open Go Go.Ab
attribute [local irreducible] vc
def dp (n a b:Int):Int:=if n<a∨b<n then 2 else 0
def cy (n m e:Int):Int:=if m<n then e else 0
def eo:Option (List UInt8)→List (List UInt8)→Int
 | _,[]=>0
 | p,s::r=>if bR s=false then 12 else if p=some s then 7 else if (p.any fun q=>aM s q)=true then 24 else eo (some s) r
def bz:Val→Int
 | .mk k n s t l fs=>
   if k=1 then dp n 0 1
   else if k=2 then dp n (-999999999999999) 999999999999999
   else if k=3 then (if dp n (-999999999999999) 999999999999999=0 then dp s 0 12 else dp n (-999999999999999) 999999999999999)
   else if k=4 then (if cy t.length 1024 5=0 then (if Lib.validD t=true then 0 else 16) else cy t.length 1024 5)
   else if k=5 then cy t.length 1024 5
   else if k=6 then dp n (-719162) 2932896
   else if k=7 then dp n (-62135596800000) 253402300799999
   else if k=8 then cy l.length 256 9
   else if k=9 then (if cy fs.length 64 9=0 then eo none (fs.map Fld.name) else cy fs.length 64 9)
   else if k=10 then (if bR t=false then 12 else if l.length=0 then 4 else cy l.length 1 3)
   else 0
theorem HT (v:Val)(hk:v.kind=1):am Tryz.prog aE 268 [v.pv] (.int .i64 (bz v)):=by
 obtain⟨k,n,s,t,l,fs⟩:=v
 simp only[Val.kind] at hk;subst hk
 rw[show bz (.mk 1 n s t l fs)=dp n 0 1 from rfl]
 have h:=cQ n 0 1
 change am _ _ _ _ (.int .i64 (dp n 0 1)) at h
 generalize dp n 0 1=e at *
 refine am.intro J9 (by simp[Pv]) ?_
 simp(maxSteps:=9^7) (disch:=first|exact dI|fail) only[Pv,Val.pv_mk,push_cast,seval]
 refine ab.pure h rfl ?_
 simp(maxSteps:=9^7) (disch:=first|exact dI|fail) only[push_cast,seval]
theorem HS (v:Val)(hk:v.kind=2):am Tryz.prog aE 270 [v.pv] (.int .i64 (bz v)):=by
 obtain⟨k,n,s,t,l,fs⟩:=v
 simp only[Val.kind] at hk;subst hk
 rw[show bz (.mk 2 n s t l fs)=dp n (-999999999999999) 999999999999999 from rfl]
 have h:=cQ n (-999999999999999) 999999999999999
 change am _ _ _ _ (.int .i64 (dp n (-999999999999999) 999999999999999)) at h
 generalize dp n (-999999999999999) 999999999999999=e at *
 refine am.intro J7 (by simp[Pu]) ?_
 simp(maxSteps:=9^7) (disch:=first|exact dI|fail) only[Pu,Val.pv_mk,push_cast,seval]
 refine ab.pure h rfl ?_
 simp(maxSteps:=9^7) (disch:=first|exact dI|fail) only[push_cast,seval]
def f5:List Int→Int
 | []=>0
 | a::r=>if a=0 then f5 r else a
theorem nj:∀ {L:List Int} {i:Nat} {x:Int},L[i]? = some x→x≠0→(∀ j,j<i→∀ y,L[j]? = some y→y=0)→f5 L=x
 | [],i,x,h,_,_=>by simp at h
 | a::r,0,x,h,hx,_=>by simp at h;subst h;exact if_neg hx
 | a::r,i+1,x,h,hx,h0=>by
   have ha:=h0 0 (by omega) a rfl
   subst ha
   rw[f5,if_pos rfl]
   exact nj (by simpa using h) hx fun j hj y hy=>h0 (j+1) (by omega) y (by simpa using hy)
theorem jC:∀ {L:List Int},(∀ (j:Nat) y,L[j]? = some y→y=0)→f5 L=0
 | [],_=>rfl
 | a::r,h=>by
   rw[f5,if_pos (h 0 a rfl)]
   exact jC fun j y hy=>h (j+1) y (by simpa using hy)
theorem Ae (L:List Int)(hL:L.length≤1000):am Tryz.prog aE 272 [.list (L.map fun n=>.int .i64 n)] (.int .i64 (f5 L)):=by
 generalize hr:f5 L=e
 refine am.intro J5 (by simp[Ps]) ?_
 simp(maxSteps:=9^7) (disch:=first|exact dI|fail) only[Ps,push_cast,seval]
 refine aD ([]) (fun i:Nat=>[(7,.pv (.int .i64 (i:Int)))]) (fun _=>[]) (fun i=>i≤L.length∧(∀ j,j<i→∀ y,L[j]? = some y→y=0)) (fun i=>L.length - i) (0) ?_;intro e0 σ0 n0 h0;simp(maxSteps:=9^7) (disch:=first|exact dI|fail) only[push_cast,seval] at h0;obtain⟨rfl,rfl,rfl⟩:=h0;refine⟨?_,?_,?_⟩
 ·simp(maxSteps:=9^7) (disch:=first|exact dI|fail) only[push_cast,seval]
 ·exact⟨by omega,by omega⟩
 rintro i ⟨hi,h0⟩
 by_cases hlt:i<L.length
 ·have hltI:(i:Int)<(L.length:Int):=by omega
  obtain⟨x,hx⟩:∃ x,L[i]? = some x:=⟨_,List.getElem?_eq_getElem hlt⟩
  have hcp:(L.map fun n=>PV.int .i64 n)[i]? = some (.int .i64 x):=by simp[hx]
  by_cases hx0:x=0
  ·subst hx0
   simp(maxSteps:=9^7) (disch:=first|exact dI|fail) only[hcp,push_cast,seval]
   exact⟨i+1,bf (by simp(maxSteps:=9^7) (disch:=first|exact dI|fail) only[push_cast,seval]),⟨by omega,fun j hj y hy=>by
    rcases Nat.lt_or_ge j i with h | h
    ·exact h0 j h y hy
    ·have:j=i:=by omega
     subst this
     rw[hx] at hy;exact (Option.some.inj hy).symm⟩,by omega⟩
  ·have:=nj hx hx0 h0
   rw[this] at hr
   subst hr
   simp(maxSteps:=9^7) (disch:=first|exact dI|fail) only[hcp,push_cast,seval]
 ·have:=jC (L:=L) fun j y hy=>h0 j (by have:=(List.getElem?_eq_some_iff.1 hy).1;omega) y hy
  rw[this] at hr
  subst hr
  simp(maxSteps:=9^7) (disch:=first|exact dI|fail) only[push_cast,seval]
theorem E4 (a b:Int):am Tryz.prog aE 272 [.list [.int .i64 a,.int .i64 b]] (.int .i64 (if a=0 then b else a)):=by
 have:=Ae [a,b] (by simp)
 have e:f5 [a,b]=if a=0 then b else a:=by
  simp only[f5]
  by_cases hb:b=0
  ·subst hb;simp
  ·simp[hb]
 rw[e] at this
 exact this
theorem HR (v:Val)(hk:v.kind=3):am Tryz.prog aE 271 [v.pv] (.int .i64 (bz v)):=by
 obtain⟨k,n,s,t,l,fs⟩:=v
 simp only[Val.kind] at hk;subst hk
 rw[show bz (.mk 3 n s t l fs)=(if dp n (-999999999999999) 999999999999999=0 then dp s 0 12 else dp n (-999999999999999) 999999999999999) from rfl]
 have h:=cQ n (-999999999999999) 999999999999999
 have h':=cQ s 0 12
 change am _ _ _ _ (.int .i64 (dp n (-999999999999999) 999999999999999)) at h
 change am _ _ _ _ (.int .i64 (dp s 0 12)) at h'
 generalize dp n (-999999999999999) 999999999999999=e at *
 generalize dp s 0 12=e' at *
 have h2:=E4 e e'
 generalize (if e=0 then e' else e)=e2 at *
 refine am.intro J6 (by simp[Pt]) ?_
 simp(maxSteps:=9^7) (disch:=first|exact dI|fail) only[Pt,Val.pv_mk,push_cast,seval]
 refine aH h rfl ?_
 simp(maxSteps:=9^7) (disch:=first|exact dI|fail) only[push_cast,seval]
 refine ab.pure h' rfl ?_
 simp(maxSteps:=9^7) (disch:=first|exact dI|fail) only[push_cast,seval]
 refine ab.pure h2 rfl ?_
 simp(maxSteps:=9^7) (disch:=first|exact dI|fail) only[push_cast,seval]
theorem HP (v:Val)(hk:v.kind=5):am Tryz.prog aE 275 [v.pv] (.int .i64 (bz v)):=by
 obtain⟨k,n,s,t,l,fs⟩:=v
 simp only[Val.kind] at hk;subst hk
 rw[show bz (.mk 5 n s t l fs)=cy t.length 1024 5 from rfl]
 have h:=iS t.length 1024 5
 change am _ _ _ _ (.int .i64 (cy t.length 1024 5)) at h
 generalize cy t.length 1024 5=e at *
 refine am.intro J1 (by simp[Pr]) ?_
 simp(maxSteps:=9^7) (disch:=first|exact dI|fail) only[Pr,Val.pv_mk,push_cast,seval]
 refine ab.pure h rfl ?_
 simp(maxSteps:=9^7) (disch:=first|exact dI|fail) only[push_cast,seval]
theorem HO (v:Val)(hk:v.kind=6):am Tryz.prog aE 276 [v.pv] (.int .i64 (bz v)):=by
 obtain⟨k,n,s,t,l,fs⟩:=v
 simp only[Val.kind] at hk;subst hk
 rw[show bz (.mk 6 n s t l fs)=dp n (-719162) 2932896 from rfl]
 have h:=cQ n (-719162) 2932896
 change am _ _ _ _ (.int .i64 (dp n (-719162) 2932896)) at h
 generalize dp n (-719162) 2932896=e at *
 refine am.intro J0 (by simp[Pq]) ?_
 simp(maxSteps:=9^7) (disch:=first|exact dI|fail) only[Pq,Val.pv_mk,push_cast,seval]
 refine ab.pure h rfl ?_
 simp(maxSteps:=9^7) (disch:=first|exact dI|fail) only[push_cast,seval]
theorem HN (v:Val)(hk:v.kind=7):am Tryz.prog aE 277 [v.pv] (.int .i64 (bz v)):=by
 obtain⟨k,n,s,t,l,fs⟩:=v
 simp only[Val.kind] at hk;subst hk
 rw[show bz (.mk 7 n s t l fs)=dp n (-62135596800000) 253402300799999 from rfl]
 have h:=cQ n (-62135596800000) 253402300799999
 change am _ _ _ _ (.int .i64 (dp n (-62135596800000) 253402300799999)) at h
 generalize dp n (-62135596800000) 253402300799999=e at *
 refine am.intro JZ (by simp[Pp]) ?_
 simp(maxSteps:=9^7) (disch:=first|exact dI|fail) only[Pp,Val.pv_mk,push_cast,seval]
 refine ab.pure h rfl ?_
 simp(maxSteps:=9^7) (disch:=first|exact dI|fail) only[push_cast,seval]
theorem HM (v:Val)(hk:v.kind=8):am Tryz.prog aE 278 [v.pv] (.int .i64 (bz v)):=by
 obtain⟨k,n,s,t,l,fs⟩:=v
 simp only[Val.kind] at hk;subst hk
 rw[show bz (.mk 8 n s t l fs)=cy l.length 256 9 from rfl]
 have h:=iS l.length 256 9
 change am _ _ _ _ (.int .i64 (cy l.length 256 9)) at h
 generalize cy l.length 256 9=e at *
 refine am.intro JY (by simp[Po]) ?_
 simp(maxSteps:=9^7) (disch:=first|exact dI|fail) only[Po,Val.pv_mk,push_cast,seval]
 refine ab.pure h rfl ?_
 simp(maxSteps:=9^7) (disch:=first|exact dI|fail) only[push_cast,seval]
theorem HQ (v:Val)(hk:v.kind=4):am Tryz.prog aE 273 [v.pv] (.int .i64 (bz v)):=by
 obtain⟨k,n,s,t,l,fs⟩:=v
 simp only[Val.kind] at hk;subst hk
 rw[show bz (.mk 4 n s t l fs)=(if cy t.length 1024 5=0 then (if Lib.validD t=true then 0 else 16) else cy t.length 1024 5) from rfl]
 have h:=iS t.length 1024 5
 have hv:=dw t
 change am _ _ _ _ (.int .i64 (cy t.length 1024 5)) at h
 generalize cy t.length 1024 5=e at *
 refine am.intro J4 (by simp[NC]) ?_
 by_cases he:e=0
 ·subst he
  rw[if_pos rfl]
  cases hb:Lib.validD t with
  | true=>
    rw[hb] at hv
    rw[if_pos rfl]
    simp(maxSteps:=9^7) (disch:=first|exact dI|fail) only[NC,Val.pv_mk,push_cast,seval]
    refine ab.pure h rfl ?_
    simp(maxSteps:=9^7) (disch:=first|exact dI|fail) only[push_cast,seval]
    refine ab.pure hv rfl ?_
    simp(maxSteps:=9^7) (disch:=first|exact dI|fail) only[push_cast,seval]
  | false=>
    rw[hb] at hv
    rw[if_neg (by simp)]
    simp(maxSteps:=9^7) (disch:=first|exact dI|fail) only[NC,Val.pv_mk,push_cast,seval]
    refine ab.pure h rfl ?_
    simp(maxSteps:=9^7) (disch:=first|exact dI|fail) only[push_cast,seval]
    refine ab.pure hv rfl ?_
    simp(maxSteps:=9^7) (disch:=first|exact dI|fail) only[push_cast,seval]
 ·rw[if_neg he]
  simp(maxSteps:=9^7) (disch:=first|exact dI|fail) only[NC,Val.pv_mk,push_cast,seval]
  refine ab.pure h rfl ?_
  simp(maxSteps:=9^7) (disch:=first|exact dI|fail) only[push_cast,seval]
theorem jk {fs:List (List UInt8)}{i:Nat}{s:List UInt8}(h:fs[i]? = some s)(p:Option (List UInt8)):eo p (fs.drop i)=if bR s=false then 12 else if p=some s then 7 else if (p.any fun q=>aM s q)=true then 24 else eo (some s) (fs.drop (i+1)):=by
 have hi:i<fs.length:=(List.getElem?_eq_some_iff.1 h).1
 have he:fs[i]=s:=(List.getElem?_eq_some_iff.1 h).2
 rw[List.drop_eq_getElem_cons hi,he,eo]
def fT (fs:List Fld)(i:Nat):Option (List UInt8):=if i=0 then none else (fs[i - 1]?).map Fld.name
set_option maxHeartbeats 2000000 in
theorem HL (v:Val)(hk:v.kind=9):am Tryz.prog aE 279 [v.pv] (.int .i64 (bz v)):=by
 obtain⟨k,n,s,t,l,fs⟩:=v
 simp only[Val.kind] at hk;subst hk
 rw[show bz (.mk 9 n s t l fs)=(if cy fs.length 64 9=0 then eo none (fs.map Fld.name) else cy fs.length 64 9) from rfl]
 have h:=iS fs.length 64 9
 change am _ _ _ _ (.int .i64 (cy fs.length 64 9)) at h
 by_cases h64:(64:Int)<fs.length
 ·have e:cy fs.length 64 9=9:=if_pos h64
  rw[e] at h ⊢
  rw[if_neg (by omega)]
  refine am.intro Bv (by simp[NB]) ?_
  simp(maxSteps:=9^7) (disch:=first|exact dI|fail) only[NB,Val.pv_mk,push_cast,seval]
  refine ab.pure h rfl ?_
  simp(maxSteps:=9^7) (disch:=first|exact dI|fail) only[push_cast,seval]
 ·have e:cy fs.length 64 9=0:=if_neg h64
  rw[e] at h ⊢
  rw[if_pos rfl]
  have hfl:fs.length≤64:=by omega
  obtain⟨R,hR⟩:∃ R,R=eo none (fs.map Fld.name):=⟨_,rfl⟩
  rw[← hR]
  refine am.intro Bv (by simp[NB]) ?_
  simp(maxSteps:=9^7) (disch:=first|exact dI|fail) only[NB,Val.pv_mk,push_cast,seval]
  refine ab.pure h rfl ?_
  simp(maxSteps:=9^7) (disch:=first|exact dI|fail) only[push_cast,seval]
  refine aD ([]) (fun i:Nat=>[(16,.pv (.int .i64 (i:Int)))]) (fun _=>[]) (fun i=>i≤fs.length∧R=eo (fT fs i) ((fs.map Fld.name).drop i)) (fun i=>fs.length - i) (0) ?_;intro e0 σ0 n0 h0;simp(maxSteps:=9^7) (disch:=first|exact dI|fail) only[push_cast,seval] at h0;obtain⟨rfl,rfl,rfl⟩:=h0;refine⟨?_,?_,?_⟩
  ·simp(maxSteps:=9^7) (disch:=first|exact dI|fail) only[push_cast,seval]
  ·exact⟨by omega,by simpa[fT] using hR⟩
  rintro i ⟨hi,hr⟩
  by_cases hlt:i<fs.length
  ·have hltI:(i:Int)<(fs.length:Int):=by omega
   obtain⟨c,hc⟩:∃ c,fs[i]? = some c:=⟨_,List.getElem?_eq_getElem hlt⟩
   obtain⟨nm,⟨k',n',s',t',l',f'⟩⟩:=c
   have hcp:(fs.map Fld.pv)[i]? = some (.agg [.str nm,.int .i64 k',.int .i64 n',.int .i64 s',.str t',.list (l'.map Val.pv),.list (f'.map Fld.pv)]):=by simp[hc,Fld.pv_mk,Val.pv_mk,ag]
   have hnm:(fs.map Fld.name)[i]? = some nm:=by simp[hc,Fld.name]
   have hn:=pj nm
   rw[jk hnm] at hr
   have hnext:fT fs (i+1)=some nm:=by simp[fT,hc,Fld.name]
   cases hb:bR nm with
   | false=>
     rw[hb] at hn hr
     rw[if_pos rfl] at hr
     subst hr
     simp(maxSteps:=9^7) (disch:=first|exact dI|fail) only[hcp,push_cast,seval]
     refine ab.pure hn rfl ?_
     simp(maxSteps:=9^7) (disch:=first|exact dI|fail) only[push_cast,seval]
   | true=>
     rw[hb] at hn hr
     rw[if_neg (by simp)] at hr
     by_cases hi0:i=0
     ·have hiI:¬ (0:Int)<(i:Int):=by omega
      have hpn:fT fs i=none:=if_pos hi0
      rw[hpn,if_neg (by simp),if_neg (by simp),← hnext] at hr
      simp(maxSteps:=9^7) (disch:=first|exact dI|fail) only[hcp,push_cast,seval]
      refine ab.pure hn rfl ?_
      simp(maxSteps:=9^7) (disch:=first|exact dI|fail) only[push_cast,seval]
      exact⟨i+1,bf (by simp(maxSteps:=9^7) (disch:=first|exact dI|fail) only[push_cast,seval]),⟨by omega,by rw[List.map_drop];exact hr⟩,by omega⟩
     ·obtain⟨j,rfl⟩:∃ j,i=j+1:=⟨i - 1,by omega⟩
      obtain⟨c,hc'⟩:∃ c,fs[j]? = some c:=⟨_,List.getElem?_eq_getElem (by omega)⟩
      have hpn:fT fs (j+1)=some c.name:=by simp[fT,hc']
      obtain⟨q,⟨k2,n2,s2,t2,l2,f2⟩⟩:=c
      have hcq:(fs.map Fld.pv)[j]? = some (.agg [.str q,.int .i64 k2,.int .i64 n2,.int .i64 s2,.str t2,.list (l2.map Val.pv),.list (f2.map Fld.pv)]):=by simp[hc',Fld.pv_mk,Val.pv_mk,ag]
      simp only[Fld.name] at hpn
      rw[hpn] at hr
      by_cases hq:nm=q
      ·subst hq
       rw[if_pos rfl] at hr
       subst hr
       simp(maxSteps:=9^7) (disch:=first|exact dI|fail) only[hcp,Int.add_sub_cancel,push_cast,seval]
       refine ab.pure hn rfl ?_
       simp(maxSteps:=9^7) (disch:=first|exact dI|fail) only[hcq,Int.add_sub_cancel,push_cast,seval]
      ·rw[if_neg (by simpa using fun e=>hq e.symm)] at hr
       cases hlt2:aM nm q with
       | true=>
         rw[if_pos (by simpa using hlt2)] at hr
         subst hr
         simp(maxSteps:=9^7) (disch:=first|exact dI|fail) only[hcp,Int.add_sub_cancel,push_cast,seval]
         refine ab.pure hn rfl ?_
         simp(maxSteps:=9^7) (disch:=first|exact dI|fail) only[hcq,Int.add_sub_cancel,hq,hlt2,push_cast,seval]
       | false=>
         rw[if_neg (by simp[hlt2]),← hnext] at hr
         simp(maxSteps:=9^7) (disch:=first|exact dI|fail) only[hcp,Int.add_sub_cancel,push_cast,seval]
         refine ab.pure hn rfl ?_
         simp(maxSteps:=9^7) (disch:=first|exact dI|fail) only[hcq,Int.add_sub_cancel,hq,hlt2,push_cast,seval]
         exact⟨j+1+1,bf (by simp(maxSteps:=9^7) (disch:=first|exact dI|fail) only[push_cast,seval]),⟨by omega,by rw[List.map_drop];exact hr⟩,by omega⟩
  ·have hie:i=fs.length:=by omega
   subst hie
   rw[List.drop_of_length_le (by simp)] at hr
   rw[show R=0 from hr]
   simp(maxSteps:=9^7) (disch:=first|exact dI|fail) only[push_cast,seval]
theorem HK (v:Val)(hk:v.kind=10):am Tryz.prog aE 280 [v.pv] (.int .i64 (bz v)):=by
 obtain⟨k,n,s,t,l,fs⟩:=v
 simp only[Val.kind] at hk;subst hk
 rw[show bz (.mk 10 n s t l fs)=(if bR t=false then 12 else if l.length=0 then 4 else cy l.length 1 3) from rfl]
 have h:=iS l.length 1 3
 have hn:=pj t
 change am _ _ _ _ (.int .i64 (cy l.length 1 3)) at h
 generalize cy l.length 1 3=e at *
 refine am.intro JW (by simp[Ny]) ?_
 cases hb:bR t with
 | false=>
   rw[hb] at hn
   rw[if_pos rfl]
   simp(maxSteps:=9^7) (disch:=first|exact dI|fail) only[Ny,Val.pv_mk,push_cast,seval]
   refine ab.pure hn rfl ?_
   simp(maxSteps:=9^7) (disch:=first|exact dI|fail) only[push_cast,seval]
 | true=>
   rw[hb] at hn
   rw[if_neg (by simp)]
   by_cases hl:l.length=0
   ·have hlI:(l.length:Int)=0:=by omega
    rw[if_pos hl]
    simp(maxSteps:=9^7) (disch:=first|exact dI|fail) only[Ny,Val.pv_mk,push_cast,seval]
    refine ab.pure hn rfl ?_
    simp(maxSteps:=9^7) (disch:=first|exact dI|fail) only[push_cast,seval]
   ·have hlI:¬ (l.length:Int)=0:=by omega
    rw[if_neg hl]
    simp(maxSteps:=9^7) (disch:=first|exact dI|fail) only[Ny,Val.pv_mk,push_cast,seval]
    refine ab.pure hn rfl ?_
    simp(maxSteps:=9^7) (disch:=first|exact dI|fail) only[push_cast,seval]
    refine ab.pure h rfl ?_
    simp(maxSteps:=9^7) (disch:=first|exact dI|fail) only[push_cast,seval]
end Go.Proofs.YtbaaokocnegdoaaGreatDoor
