/- A part. -/
import Derived.Test.YtngchmkoadaecaaGreatDoorPbJR3
set_option linter.unusedVariables false
set_option linter.unusedSimpArgs false
set_option maxHeartbeats 16000000
set_option maxRecDepth 100000
open List renaming getElem?_eq_getElem->WT,getElem?_eq_some_iff->WU,drop_eq_getElem_cons->XP
open Int renaming add_sub_cancel->XG
namespace Go.Proofs.YtngchmkoadaecaaGreatDoor
open Go Go.Ab
attribute [local irreducible] vc
def iS (n a b:Int):Int:=if n<a\/b<n then 2 else 0
def iC (n m e:Int):Int:=if m<n then e else 0
def iU:Option (List UInt8)->List (List UInt8)->Int
 | _,[]=>0
 | p,s::r=>if az s=false then 12 else if p=some s then 7 else if (p.any fun q=>cx s q)=true then 24 else iU (some s) r
def ct:Val->Int
 | .mk k n s t l fs=>
   if k=1 then iS n 0 1
   else if k=2 then iS n (-999999999999999) 999999999999999
   else if k=3 then (if iS n (-999999999999999) 999999999999999=0 then iS s 0 12 else iS n (-999999999999999) 999999999999999)
   else if k=4 then (if iC t.length 1024 5=0 then (if Lib.validD t=true then 0 else 16) else iC t.length 1024 5)
   else if k=5 then iC t.length 1024 5
   else if k=6 then iS n (-719162) 2932896
   else if k=7 then iS n (-62135596800000) 253402300799999
   else if k=8 then iC l.length 256 9
   else if k=9 then (if iC fs.length 64 9=0 then iU none (fs.map Fld.name) else iC fs.length 64 9)
   else if k=10 then (if az t=false then 12 else if l.length=0 then 4 else iC l.length 1 3)
   else 0
theorem Mv (v:Val)(hk:v.kind=1):ap Tryz.prog aC 172 [v.pv] (.int .i64 (ct v)):=by
 obtain⟨k,n,s,t,l,fs⟩:=v
 simp only[Val.kind] at hk;subst hk
 rw[show ct (.mk 1 n s t l fs)=iS n 0 1 from rfl]
 have h:=du n 0 1
 change ap _ _ _ _ (.int .i64 (iS n 0 1)) at h
 generalize iS n 0 1=e at *
 refine ap.intro Vj.2 (by simp[Vj]) ?_
 simp(maxSteps:=9^7) (disch:=try exact dI) only[Vj,WQ,push_cast,seval]
 refine ab.pure h rfl ?_
 simp(maxSteps:=9^7) (disch:=try exact dI) only[push_cast,seval]
theorem Mu (v:Val)(hk:v.kind=2):ap Tryz.prog aC 174 [v.pv] (.int .i64 (ct v)):=by
 obtain⟨k,n,s,t,l,fs⟩:=v
 simp only[Val.kind] at hk;subst hk
 rw[show ct (.mk 2 n s t l fs)=iS n (-999999999999999) 999999999999999 from rfl]
 have h:=du n (-999999999999999) 999999999999999
 change ap _ _ _ _ (.int .i64 (iS n (-999999999999999) 999999999999999)) at h
 generalize iS n (-999999999999999) 999999999999999=e at *
 refine ap.intro Vi.2 (by simp[Vi]) ?_
 simp(maxSteps:=9^7) (disch:=try exact dI) only[Vi,WQ,push_cast,seval]
 refine ab.pure h rfl ?_
 simp(maxSteps:=9^7) (disch:=try exact dI) only[push_cast,seval]
def gW:List Int->Int
 | []=>0
 | a::r=>if a=0 then gW r else a
theorem pB:∀ {L:List Int} {i:Nat} {x:Int},L[i]? = some x->x≠0->(∀ j,j<i->∀ y,L[j]? = some y->y=0)->gW L=x
 | [],i,x,h,_,_=>by simp at h
 | a::r,0,x,h,hx,_=>by simp at h;subst h;exact if_neg hx
 | a::r,i+1,x,h,hx,h0=>by
   have ha:=h0 0 (by omega) a rfl
   subst ha
   rw[gW,if_pos rfl]
   exact pB (by simpa using h) hx fun j hj y hy=>h0 (j+1) (by omega) y (by simpa using hy)
theorem kx:∀ {L:List Int},(∀ (j:Nat) y,L[j]? = some y->y=0)->gW L=0
 | [],_=>rfl
 | a::r,h=>by
   rw[gW,if_pos (h 0 a rfl)]
   exact kx fun j y hy=>h (j+1) y (by simpa using hy)
theorem D9 (L:List Int)(hL:L.length<=1000):ap Tryz.prog aC 176 [.list (L.map fun n=>.int .i64 n)] (.int .i64 (gW L)):=by
 generalize hr:gW L=e
 refine ap.intro Vg.2 (by simp[Vg]) ?_
 simp(maxSteps:=9^7) (disch:=try exact dI) only[Vg,push_cast,seval]
 refine au ([]) (fun i:Nat=>[(7,.pv (.int .i64 (i:Int)))]) (fun _=>[]) (fun i=>i<=L.length/\(∀ j,j<i->∀ y,L[j]? = some y->y=0)) (fun i=>L.length - i) (0) ?_;intro e0 σ0 n0 h0;simp(maxSteps:=9^7) (disch:=try exact dI) only[push_cast,seval] at h0;obtain⟨rfl,rfl,rfl⟩:=h0;refine⟨?_,?_,?_⟩
 ·simp(maxSteps:=9^7) (disch:=try exact dI) only[push_cast,seval]
 ·exact⟨by omega,by omega⟩
 rintro i ⟨hi,h0⟩
 by_cases hlt:i<L.length
 ·have hltI:(i:Int)<(L.length:Int):=by omega
  obtain⟨x,hx⟩:∃ x,L[i]? = some x:=⟨_,WT hlt⟩
  have hcp:(L.map fun n=>PV.int .i64 n)[i]? = some (.int .i64 x):=by simp[hx]
  by_cases hx0:x=0
  ·subst hx0
   simp(maxSteps:=9^7) (disch:=try exact dI) only[hcp,push_cast,seval]
   exact⟨i+1,aJ qsZ,⟨by omega,fun j hj y hy=>by
    rcases Nat.lt_or_ge j i with h | h
    ·exact h0 j h y hy
    ·have:j=i:=by omega
     subst this
     rw[hx] at hy;exact (Option.some.inj hy).symm⟩,by omega⟩
  ·have:=pB hx hx0 h0
   rw[this] at hr
   subst hr
   simp(maxSteps:=9^7) (disch:=try exact dI) only[hcp,push_cast,seval]
 ·have:=kx (L:=L) fun j y hy=>h0 j (by have:=(WU.1 hy).1;omega) y hy
  rw[this] at hr
  subst hr
  simp(maxSteps:=9^7) (disch:=try exact dI) only[push_cast,seval]
theorem Jr (a b:Int):ap Tryz.prog aC 176 [.list [.int .i64 a,.int .i64 b]] (.int .i64 (if a=0 then b else a)):=by
 have:=D9 [a,b] (by simp)
 have e:gW [a,b]=if a=0 then b else a:=by
  simp only[gW]
  by_cases hb:b=0
  ·subst hb;simp
  ·simp[hb]
 rw[e] at this
 exact this
theorem Mt (v:Val)(hk:v.kind=3):ap Tryz.prog aC 175 [v.pv] (.int .i64 (ct v)):=by
 obtain⟨k,n,s,t,l,fs⟩:=v
 simp only[Val.kind] at hk;subst hk
 rw[show ct (.mk 3 n s t l fs)=(if iS n (-999999999999999) 999999999999999=0 then iS s 0 12 else iS n (-999999999999999) 999999999999999) from rfl]
 have h:=du n (-999999999999999) 999999999999999
 have h':=du s 0 12
 change ap _ _ _ _ (.int .i64 (iS n (-999999999999999) 999999999999999)) at h
 change ap _ _ _ _ (.int .i64 (iS s 0 12)) at h'
 generalize iS n (-999999999999999) 999999999999999=e at *
 generalize iS s 0 12=e' at *
 have h2:=Jr e e'
 generalize (if e=0 then e' else e)=e2 at *
 refine ap.intro Vh.2 (by simp[Vh]) ?_
 simp(maxSteps:=9^7) (disch:=try exact dI) only[Vh,WQ,push_cast,seval]
 refine ag h rfl ?_
 simp(maxSteps:=9^7) (disch:=try exact dI) only[push_cast,seval]
 refine ab.pure h' rfl ?_
 simp(maxSteps:=9^7) (disch:=try exact dI) only[push_cast,seval]
 refine ab.pure h2 rfl ?_
 simp(maxSteps:=9^7) (disch:=try exact dI) only[push_cast,seval]
theorem Mr (v:Val)(hk:v.kind=5):ap Tryz.prog aC 179 [v.pv] (.int .i64 (ct v)):=by
 obtain⟨k,n,s,t,l,fs⟩:=v
 simp only[Val.kind] at hk;subst hk
 rw[show ct (.mk 5 n s t l fs)=iC t.length 1024 5 from rfl]
 have h:=jP t.length 1024 5
 change ap _ _ _ _ (.int .i64 (iC t.length 1024 5)) at h
 generalize iC t.length 1024 5=e at *
 refine ap.intro Vf.2 (by simp[Vf]) ?_
 simp(maxSteps:=9^7) (disch:=try exact dI) only[Vf,WQ,push_cast,seval]
 refine ab.pure h rfl ?_
 simp(maxSteps:=9^7) (disch:=try exact dI) only[push_cast,seval]
theorem Mq (v:Val)(hk:v.kind=6):ap Tryz.prog aC 180 [v.pv] (.int .i64 (ct v)):=by
 obtain⟨k,n,s,t,l,fs⟩:=v
 simp only[Val.kind] at hk;subst hk
 rw[show ct (.mk 6 n s t l fs)=iS n (-719162) 2932896 from rfl]
 have h:=du n (-719162) 2932896
 change ap _ _ _ _ (.int .i64 (iS n (-719162) 2932896)) at h
 generalize iS n (-719162) 2932896=e at *
 refine ap.intro Ve.2 (by simp[Ve]) ?_
 simp(maxSteps:=9^7) (disch:=try exact dI) only[Ve,WQ,push_cast,seval]
 refine ab.pure h rfl ?_
 simp(maxSteps:=9^7) (disch:=try exact dI) only[push_cast,seval]
theorem Mp (v:Val)(hk:v.kind=7):ap Tryz.prog aC 181 [v.pv] (.int .i64 (ct v)):=by
 obtain⟨k,n,s,t,l,fs⟩:=v
 simp only[Val.kind] at hk;subst hk
 rw[show ct (.mk 7 n s t l fs)=iS n (-62135596800000) 253402300799999 from rfl]
 have h:=du n (-62135596800000) 253402300799999
 change ap _ _ _ _ (.int .i64 (iS n (-62135596800000) 253402300799999)) at h
 generalize iS n (-62135596800000) 253402300799999=e at *
 refine ap.intro Vd.2 (by simp[Vd]) ?_
 simp(maxSteps:=9^7) (disch:=try exact dI) only[Vd,WQ,push_cast,seval]
 refine ab.pure h rfl ?_
 simp(maxSteps:=9^7) (disch:=try exact dI) only[push_cast,seval]
theorem Mo (v:Val)(hk:v.kind=8):ap Tryz.prog aC 182 [v.pv] (.int .i64 (ct v)):=by
 obtain⟨k,n,s,t,l,fs⟩:=v
 simp only[Val.kind] at hk;subst hk
 rw[show ct (.mk 8 n s t l fs)=iC l.length 256 9 from rfl]
 have h:=jP l.length 256 9
 change ap _ _ _ _ (.int .i64 (iC l.length 256 9)) at h
 generalize iC l.length 256 9=e at *
 refine ap.intro Vc.2 (by simp[Vc]) ?_
 simp(maxSteps:=9^7) (disch:=try exact dI) only[Vc,WQ,push_cast,seval]
 refine ab.pure h rfl ?_
 simp(maxSteps:=9^7) (disch:=try exact dI) only[push_cast,seval]
theorem Ms (v:Val)(hk:v.kind=4):ap Tryz.prog aC 177 [v.pv] (.int .i64 (ct v)):=by
 obtain⟨k,n,s,t,l,fs⟩:=v
 simp only[Val.kind] at hk;subst hk
 rw[show ct (.mk 4 n s t l fs)=(if iC t.length 1024 5=0 then (if Lib.validD t=true then 0 else 16) else iC t.length 1024 5) from rfl]
 have h:=jP t.length 1024 5
 have hv:=fX t
 change ap _ _ _ _ (.int .i64 (iC t.length 1024 5)) at h
 generalize iC t.length 1024 5=e at *
 refine ap.intro SV.2 (by simp[SV]) ?_
 by_cases he:e=0
 ·subst he
  rw[if_pos rfl]
  cases hb:Lib.validD t with
  | true=>
    rw[hb] at hv
    rw[if_pos rfl]
    simp(maxSteps:=9^7) (disch:=try exact dI) only[SV,WQ,push_cast,seval]
    refine ab.pure h rfl ?_
    simp(maxSteps:=9^7) (disch:=try exact dI) only[push_cast,seval]
    refine ab.pure hv rfl ?_
    simp(maxSteps:=9^7) (disch:=try exact dI) only[push_cast,seval]
  | false=>
    rw[hb] at hv
    rw[if_neg (by simp)]
    simp(maxSteps:=9^7) (disch:=try exact dI) only[SV,WQ,push_cast,seval]
    refine ab.pure h rfl ?_
    simp(maxSteps:=9^7) (disch:=try exact dI) only[push_cast,seval]
    refine ab.pure hv rfl ?_
    simp(maxSteps:=9^7) (disch:=try exact dI) only[push_cast,seval]
 ·rw[if_neg he]
  simp(maxSteps:=9^7) (disch:=try exact dI) only[SV,WQ,push_cast,seval]
  refine ab.pure h rfl ?_
  simp(maxSteps:=9^7) (disch:=try exact dI) only[push_cast,seval]
theorem r4 {fs:List (List UInt8)}{i:Nat}{s:List UInt8}(h:fs[i]? = some s)(p:Option (List UInt8)):iU p (fs.drop i)=if az s=false then 12 else if p=some s then 7 else if (p.any fun q=>cx s q)=true then 24 else iU (some s) (fs.drop (i+1)):=by
 have hi:i<fs.length:=(WU.1 h).1
 have he:fs[i]=s:=(WU.1 h).2
 rw[XP hi,he,iU]
def rU (fs:List Fld)(i:Nat):Option (List UInt8):=if i=0 then none else (fs[i - 1]?).map Fld.name
theorem Mn (v:Val)(hk:v.kind=9):ap Tryz.prog aC 183 [v.pv] (.int .i64 (ct v)):=by
 obtain⟨k,n,s,t,l,fs⟩:=v
 simp only[Val.kind] at hk;subst hk
 rw[show ct (.mk 9 n s t l fs)=(if iC fs.length 64 9=0 then iU none (fs.map Fld.name) else iC fs.length 64 9) from rfl]
 have h:=jP fs.length 64 9
 change ap _ _ _ _ (.int .i64 (iC fs.length 64 9)) at h
 by_cases h64:(64:Int)<fs.length
 ·have e:iC fs.length 64 9=9:=if_pos h64
  rw[e] at h ⊢
  rw[if_neg (by omega)]
  refine ap.intro PJ.2 (by simp[PJ]) ?_
  simp(maxSteps:=9^7) (disch:=try exact dI) only[PJ,WQ,push_cast,seval]
  refine ab.pure h rfl ?_
  simp(maxSteps:=9^7) (disch:=try exact dI) only[push_cast,seval]
 ·have e:iC fs.length 64 9=0:=if_neg h64
  rw[e] at h ⊢
  rw[if_pos rfl]
  have hfl:fs.length<=64:=by omega
  obtain⟨R,hR⟩:∃ R,R=iU none (fs.map Fld.name):=⟨_,rfl⟩
  rw[<- hR]
  refine ap.intro PJ.2 (by simp[PJ]) ?_
  simp(maxSteps:=9^7) (disch:=try exact dI) only[PJ,WQ,push_cast,seval]
  refine ab.pure h rfl ?_
  simp(maxSteps:=9^7) (disch:=try exact dI) only[push_cast,seval]
  refine au ([]) (fun i:Nat=>[(16,.pv (.int .i64 (i:Int)))]) (fun _=>[]) (fun i=>i<=fs.length/\R=iU (rU fs i) ((fs.map Fld.name).drop i)) (fun i=>fs.length - i) (0) ?_;intro e0 σ0 n0 h0;simp(maxSteps:=9^7) (disch:=try exact dI) only[push_cast,seval] at h0;obtain⟨rfl,rfl,rfl⟩:=h0;refine⟨?_,?_,?_⟩
  ·simp(maxSteps:=9^7) (disch:=try exact dI) only[push_cast,seval]
  ·exact⟨by omega,by simpa[rU] using hR⟩
  rintro i ⟨hi,hr⟩
  by_cases hlt:i<fs.length
  ·have hltI:(i:Int)<(fs.length:Int):=by omega
   obtain⟨c,hc⟩:∃ c,fs[i]? = some c:=⟨_,WT hlt⟩
   obtain⟨nm,⟨k',n',s',t',l',f'⟩⟩:=c
   have hcp:(fs.map Fld.pv)[i]? = some (.agg [.str nm,.int .i64 k',.int .i64 n',.int .i64 s',.str t',.list (l'.map Val.pv),.list (f'.map Fld.pv)]):=by simp[hc,Wq,WQ,ae]
   have hnm:(fs.map Fld.name)[i]? = some nm:=by simp[hc,Fld.name]
   have hn:=mY nm
   rw[r4 hnm] at hr
   have hnext:rU fs (i+1)=some nm:=by simp[rU,hc,Fld.name]
   cases hb:az nm with
   | false=>
     rw[hb] at hn hr
     rw[if_pos rfl] at hr
     subst hr
     simp(maxSteps:=9^7) (disch:=try exact dI) only[hcp,push_cast,seval]
     refine ab.pure hn rfl ?_
     simp(maxSteps:=9^7) (disch:=try exact dI) only[push_cast,seval]
   | true=>
     rw[hb] at hn hr
     rw[if_neg (by simp)] at hr
     by_cases hi0:i=0
     ·have hiI:¬ (0:Int)<(i:Int):=by omega
      have hpn:rU fs i=none:=if_pos hi0
      rw[hpn,if_neg (by simp),if_neg (by simp),<- hnext] at hr
      simp(maxSteps:=9^7) (disch:=try exact dI) only[hcp,push_cast,seval]
      refine ab.pure hn rfl ?_
      simp(maxSteps:=9^7) (disch:=try exact dI) only[push_cast,seval]
      exact⟨i+1,aJ qsZ,⟨by omega,by rw[List.map_drop];exact hr⟩,by omega⟩
     ·obtain⟨j,rfl⟩:∃ j,i=j+1:=⟨i - 1,by omega⟩
      obtain⟨c,hc'⟩:∃ c,fs[j]? = some c:=⟨_,WT (by omega)⟩
      have hpn:rU fs (j+1)=some c.name:=by simp[rU,hc']
      obtain⟨q,⟨k2,n2,s2,t2,l2,f2⟩⟩:=c
      have hcq:(fs.map Fld.pv)[j]? = some (.agg [.str q,.int .i64 k2,.int .i64 n2,.int .i64 s2,.str t2,.list (l2.map Val.pv),.list (f2.map Fld.pv)]):=by simp[hc',Wq,WQ,ae]
      simp only[Fld.name] at hpn
      rw[hpn] at hr
      by_cases hq:nm=q
      ·subst hq
       rw[if_pos rfl] at hr
       subst hr
       simp(maxSteps:=9^7) (disch:=try exact dI) only[hcp,XG,push_cast,seval]
       refine ab.pure hn rfl ?_
       simp(maxSteps:=9^7) (disch:=try exact dI) only[hcq,XG,push_cast,seval]
      ·rw[if_neg (by simpa using fun e=>hq e.symm)] at hr
       cases hlt2:cx nm q with
       | true=>
         rw[if_pos (by simpa using hlt2)] at hr
         subst hr
         simp(maxSteps:=9^7) (disch:=try exact dI) only[hcp,XG,push_cast,seval]
         refine ab.pure hn rfl ?_
         simp(maxSteps:=9^7) (disch:=try exact dI) only[hcq,XG,hq,hlt2,push_cast,seval]
       | false=>
         rw[if_neg (by simp[hlt2]),<- hnext] at hr
         simp(maxSteps:=9^7) (disch:=try exact dI) only[hcp,XG,push_cast,seval]
         refine ab.pure hn rfl ?_
         simp(maxSteps:=9^7) (disch:=try exact dI) only[hcq,XG,hq,hlt2,push_cast,seval]
         exact⟨j+1+1,aJ qsZ,⟨by omega,by rw[List.map_drop];exact hr⟩,by omega⟩
  ·have hie:i=fs.length:=by omega
   subst hie
   rw[List.drop_of_length_le (by simp)] at hr
   rw[show R=0 from hr]
   simp(maxSteps:=9^7) (disch:=try exact dI) only[push_cast,seval]
theorem Mm (v:Val)(hk:v.kind=10):ap Tryz.prog aC 184 [v.pv] (.int .i64 (ct v)):=by
 obtain⟨k,n,s,t,l,fs⟩:=v
 simp only[Val.kind] at hk;subst hk
 rw[show ct (.mk 10 n s t l fs)=(if az t=false then 12 else if l.length=0 then 4 else iC l.length 1 3) from rfl]
 have h:=jP l.length 1 3
 have hn:=mY t
 change ap _ _ _ _ (.int .i64 (iC l.length 1 3)) at h
 generalize iC l.length 1 3=e at *
 refine ap.intro SU.2 (by simp[SU]) ?_
 cases hb:az t with
 | false=>
   rw[hb] at hn
   rw[if_pos rfl]
   simp(maxSteps:=9^7) (disch:=try exact dI) only[SU,WQ,push_cast,seval]
   refine ab.pure hn rfl ?_
   simp(maxSteps:=9^7) (disch:=try exact dI) only[push_cast,seval]
 | true=>
   rw[hb] at hn
   rw[if_neg (by simp)]
   by_cases hl:l.length=0
   ·have hlI:(l.length:Int)=0:=by omega
    rw[if_pos hl]
    simp(maxSteps:=9^7) (disch:=try exact dI) only[SU,WQ,push_cast,seval]
    refine ab.pure hn rfl ?_
    simp(maxSteps:=9^7) (disch:=try exact dI) only[push_cast,seval]
   ·have hlI:¬ (l.length:Int)=0:=by omega
    rw[if_neg hl]
    simp(maxSteps:=9^7) (disch:=try exact dI) only[SU,WQ,push_cast,seval]
    refine ab.pure hn rfl ?_
    simp(maxSteps:=9^7) (disch:=try exact dI) only[push_cast,seval]
    refine ab.pure h rfl ?_
    simp(maxSteps:=9^7) (disch:=try exact dI) only[push_cast,seval]
def bI (i:Nat)(q:Int×Val):Int:=
 if 4096<=i then 9 else if 8<q.1 then 23 else if fS q.2=true then 19 else if q.2.kind<1\/10<q.2.kind then 11 else if e7 q.2=false then 3 else ct q.2
section
variable {i:Nat}{q:Int×Val}
theorem LU (c1:4096<=i):bI i q=9:=if_pos c1
theorem LS (c1:¬ 4096<=i)(c2:8<q.1):bI i q=23:=by unfold bI;rw[if_neg c1,if_pos c2]
theorem LR (c1:¬ 4096<=i)(c2:¬ 8<q.1)(c3:fS q.2=true):bI i q=19:=by unfold bI;rw[if_neg c1,if_neg c2,if_pos c3]
theorem LQ (c1:¬ 4096<=i)(c2:¬ 8<q.1)(c3:fS q.2=false)(c4:q.2.kind<1\/10<q.2.kind):bI i q=11:=by unfold bI;rw[if_neg c1,if_neg c2,if_neg (by rw[c3];simp),if_pos c4]
theorem LP (c1:¬ 4096<=i)(c2:¬ 8<q.1)(c3:fS q.2=false)(c4:¬ (q.2.kind<1\/10<q.2.kind))(c5:e7 q.2=false):bI i q=3:=by unfold bI;rw[if_neg c1,if_neg c2,if_neg (by rw[c3];simp),if_neg c4,if_pos c5]
theorem Bk (c1:¬ 4096<=i)(c2:¬ 8<q.1)(c3:fS q.2=false)(c4:¬ (q.2.kind<1\/10<q.2.kind))(c5:e7 q.2=true):bI i q=ct q.2:=by unfold bI;rw[if_neg c1,if_neg c2,if_neg (by rw[c3];simp),if_neg c4,if_neg (by rw[c5];simp)]
end
def qJ:Nat->List (Int×Val)->Int
 | _,[]=>0
 | i,q::r=>if bI i q=0 then qJ (i+1) r else bI i q
def Ml (k:Int):Nat:=if k=1 then 172 else if k=2 then 174 else if k=3 then 175 else if k=4 then 177 else if k=5 then 179 else if k=6 then 180 else if k=7 then 181 else if k=8 then 182 else if k=9 then 183 else 184
theorem Mk (v:Val)(h:1<=v.kind/\v.kind<=10):ap Tryz.prog aC (Ml v.kind) [v.pv] (.int .i64 (ct v)):=by
 have hc:v.kind=1\/v.kind=2\/v.kind=3\/v.kind=4\/v.kind=5\/v.kind=6\/v.kind=7\/v.kind=8\/v.kind=9\/v.kind=10:=by omega
 rcases hc with h | h | h | h | h | h | h | h | h | h<;>rw[h]
 ·exact Mv v h
 ·exact Mu v h
 ·exact Mt v h
 ·exact Ms v h
 ·exact Mr v h
 ·exact Mq v h
 ·exact Mp v h
 ·exact Mo v h
 ·exact Mn v h
 ·exact Mm v h
theorem j1 {n sz r o:Nat}{k:IntKind}{i:Int}(h0:0<=i)(h1:i.toNat<n):ir n sz (.ptr r o) (.pv (.int k i))=some (.ptr r (o+i.toNat*sz)):=if_pos ⟨h0,h1⟩
theorem LD (x:Val)(h:1<=x.kind/\x.kind<=10):ap Tryz.prog aC 159 [x.pv] (.bool (e7 x)):=LB x h
theorem OO {xs:List (Int×Val)}{i:Nat}{q:Int×Val}(h:xs[i]? = some q):qJ i (xs.drop i)=if bI i q=0 then qJ (i+1) (xs.drop (i+1)) else bI i q:=by
 have hi:i<xs.length:=(WU.1 h).1
 have he:xs[i]=q:=(WU.1 h).2
 rw[XP hi,he,qJ]
theorem vd (n:Nat)(v:Val)(hd:lz n v)(hv:v.ok):ap Tryz.prog aC 144 [v.pv] (.int .i64 (qJ 0 (ff n 1 v))):=by
 have hseq:=iR n v hd hv
 have h243:=j3 v
 have h242:=G0
 generalize hxs:ff n 1 v=xs at *
 obtain⟨R,hR⟩:∃ R,R=qJ 0 xs:=⟨_,rfl⟩
 rw[<- hR]
 obtain⟨k,a,s,t,l,fs⟩:=v
 simp only[WQ,Bz] at h243 h242 hseq
 refine ap.intro Vr.2 (by simp[Vr]) ?_
 simp(maxSteps:=9^7) (disch:=try exact dI) only[Vr,WQ,push_cast,seval]
 refine ab.pure h242 rfl ?_
 simp(maxSteps:=9^7) (disch:=try exact dI) only[CC,ul,push_cast,seval]
 refine ab.pure h243 rfl ?_
 simp(maxSteps:=9^7) (disch:=try exact dI) only[push_cast,seval]
 refine Ko ([]) (fun i:Nat=>[]) (fun i:Nat=>[(2,.cells 3 true [.pv (.int .i64 (i:Int))])]) (fun j i=>j=i/\i<=4096/\R=qJ i (xs.drop i)) (0) (hseq) ?_;intro e0 σ0 n0 h0;simp(maxSteps:=9^7) (disch:=try exact dI) only[push_cast,seval] at h0;obtain⟨rfl,rfl,rfl⟩:=h0;refine⟨?_,?_,?_,?_,?_⟩
 ·simp(maxSteps:=9^7) (disch:=try exact dI) only[push_cast,seval]
 ·exact⟨rfl,by omega,by simpa using hR⟩
 ·rfl
 ·rintro j i y hy ⟨hij,hj4,hr⟩
  subst hij
  obtain⟨q,hq⟩:∃ q,xs[j]? = some q:=by
   cases h:xs[j]? with
   | none=>simp[h] at hy
   | some q=>exact⟨q,rfl⟩
  have hye:y=At q:=by simpa[hq] using hy.symm
  subst hye
  rw[OO hq] at hr
  have hjl:j<xs.length:=(WU.1 hq).1
  obtain⟨lv,x⟩:=q
  have h111:=NE x
  have hrule:=Mk x
  have huse:=LD x
  obtain⟨k',n',s',t',l',f'⟩:=x
  simp only[WQ,Val.kind] at h111 hrule huse
  refine⟨rfl,?_⟩
  simp only[At,WQ]
  clear hy h242 h243 hseq
  by_cases c1:4096<=j
  ·have e:bI j (lv,Val.mk k' n' s' t' l' f')=9:=if_pos c1
   rw[e,if_neg (by omega)] at hr
   subst hr
   simp(maxSteps:=9^7) (disch:=try exact dI) only[push_cast,seval]
  ·have hj1:¬ (4096:Int)<(j:Int)+1:=by omega
   by_cases c2:8<lv
   ·have e:bI j (lv,Val.mk k' n' s' t' l' f')=23:=LS c1 c2
    rw[e,if_neg (by omega)] at hr
    subst hr
    simp(maxSteps:=9^7) (disch:=try exact dI) only[push_cast,seval]
   ·cases c3:fS (Val.mk k' n' s' t' l' f') with
    | true=>
      have e:bI j (lv,Val.mk k' n' s' t' l' f')=19:=LR c1 c2 c3
      rw[e,if_neg (by omega)] at hr
      subst hr
      rw[c3] at h111
      simp(maxSteps:=9^7) (disch:=try exact dI) only[push_cast,seval]
      refine ab.pure h111 rfl ?_
      simp(maxSteps:=9^7) (disch:=try exact dI) only[push_cast,seval]
    | false=>
      rw[c3] at h111
      by_cases c4:k'<1\/10<k'
      ·have e:bI j (lv,Val.mk k' n' s' t' l' f')=11:=LQ c1 c2 c3 c4
       rw[e,if_neg (by omega)] at hr
       subst hr
       rcases c4 with c4 | c4
       ·simp(maxSteps:=9^7) (disch:=try exact dI) only[push_cast,seval]
        refine ab.pure h111 rfl ?_
        simp(maxSteps:=9^7) (disch:=try exact dI) only[push_cast,seval]
       ·simp(maxSteps:=9^7) (disch:=try exact dI) only[push_cast,seval]
        refine ab.pure h111 rfl ?_
        simp(maxSteps:=9^7) (disch:=try exact dI) only[push_cast,seval]
      ·have huse:=huse (by omega)
       have hrule:=hrule (by omega)
       cases c5:e7 (Val.mk k' n' s' t' l' f') with
       | false=>
         have e:bI j (lv,Val.mk k' n' s' t' l' f')=3:=LP c1 c2 c3 c4 c5
         rw[e,if_neg (by omega)] at hr
         subst hr
         rw[c5] at huse
         simp(maxSteps:=9^7) (disch:=try exact dI) only[push_cast,seval]
         refine ab.pure h111 rfl ?_
         simp(maxSteps:=9^7) (disch:=try exact dI) only[push_cast,seval]
         refine ab.pure huse rfl ?_
         simp(maxSteps:=9^7) (disch:=try exact dI) only[push_cast,seval]
       | true=>
         have e:bI j (lv,Val.mk k' n' s' t' l' f')=ct (Val.mk k' n' s' t' l' f'):=Bk c1 c2 c3 c4 c5
         rw[e] at hr
         rw[c5] at huse
         generalize ct (Val.mk k' n' s' t' l' f')=z at hr hrule
         have hkc:([AV.pv PV.nilf,AV.pv (PV.clo 172 [] []),AV.pv (PV.clo 174 [] []),AV.pv (PV.clo 175 [] []),AV.pv (PV.clo 177 [] []),AV.pv (PV.clo 179 [] []),AV.pv (PV.clo 180 [] []),AV.pv (PV.clo 181 [] []),AV.pv (PV.clo 182 [] []),AV.pv (PV.clo 183 [] []),AV.pv (PV.clo 184 [] [])]:List AV)[k'.toNat*1]? = some (.pv (.clo (Ml k') [] [])):=by
          have hc:k'=1\/k'=2\/k'=3\/k'=4\/k'=5\/k'=6\/k'=7\/k'=8\/k'=9\/k'=10:=by omega
          rcases hc with h | h | h | h | h | h | h | h | h | h<;>rw[h]<;>rfl
         generalize Ml k'=rf at hkc hrule
         by_cases hz:z=0
         ·rw[if_pos hz] at hr
          subst hz
          simp(maxSteps:=9^7) (disch:=try exact dI) only[push_cast,seval]
          refine ab.pure h111 rfl ?_
          simp(maxSteps:=9^7) (disch:=try exact dI) only[push_cast,seval]
          refine ab.pure huse rfl ?_
          simp(maxSteps:=9^7) (disch:=try exact dI) only[j1,hkc,push_cast,seval]
          refine ab.pure hrule rfl ?_
          simp(maxSteps:=9^7) (disch:=try exact dI) only[push_cast,seval]
          exact⟨j+1,aJ qsZ,rfl,by omega,hr⟩
         ·rw[if_neg hz] at hr
          subst hr
          simp(maxSteps:=9^7) (disch:=try exact dI) only[push_cast,seval]
          refine ab.pure h111 rfl ?_
          simp(maxSteps:=9^7) (disch:=try exact dI) only[push_cast,seval]
          refine ab.pure huse rfl ?_
          simp(maxSteps:=9^7) (disch:=try exact dI) only[j1,hkc,push_cast,seval]
          refine ab.pure hrule rfl ?_
          simp(maxSteps:=9^7) (disch:=try exact dI) only[push_cast,seval]
 ·rintro j ⟨hj,hj4,hr⟩
  simp only[List.length_map] at hj
  subst hj
  rw[List.drop_length] at hr
  rw[show R=0 from hr]
  simp(maxSteps:=9^7) (disch:=try exact dI) only[push_cast,seval]
