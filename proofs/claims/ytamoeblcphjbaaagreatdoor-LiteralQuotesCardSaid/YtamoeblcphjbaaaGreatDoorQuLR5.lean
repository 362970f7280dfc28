/- A part of the proof for LiteralQuotesCardSaid. -/
import Derived.Test.YtamoeblcphjbaaaGreatDoorQuLR4
set_option maxRecDepth 100000
set_option linter.unusedVariables false
set_option linter.unusedSimpArgs false
-- many steps
namespace Go.Proofs.YtamoeblcphjbaaaGreatDoor
open Go Go.Ab
attribute [local irreducible] vc
def gH (n a b:Int):Int:=if n<a∨b<n then 2 else 0
def fH (n m e:Int):Int:=if m<n then e else 0
def gK:Option (List UInt8)→List (List UInt8)→Int
 | _,[]=>0
 | p,s::r=>if db s=false then 12 else if p=some s then 7 else if (p.any fun q=>ct s q)=true then 24 else gK (some s) r
def ca:Val→Int
 | .mk k n s t l fs=>
   if k=1 then gH n 0 1
   else if k=2 then gH n (-999999999999999) 999999999999999
   else if k=3 then (if gH n (-999999999999999) 999999999999999=0 then gH s 0 12 else gH n (-999999999999999) 999999999999999)
   else if k=4 then (if fH t.length 1024 5=0 then (if Lib.validD t=true then 0 else 16) else fH t.length 1024 5)
   else if k=5 then fH t.length 1024 5
   else if k=6 then gH n (-719162) 2932896
   else if k=7 then gH n (-62135596800000) 253402300799999
   else if k=8 then fH l.length 256 9
   else if k=9 then (if fH fs.length 64 9=0 then gK none (fs.map Fld.name) else fH fs.length 64 9)
   else if k=10 then (if db t=false then 12 else if l.length=0 then 4 else fH l.length 1 3)
   else 0
theorem HX (v:Val)(hk:v.kind=1):aw Tryz.prog aF 69 [v.pv] (.int .i64 (ca v)):=by
 obtain⟨k,n,s,t,l,fs⟩:=v
 simp only[Val.kind] at hk;subst hk
 rw[show ca (.mk 1 n s t l fs)=gH n 0 1 from rfl]
 have h:=cH n 0 1
 change aw _ _ _ _ (.int .i64 (gH n 0 1)) at h
 generalize gH n 0 1=e at *
 refine aw.intro NU (by simp[F69]) ?_
 simp(maxSteps:=9^7) (disch:=first|exact dI|fail) only[F69,Val.pv_mk,push_cast,seval]
 refine ab.pure h rfl ?_
 simp(maxSteps:=9^7) (disch:=first|exact dI|fail) only[push_cast,seval]
theorem HW (v:Val)(hk:v.kind=2):aw Tryz.prog aF 71 [v.pv] (.int .i64 (ca v)):=by
 obtain⟨k,n,s,t,l,fs⟩:=v
 simp only[Val.kind] at hk;subst hk
 rw[show ca (.mk 2 n s t l fs)=gH n (-999999999999999) 999999999999999 from rfl]
 have h:=cH n (-999999999999999) 999999999999999
 change aw _ _ _ _ (.int .i64 (gH n (-999999999999999) 999999999999999)) at h
 generalize gH n (-999999999999999) 999999999999999=e at *
 refine aw.intro NS (by simp[F71]) ?_
 simp(maxSteps:=9^7) (disch:=first|exact dI|fail) only[F71,Val.pv_mk,push_cast,seval]
 refine ab.pure h rfl ?_
 simp(maxSteps:=9^7) (disch:=first|exact dI|fail) only[push_cast,seval]
def fO:List Int→Int
 | []=>0
 | a::r=>if a=0 then fO r else a
theorem nK:∀ {L:List Int} {i:Nat} {x:Int},L[i]? = some x→x≠0→(∀ j,j<i→∀ y,L[j]? = some y→y=0)→fO L=x
 | [],i,x,h,_,_=>by simp at h
 | a::r,0,x,h,hx,_=>by simp at h;subst h;exact if_neg hx
 | a::r,i+1,x,h,hx,h0=>by
   have ha:=h0 0 (by omega) a rfl
   subst ha
   rw[fO,if_pos rfl]
   exact nK (by simpa using h) hx fun j hj y hy=>h0 (j+1) (by omega) y (by simpa using hy)
theorem jo:∀ {L:List Int},(∀ (j:Nat) y,L[j]? = some y→y=0)→fO L=0
 | [],_=>rfl
 | a::r,h=>by
   rw[fO,if_pos (h 0 a rfl)]
   exact jo fun j y hy=>h (j+1) y (by simpa using hy)
theorem AB (L:List Int)(hL:L.length≤1000):aw Tryz.prog aF 73 [.list (L.map fun n=>.int .i64 n)] (.int .i64 (fO L)):=by
 generalize hr:fO L=e
 refine aw.intro NQ (by simp[F73]) ?_
 simp(maxSteps:=9^7) (disch:=first|exact dI|fail) only[F73,push_cast,seval]
 refine bg ([]) (fun i:Nat=>[(7,.pv (.int .i64 (i:Int)))]) (fun _=>[]) (fun i=>i≤L.length∧(∀ j,j<i→∀ y,L[j]? = some y→y=0)) (fun i=>L.length - i) (0) ?_;intro e0 σ0 n0 h0;simp(maxSteps:=9^7) (disch:=first|exact dI|fail) only[push_cast,seval] at h0;obtain⟨rfl,rfl,rfl⟩:=h0;refine⟨?_,?_,?_⟩
 ·simp(maxSteps:=9^7) (disch:=first|exact dI|fail) only[push_cast,seval]
 ·exact⟨by omega,by omega⟩
 rintro i ⟨hi,h0⟩
 by_cases hlt:i<L.length
 ·have hltI:(i:Int)<(L.length:Int):=by omega
  obtain⟨x,hx⟩:∃ x,L[i]? = some x:=⟨_,List.getElem?_eq_getElem hlt⟩
  have hcp:(L.map fun n=>PV.int .i64 n)[i]? = some (.int .i64 x):=by simp[hx]
  by_cases hx0:x=0
  ·subst hx0
   simp(maxSteps:=9^7) (disch:=first|exact dI|fail) only[hcp,push_cast,seval]
   exact⟨i+1,bM (by simp(maxSteps:=9^7) (disch:=first|exact dI|fail) only[push_cast,seval]),⟨by omega,fun j hj y hy=>by
    rcases Nat.lt_or_ge j i with h | h
    ·exact h0 j h y hy
    ·have:j=i:=by omega
     subst this
     rw[hx] at hy;exact (Option.some.inj hy).symm⟩,by omega⟩
  ·have:=nK hx hx0 h0
   rw[this] at hr
   subst hr
   simp(maxSteps:=9^7) (disch:=first|exact dI|fail) only[hcp,push_cast,seval]
 ·have:=jo (L:=L) fun j y hy=>h0 j (by have:=(List.getElem?_eq_some_iff.1 hy).1;omega) y hy
  rw[this] at hr
  subst hr
  simp(maxSteps:=9^7) (disch:=first|exact dI|fail) only[push_cast,seval]
theorem E8 (a b:Int):aw Tryz.prog aF 73 [.list [.int .i64 a,.int .i64 b]] (.int .i64 (if a=0 then b else a)):=by
 have:=AB [a,b] (by simp)
 have e:fO [a,b]=if a=0 then b else a:=by
  simp only[fO]
  by_cases hb:b=0
  ·subst hb;simp
  ·simp[hb]
 rw[e] at this
 exact this
theorem HV (v:Val)(hk:v.kind=3):aw Tryz.prog aF 72 [v.pv] (.int .i64 (ca v)):=by
 obtain⟨k,n,s,t,l,fs⟩:=v
 simp only[Val.kind] at hk;subst hk
 rw[show ca (.mk 3 n s t l fs)=(if gH n (-999999999999999) 999999999999999=0 then gH s 0 12 else gH n (-999999999999999) 999999999999999) from rfl]
 have h:=cH n (-999999999999999) 999999999999999
 have h':=cH s 0 12
 change aw _ _ _ _ (.int .i64 (gH n (-999999999999999) 999999999999999)) at h
 change aw _ _ _ _ (.int .i64 (gH s 0 12)) at h'
 generalize gH n (-999999999999999) 999999999999999=e at *
 generalize gH s 0 12=e' at *
 have h2:=E8 e e'
 generalize (if e=0 then e' else e)=e2 at *
 refine aw.intro NR (by simp[F72]) ?_
 simp(maxSteps:=9^7) (disch:=first|exact dI|fail) only[F72,Val.pv_mk,push_cast,seval]
 refine ae h rfl ?_
 simp(maxSteps:=9^7) (disch:=first|exact dI|fail) only[push_cast,seval]
 refine ab.pure h' rfl ?_
 simp(maxSteps:=9^7) (disch:=first|exact dI|fail) only[push_cast,seval]
 refine ab.pure h2 rfl ?_
 simp(maxSteps:=9^7) (disch:=first|exact dI|fail) only[push_cast,seval]
theorem HT (v:Val)(hk:v.kind=5):aw Tryz.prog aF 77 [v.pv] (.int .i64 (ca v)):=by
 obtain⟨k,n,s,t,l,fs⟩:=v
 simp only[Val.kind] at hk;subst hk
 rw[show ca (.mk 5 n s t l fs)=fH t.length 1024 5 from rfl]
 have h:=iJ t.length 1024 5
 change aw _ _ _ _ (.int .i64 (fH t.length 1024 5)) at h
 generalize fH t.length 1024 5=e at *
 refine aw.intro NN (by simp[F77]) ?_
 simp(maxSteps:=9^7) (disch:=first|exact dI|fail) only[F77,Val.pv_mk,push_cast,seval]
 refine ab.pure h rfl ?_
 simp(maxSteps:=9^7) (disch:=first|exact dI|fail) only[push_cast,seval]
theorem HS (v:Val)(hk:v.kind=6):aw Tryz.prog aF 78 [v.pv] (.int .i64 (ca v)):=by
 obtain⟨k,n,s,t,l,fs⟩:=v
 simp only[Val.kind] at hk;subst hk
 rw[show ca (.mk 6 n s t l fs)=gH n (-719162) 2932896 from rfl]
 have h:=cH n (-719162) 2932896
 change aw _ _ _ _ (.int .i64 (gH n (-719162) 2932896)) at h
 generalize gH n (-719162) 2932896=e at *
 refine aw.intro NM (by simp[F78]) ?_
 simp(maxSteps:=9^7) (disch:=first|exact dI|fail) only[F78,Val.pv_mk,push_cast,seval]
 refine ab.pure h rfl ?_
 simp(maxSteps:=9^7) (disch:=first|exact dI|fail) only[push_cast,seval]
theorem HR (v:Val)(hk:v.kind=7):aw Tryz.prog aF 79 [v.pv] (.int .i64 (ca v)):=by
 obtain⟨k,n,s,t,l,fs⟩:=v
 simp only[Val.kind] at hk;subst hk
 rw[show ca (.mk 7 n s t l fs)=gH n (-62135596800000) 253402300799999 from rfl]
 have h:=cH n (-62135596800000) 253402300799999
 change aw _ _ _ _ (.int .i64 (gH n (-62135596800000) 253402300799999)) at h
 generalize gH n (-62135596800000) 253402300799999=e at *
 refine aw.intro NL (by simp[F79]) ?_
 simp(maxSteps:=9^7) (disch:=first|exact dI|fail) only[F79,Val.pv_mk,push_cast,seval]
 refine ab.pure h rfl ?_
 simp(maxSteps:=9^7) (disch:=first|exact dI|fail) only[push_cast,seval]
theorem HQ (v:Val)(hk:v.kind=8):aw Tryz.prog aF 80 [v.pv] (.int .i64 (ca v)):=by
 obtain⟨k,n,s,t,l,fs⟩:=v
 simp only[Val.kind] at hk;subst hk
 rw[show ca (.mk 8 n s t l fs)=fH l.length 256 9 from rfl]
 have h:=iJ l.length 256 9
 change aw _ _ _ _ (.int .i64 (fH l.length 256 9)) at h
 generalize fH l.length 256 9=e at *
 refine aw.intro NK (by simp[F80]) ?_
 simp(maxSteps:=9^7) (disch:=first|exact dI|fail) only[F80,Val.pv_mk,push_cast,seval]
 refine ab.pure h rfl ?_
 simp(maxSteps:=9^7) (disch:=first|exact dI|fail) only[push_cast,seval]
theorem HU (v:Val)(hk:v.kind=4):aw Tryz.prog aF 74 [v.pv] (.int .i64 (ca v)):=by
 obtain⟨k,n,s,t,l,fs⟩:=v
 simp only[Val.kind] at hk;subst hk
 rw[show ca (.mk 4 n s t l fs)=(if fH t.length 1024 5=0 then (if Lib.validD t=true then 0 else 16) else fH t.length 1024 5) from rfl]
 have h:=iJ t.length 1024 5
 have hv:=eR t
 change aw _ _ _ _ (.int .i64 (fH t.length 1024 5)) at h
 generalize fH t.length 1024 5=e at *
 refine aw.intro NP (by simp[F74]) ?_
 by_cases he:e=0
 ·subst he
  rw[if_pos rfl]
  cases hb:Lib.validD t with
  | true=>
    rw[hb] at hv
    rw[if_pos rfl]
    simp(maxSteps:=9^7) (disch:=first|exact dI|fail) only[F74,Val.pv_mk,push_cast,seval]
    refine ab.pure h rfl ?_
    simp(maxSteps:=9^7) (disch:=first|exact dI|fail) only[push_cast,seval]
    refine ab.pure hv rfl ?_
    simp(maxSteps:=9^7) (disch:=first|exact dI|fail) only[push_cast,seval]
  | false=>
    rw[hb] at hv
    rw[if_neg (by simp)]
    simp(maxSteps:=9^7) (disch:=first|exact dI|fail) only[F74,Val.pv_mk,push_cast,seval]
    refine ab.pure h rfl ?_
    simp(maxSteps:=9^7) (disch:=first|exact dI|fail) only[push_cast,seval]
    refine ab.pure hv rfl ?_
    simp(maxSteps:=9^7) (disch:=first|exact dI|fail) only[push_cast,seval]
 ·rw[if_neg he]
  simp(maxSteps:=9^7) (disch:=first|exact dI|fail) only[F74,Val.pv_mk,push_cast,seval]
  refine ab.pure h rfl ?_
  simp(maxSteps:=9^7) (disch:=first|exact dI|fail) only[push_cast,seval]
theorem pB {fs:List (List UInt8)}{i:Nat}{s:List UInt8}(h:fs[i]? = some s)(p:Option (List UInt8)):gK p (fs.drop i)=if db s=false then 12 else if p=some s then 7 else if (p.any fun q=>ct s q)=true then 24 else gK (some s) (fs.drop (i+1)):=by
 have hi:i<fs.length:=(List.getElem?_eq_some_iff.1 h).1
 have he:fs[i]=s:=(List.getElem?_eq_some_iff.1 h).2
 rw[List.drop_eq_getElem_cons hi,he,gK]
def pm (fs:List Fld)(i:Nat):Option (List UInt8):=if i=0 then none else (fs[i - 1]?).map Fld.name
set_option maxHeartbeats 2000000 in
theorem HP (v:Val)(hk:v.kind=9):aw Tryz.prog aF 81 [v.pv] (.int .i64 (ca v)):=by
 obtain⟨k,n,s,t,l,fs⟩:=v
 simp only[Val.kind] at hk;subst hk
 rw[show ca (.mk 9 n s t l fs)=(if fH fs.length 64 9=0 then gK none (fs.map Fld.name) else fH fs.length 64 9) from rfl]
 have h:=iJ fs.length 64 9
 change aw _ _ _ _ (.int .i64 (fH fs.length 64 9)) at h
 by_cases h64:(64:Int)<fs.length
 ·have e:fH fs.length 64 9=9:=if_pos h64
  rw[e] at h ⊢
  rw[if_neg (by omega)]
  refine aw.intro GZ (by simp[F81]) ?_
  simp(maxSteps:=9^7) (disch:=first|exact dI|fail) only[F81,Val.pv_mk,push_cast,seval]
  refine ab.pure h rfl ?_
  simp(maxSteps:=9^7) (disch:=first|exact dI|fail) only[push_cast,seval]
 ·have e:fH fs.length 64 9=0:=if_neg h64
  rw[e] at h ⊢
  rw[if_pos rfl]
  have hfl:fs.length≤64:=by omega
  obtain⟨R,hR⟩:∃ R,R=gK none (fs.map Fld.name):=⟨_,rfl⟩
  rw[← hR]
  refine aw.intro GZ (by simp[F81]) ?_
  simp(maxSteps:=9^7) (disch:=first|exact dI|fail) only[F81,Val.pv_mk,push_cast,seval]
  refine ab.pure h rfl ?_
  simp(maxSteps:=9^7) (disch:=first|exact dI|fail) only[push_cast,seval]
  refine bg ([]) (fun i:Nat=>[(16,.pv (.int .i64 (i:Int)))]) (fun _=>[]) (fun i=>i≤fs.length∧R=gK (pm fs i) ((fs.map Fld.name).drop i)) (fun i=>fs.length - i) (0) ?_;intro e0 σ0 n0 h0;simp(maxSteps:=9^7) (disch:=first|exact dI|fail) only[push_cast,seval] at h0;obtain⟨rfl,rfl,rfl⟩:=h0;refine⟨?_,?_,?_⟩
  ·simp(maxSteps:=9^7) (disch:=first|exact dI|fail) only[push_cast,seval]
  ·exact⟨by omega,by simpa[pm] using hR⟩
  rintro i ⟨hi,hr⟩
  by_cases hlt:i<fs.length
  ·have hltI:(i:Int)<(fs.length:Int):=by omega
   obtain⟨c,hc⟩:∃ c,fs[i]? = some c:=⟨_,List.getElem?_eq_getElem hlt⟩
   obtain⟨nm,⟨k',n',s',t',l',f'⟩⟩:=c
   have hcp:(fs.map Fld.pv)[i]? = some (.agg [.str nm,.int .i64 k',.int .i64 n',.int .i64 s',.str t',.list (l'.map Val.pv),.list (f'.map Fld.pv)]):=by simp[hc,Fld.pv_mk,Val.pv_mk,aZ]
   have hnm:(fs.map Fld.name)[i]? = some nm:=by simp[hc,Fld.name]
   have hn:=k8 nm
   rw[pB hnm] at hr
   have hnext:pm fs (i+1)=some nm:=by simp[pm,hc,Fld.name]
   cases hb:db nm with
   | false=>
     rw[hb] at hn hr
     rw[if_pos rfl] at hr
     subst hr
     simp(maxSteps:=9^7) (disch:=first|exact dI|fail) only[hcp,push_cast,seval]
     refine ab.pure hn rfl ?_
     simp(maxSteps:=9^7) (disch:=first|exact dI|fail) only[push_cast,seval]
   | true=>
     rw[hb] at hn hr
     rw[if_neg (by simp)] at hr
     by_cases hi0:i=0
     ·have hiI:¬ (0:Int)<(i:Int):=by omega
      have hpn:pm fs i=none:=if_pos hi0
      rw[hpn,if_neg (by simp),if_neg (by simp),← hnext] at hr
      simp(maxSteps:=9^7) (disch:=first|exact dI|fail) only[hcp,push_cast,seval]
      refine ab.pure hn rfl ?_
      simp(maxSteps:=9^7) (disch:=first|exact dI|fail) only[push_cast,seval]
      exact⟨i+1,bM (by simp(maxSteps:=9^7) (disch:=first|exact dI|fail) only[push_cast,seval]),⟨by omega,by rw[List.map_drop];exact hr⟩,by omega⟩
     ·obtain⟨j,rfl⟩:∃ j,i=j+1:=⟨i - 1,by omega⟩
      obtain⟨c,hc'⟩:∃ c,fs[j]? = some c:=⟨_,List.getElem?_eq_getElem (by omega)⟩
      have hpn:pm fs (j+1)=some c.name:=by simp[pm,hc']
      obtain⟨q,⟨k2,n2,s2,t2,l2,f2⟩⟩:=c
      have hcq:(fs.map Fld.pv)[j]? = some (.agg [.str q,.int .i64 k2,.int .i64 n2,.int .i64 s2,.str t2,.list (l2.map Val.pv),.list (f2.map Fld.pv)]):=by simp[hc',Fld.pv_mk,Val.pv_mk,aZ]
      simp only[Fld.name] at hpn
      rw[hpn] at hr
      by_cases hq:nm=q
      ·subst hq
       rw[if_pos rfl] at hr
       subst hr
       simp(maxSteps:=9^7) (disch:=first|exact dI|fail) only[hcp,Int.add_sub_cancel,push_cast,seval]
       refine ab.pure hn rfl ?_
       simp(maxSteps:=9^7) (disch:=first|exact dI|fail) only[hcq,Int.add_sub_cancel,push_cast,seval]
      ·rw[if_neg (by simpa using fun e=>hq e.symm)] at hr
       cases hlt2:ct nm q with
       | true=>
         rw[if_pos (by simpa using hlt2)] at hr
         subst hr
         simp(maxSteps:=9^7) (disch:=first|exact dI|fail) only[hcp,Int.add_sub_cancel,push_cast,seval]
         refine ab.pure hn rfl ?_
         simp(maxSteps:=9^7) (disch:=first|exact dI|fail) only[hcq,Int.add_sub_cancel,hq,hlt2,push_cast,seval]
       | false=>
         rw[if_neg (by simp[hlt2]),← hnext] at hr
         simp(maxSteps:=9^7) (disch:=first|exact dI|fail) only[hcp,Int.add_sub_cancel,push_cast,seval]
         refine ab.pure hn rfl ?_
         simp(maxSteps:=9^7) (disch:=first|exact dI|fail) only[hcq,Int.add_sub_cancel,hq,hlt2,push_cast,seval]
         exact⟨j+1+1,bM (by simp(maxSteps:=9^7) (disch:=first|exact dI|fail) only[push_cast,seval]),⟨by omega,by rw[List.map_drop];exact hr⟩,by omega⟩
  ·have hie:i=fs.length:=by omega
   subst hie
   rw[List.drop_of_length_le (by simp)] at hr
   rw[show R=0 from hr]
   simp(maxSteps:=9^7) (disch:=first|exact dI|fail) only[push_cast,seval]
theorem HO (v:Val)(hk:v.kind=10):aw Tryz.prog aF 83 [v.pv] (.int .i64 (ca v)):=by
 obtain⟨k,n,s,t,l,fs⟩:=v
 simp only[Val.kind] at hk;subst hk
 rw[show ca (.mk 10 n s t l fs)=(if db t=false then 12 else if l.length=0 then 4 else fH l.length 1 3) from rfl]
 have h:=iJ l.length 1 3
 have hn:=k8 t
 change aw _ _ _ _ (.int .i64 (fH l.length 1 3)) at h
 generalize fH l.length 1 3=e at *
 refine aw.intro NI (by simp[F83]) ?_
 cases hb:db t with
 | false=>
   rw[hb] at hn
   rw[if_pos rfl]
   simp(maxSteps:=9^7) (disch:=first|exact dI|fail) only[F83,Val.pv_mk,push_cast,seval]
   refine ab.pure hn rfl ?_
   simp(maxSteps:=9^7) (disch:=first|exact dI|fail) only[push_cast,seval]
 | true=>
   rw[hb] at hn
   rw[if_neg (by simp)]
   by_cases hl:l.length=0
   ·have hlI:(l.length:Int)=0:=by omega
    rw[if_pos hl]
    simp(maxSteps:=9^7) (disch:=first|exact dI|fail) only[F83,Val.pv_mk,push_cast,seval]
    refine ab.pure hn rfl ?_
    simp(maxSteps:=9^7) (disch:=first|exact dI|fail) only[push_cast,seval]
   ·have hlI:¬ (l.length:Int)=0:=by omega
    rw[if_neg hl]
    simp(maxSteps:=9^7) (disch:=first|exact dI|fail) only[F83,Val.pv_mk,push_cast,seval]
    refine ab.pure hn rfl ?_
    simp(maxSteps:=9^7) (disch:=first|exact dI|fail) only[push_cast,seval]
    refine ab.pure h rfl ?_
    simp(maxSteps:=9^7) (disch:=first|exact dI|fail) only[push_cast,seval]
end Go.Proofs.YtamoeblcphjbaaaGreatDoor
