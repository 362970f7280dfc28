/- A part of the proof. -/
import Derived.Test.YtamoeblcphjbaaaGreatDoorPaLR3
set_option maxHeartbeats 16000000
set_option maxRecDepth 100000
set_option linter.unusedVariables false
set_option linter.unusedSimpArgs false
-- many steps
namespace Go.Proofs.YtamoeblcphjbaaaGreatDoor
open Go Go.Ab
attribute [local irreducible] vc
def i8 (n a b:Int):Int:=if n<a∨b<n then 2 else 0
def jp (n m e:Int):Int:=if m<n then e else 0
def jb:Option (List UInt8)→List (List UInt8)→Int
 | _,[]=>0
 | p,s::r=>if bC s=false then 12 else if p=some s then 7 else if (p.any fun q=>bx s q)=true then 24 else jb (some s) r
def cY:Val→Int
 | .mk k n s t l fs=>
   if k=1 then i8 n 0 1
   else if k=2 then i8 n (-999999999999999) 999999999999999
   else if k=3 then (if i8 n (-999999999999999) 999999999999999=0 then i8 s 0 12 else i8 n (-999999999999999) 999999999999999)
   else if k=4 then (if jp t.length 1024 5=0 then (if Lib.validD t=true then 0 else 16) else jp t.length 1024 5)
   else if k=5 then jp t.length 1024 5
   else if k=6 then i8 n (-719162) 2932896
   else if k=7 then i8 n (-62135596800000) 253402300799999
   else if k=8 then jp l.length 256 9
   else if k=9 then (if jp fs.length 64 9=0 then jb none (fs.map Fld.name) else jp fs.length 64 9)
   else if k=10 then (if bC t=false then 12 else if l.length=0 then 4 else jp l.length 1 3)
   else 0
theorem IG (v:Val)(hk:v.kind=1):au Tryz.prog aM 69 [v.pv] (.int .i64 (cY v)):=by
 obtain⟨k,n,s,t,l,fs⟩:=v
 simp only[Val.kind] at hk;subst hk
 rw[show cY (.mk 1 n s t l fs)=i8 n 0 1 from rfl]
 have h:=dr n 0 1
 change au _ _ _ _ (.int .i64 (i8 n 0 1)) at h
 generalize i8 n 0 1=e at *
 refine au.intro PA (by simp[F69]) ?_
 simp(disch:=try exact dI) only[F69,Val.pv_mk,push_cast,seval]
 refine ab.pure h rfl ?_
 exact qsZ
theorem IF (v:Val)(hk:v.kind=2):au Tryz.prog aM 71 [v.pv] (.int .i64 (cY v)):=by
 obtain⟨k,n,s,t,l,fs⟩:=v
 simp only[Val.kind] at hk;subst hk
 rw[show cY (.mk 2 n s t l fs)=i8 n (-999999999999999) 999999999999999 from rfl]
 have h:=dr n (-999999999999999) 999999999999999
 change au _ _ _ _ (.int .i64 (i8 n (-999999999999999) 999999999999999)) at h
 generalize i8 n (-999999999999999) 999999999999999=e at *
 refine au.intro Py (by simp[F71]) ?_
 simp(disch:=try exact dI) only[F71,Val.pv_mk,push_cast,seval]
 refine ab.pure h rfl ?_
 exact qsZ
def gY:List Int→Int
 | []=>0
 | a::r=>if a=0 then gY r else a
theorem pF:∀ {L:List Int} {i:Nat} {x:Int},L[i]? = some x→x≠0→(∀ j,j<i→∀ y,L[j]? = some y→y=0)→gY L=x
 | [],i,x,h,_,_=>by simp at h
 | a::r,0,x,h,hx,_=>by simp at h;subst h;exact if_neg hx
 | a::r,i+1,x,h,hx,h0=>by
   have ha:=h0 0 (by omega) a rfl
   subst ha
   rw[gY,if_pos rfl]
   exact pF (by simpa using h) hx fun j hj y hy=>h0 (j+1) (by omega) y (by simpa using hy)
theorem kO:∀ {L:List Int},(∀ (j:Nat) y,L[j]? = some y→y=0)→gY L=0
 | [],_=>rfl
 | a::r,h=>by
   rw[gY,if_pos (h 0 a rfl)]
   exact kO fun j y hy=>h (j+1) y (by simpa using hy)
theorem BI (L:List Int)(hL:L.length≤1000):au Tryz.prog aM 73 [.list (L.map fun n=>.int .i64 n)] (.int .i64 (gY L)):=by
 generalize hr:gY L=e
 refine au.intro Pw (by simp[F73]) ?_
 simp(disch:=try exact dI) only[F73,push_cast,seval]
 refine bf ([]) (fun i:Nat=>[(7,.pv (.int .i64 (i:Int)))]) (fun _=>[]) (fun i=>i≤L.length∧(∀ j,j<i→∀ y,L[j]? = some y→y=0)) (fun i=>L.length - i) (0) ?_;intro e0 σ0 n0 h0;simp(disch:=try exact dI) only[push_cast,seval] at h0;obtain⟨rfl,rfl,rfl⟩:=h0;refine⟨?_,?_,?_⟩
 ·exact qsZ
 ·exact⟨by omega,by omega⟩
 rintro i ⟨hi,h0⟩
 by_cases hlt:i<L.length
 ·have hltI:(i:Int)<(L.length:Int):=by omega
  obtain⟨x,hx⟩:∃ x,L[i]? = some x:=⟨_,List.getElem?_eq_getElem hlt⟩
  have hcp:(L.map fun n=>PV.int .i64 n)[i]? = some (.int .i64 x):=by simp[hx]
  by_cases hx0:x=0
  ·subst hx0
   simp(disch:=try exact dI) only[hcp,push_cast,seval]
   exact⟨i+1,bz qsZ,⟨by omega,fun j hj y hy=>by
    rcases Nat.lt_or_ge j i with h | h
    ·exact h0 j h y hy
    ·have:j=i:=by omega
     subst this
     rw[hx] at hy;exact (Option.some.inj hy).symm⟩,by omega⟩
  ·have:=pF hx hx0 h0
   rw[this] at hr
   subst hr
   simp(disch:=try exact dI) only[hcp,push_cast,seval]
 ·have:=kO (L:=L) fun j y hy=>h0 j (by have:=(List.getElem?_eq_some_iff.1 hy).1;omega) y hy
  rw[this] at hr
  subst hr
  exact qsZ
theorem FS (a b:Int):au Tryz.prog aM 73 [.list [.int .i64 a,.int .i64 b]] (.int .i64 (if a=0 then b else a)):=by
 have:=BI [a,b] (by simp)
 have e:gY [a,b]=if a=0 then b else a:=by
  simp only[gY]
  by_cases hb:b=0
  ·subst hb;simp
  ·simp[hb]
 rw[e] at this
 exact this
theorem IE (v:Val)(hk:v.kind=3):au Tryz.prog aM 72 [v.pv] (.int .i64 (cY v)):=by
 obtain⟨k,n,s,t,l,fs⟩:=v
 simp only[Val.kind] at hk;subst hk
 rw[show cY (.mk 3 n s t l fs)=(if i8 n (-999999999999999) 999999999999999=0 then i8 s 0 12 else i8 n (-999999999999999) 999999999999999) from rfl]
 have h:=dr n (-999999999999999) 999999999999999
 have h':=dr s 0 12
 change au _ _ _ _ (.int .i64 (i8 n (-999999999999999) 999999999999999)) at h
 change au _ _ _ _ (.int .i64 (i8 s 0 12)) at h'
 generalize i8 n (-999999999999999) 999999999999999=e at *
 generalize i8 s 0 12=e' at *
 have h2:=FS e e'
 generalize (if e=0 then e' else e)=e2 at *
 refine au.intro Px (by simp[F72]) ?_
 simp(disch:=try exact dI) only[F72,Val.pv_mk,push_cast,seval]
 refine ag h rfl ?_
 refine zgZ ?_
 refine ab.pure h' rfl ?_
 refine zgZ ?_
 refine ab.pure h2 rfl ?_
 exact qsZ
theorem IC (v:Val)(hk:v.kind=5):au Tryz.prog aM 77 [v.pv] (.int .i64 (cY v)):=by
 obtain⟨k,n,s,t,l,fs⟩:=v
 simp only[Val.kind] at hk;subst hk
 rw[show cY (.mk 5 n s t l fs)=jp t.length 1024 5 from rfl]
 have h:=j1 t.length 1024 5
 change au _ _ _ _ (.int .i64 (jp t.length 1024 5)) at h
 generalize jp t.length 1024 5=e at *
 refine au.intro Pt (by simp[F77]) ?_
 simp(disch:=try exact dI) only[F77,Val.pv_mk,push_cast,seval]
 refine ab.pure h rfl ?_
 exact qsZ
theorem IB (v:Val)(hk:v.kind=6):au Tryz.prog aM 78 [v.pv] (.int .i64 (cY v)):=by
 obtain⟨k,n,s,t,l,fs⟩:=v
 simp only[Val.kind] at hk;subst hk
 rw[show cY (.mk 6 n s t l fs)=i8 n (-719162) 2932896 from rfl]
 have h:=dr n (-719162) 2932896
 change au _ _ _ _ (.int .i64 (i8 n (-719162) 2932896)) at h
 generalize i8 n (-719162) 2932896=e at *
 refine au.intro Ps (by simp[F78]) ?_
 simp(disch:=try exact dI) only[F78,Val.pv_mk,push_cast,seval]
 refine ab.pure h rfl ?_
 exact qsZ
theorem IA (v:Val)(hk:v.kind=7):au Tryz.prog aM 79 [v.pv] (.int .i64 (cY v)):=by
 obtain⟨k,n,s,t,l,fs⟩:=v
 simp only[Val.kind] at hk;subst hk
 rw[show cY (.mk 7 n s t l fs)=i8 n (-62135596800000) 253402300799999 from rfl]
 have h:=dr n (-62135596800000) 253402300799999
 change au _ _ _ _ (.int .i64 (i8 n (-62135596800000) 253402300799999)) at h
 generalize i8 n (-62135596800000) 253402300799999=e at *
 refine au.intro Pr (by simp[F79]) ?_
 simp(disch:=try exact dI) only[F79,Val.pv_mk,push_cast,seval]
 refine ab.pure h rfl ?_
 exact qsZ
theorem Iz (v:Val)(hk:v.kind=8):au Tryz.prog aM 80 [v.pv] (.int .i64 (cY v)):=by
 obtain⟨k,n,s,t,l,fs⟩:=v
 simp only[Val.kind] at hk;subst hk
 rw[show cY (.mk 8 n s t l fs)=jp l.length 256 9 from rfl]
 have h:=j1 l.length 256 9
 change au _ _ _ _ (.int .i64 (jp l.length 256 9)) at h
 generalize jp l.length 256 9=e at *
 refine au.intro Pq (by simp[F80]) ?_
 simp(disch:=try exact dI) only[F80,Val.pv_mk,push_cast,seval]
 refine ab.pure h rfl ?_
 exact qsZ
theorem ID (v:Val)(hk:v.kind=4):au Tryz.prog aM 74 [v.pv] (.int .i64 (cY v)):=by
 obtain⟨k,n,s,t,l,fs⟩:=v
 simp only[Val.kind] at hk;subst hk
 rw[show cY (.mk 4 n s t l fs)=(if jp t.length 1024 5=0 then (if Lib.validD t=true then 0 else 16) else jp t.length 1024 5) from rfl]
 have h:=j1 t.length 1024 5
 have hv:=fS t
 change au _ _ _ _ (.int .i64 (jp t.length 1024 5)) at h
 generalize jp t.length 1024 5=e at *
 refine au.intro Pv (by simp[F74]) ?_
 by_cases he:e=0
 ·subst he
  rw[if_pos rfl]
  cases hb:Lib.validD t with
  | true=>
    rw[hb] at hv
    rw[if_pos rfl]
    simp(disch:=try exact dI) only[F74,Val.pv_mk,push_cast,seval]
    refine ab.pure h rfl ?_
    refine zgZ ?_
    refine ab.pure hv rfl ?_
    exact qsZ
  | false=>
    rw[hb] at hv
    rw[if_neg (by simp)]
    simp(disch:=try exact dI) only[F74,Val.pv_mk,push_cast,seval]
    refine ab.pure h rfl ?_
    refine zgZ ?_
    refine ab.pure hv rfl ?_
    exact qsZ
 ·rw[if_neg he]
  simp(disch:=try exact dI) only[F74,Val.pv_mk,push_cast,seval]
  refine ab.pure h rfl ?_
  exact qsZ
theorem ry {fs:List (List UInt8)}{i:Nat}{s:List UInt8}(h:fs[i]? = some s)(p:Option (List UInt8)):jb p (fs.drop i)=if bC s=false then 12 else if p=some s then 7 else if (p.any fun q=>bx s q)=true then 24 else jb (some s) (fs.drop (i+1)):=by
 have hi:i<fs.length:=(List.getElem?_eq_some_iff.1 h).1
 have he:fs[i]=s:=(List.getElem?_eq_some_iff.1 h).2
 rw[List.drop_eq_getElem_cons hi,he,jb]
def q9 (fs:List Fld)(i:Nat):Option (List UInt8):=if i=0 then none else (fs[i - 1]?).map Fld.name
theorem Iy (v:Val)(hk:v.kind=9):au Tryz.prog aM 81 [v.pv] (.int .i64 (cY v)):=by
 obtain⟨k,n,s,t,l,fs⟩:=v
 simp only[Val.kind] at hk;subst hk
 rw[show cY (.mk 9 n s t l fs)=(if jp fs.length 64 9=0 then jb none (fs.map Fld.name) else jp fs.length 64 9) from rfl]
 have h:=j1 fs.length 64 9
 change au _ _ _ _ (.int .i64 (jp fs.length 64 9)) at h
 by_cases h64:(64:Int)<fs.length
 ·have e:jp fs.length 64 9=9:=if_pos h64
  rw[e] at h ⊢
  rw[if_neg (by omega)]
  refine au.intro HE (by simp[F81]) ?_
  simp(disch:=try exact dI) only[F81,Val.pv_mk,push_cast,seval]
  refine ab.pure h rfl ?_
  exact qsZ
 ·have e:jp fs.length 64 9=0:=if_neg h64
  rw[e] at h ⊢
  rw[if_pos rfl]
  have hfl:fs.length≤64:=by omega
  obtain⟨R,hR⟩:∃ R,R=jb none (fs.map Fld.name):=⟨_,rfl⟩
  rw[← hR]
  refine au.intro HE (by simp[F81]) ?_
  simp(disch:=try exact dI) only[F81,Val.pv_mk,push_cast,seval]
  refine ab.pure h rfl ?_
  refine zgZ ?_
  refine bf ([]) (fun i:Nat=>[(16,.pv (.int .i64 (i:Int)))]) (fun _=>[]) (fun i=>i≤fs.length∧R=jb (q9 fs i) ((fs.map Fld.name).drop i)) (fun i=>fs.length - i) (0) ?_;intro e0 σ0 n0 h0;simp(disch:=try exact dI) only[push_cast,seval] at h0;obtain⟨rfl,rfl,rfl⟩:=h0;refine⟨?_,?_,?_⟩
  ·exact qsZ
  ·exact⟨by omega,by simpa[q9] using hR⟩
  rintro i ⟨hi,hr⟩
  by_cases hlt:i<fs.length
  ·have hltI:(i:Int)<(fs.length:Int):=by omega
   obtain⟨c,hc⟩:∃ c,fs[i]? = some c:=⟨_,List.getElem?_eq_getElem hlt⟩
   obtain⟨nm,⟨k',n',s',t',l',f'⟩⟩:=c
   have hcp:(fs.map Fld.pv)[i]? = some (.agg [.str nm,.int .i64 k',.int .i64 n',.int .i64 s',.str t',.list (l'.map Val.pv),.list (f'.map Fld.pv)]):=by simp[hc,Fld.pv_mk,Val.pv_mk,cS]
   have hnm:(fs.map Fld.name)[i]? = some nm:=by simp[hc,Fld.name]
   have hn:=m7 nm
   rw[ry hnm] at hr
   have hnext:q9 fs (i+1)=some nm:=by simp[q9,hc,Fld.name]
   cases hb:bC nm with
   | false=>
     rw[hb] at hn hr
     rw[if_pos rfl] at hr
     subst hr
     simp(disch:=try exact dI) only[hcp,push_cast,seval]
     refine ab.pure hn rfl ?_
     exact qsZ
   | true=>
     rw[hb] at hn hr
     rw[if_neg (by simp)] at hr
     by_cases hi0:i=0
     ·have hiI:¬ (0:Int)<(i:Int):=by omega
      have hpn:q9 fs i=none:=if_pos hi0
      rw[hpn,if_neg (by simp),if_neg (by simp),← hnext] at hr
      simp(disch:=try exact dI) only[hcp,push_cast,seval]
      refine ab.pure hn rfl ?_
      refine zgZ ?_
      exact⟨i+1,bz qsZ,⟨by omega,by rw[List.map_drop];exact hr⟩,by omega⟩
     ·obtain⟨j,rfl⟩:∃ j,i=j+1:=⟨i - 1,by omega⟩
      obtain⟨c,hc'⟩:∃ c,fs[j]? = some c:=⟨_,List.getElem?_eq_getElem (by omega)⟩
      have hpn:q9 fs (j+1)=some c.name:=by simp[q9,hc']
      obtain⟨q,⟨k2,n2,s2,t2,l2,f2⟩⟩:=c
      have hcq:(fs.map Fld.pv)[j]? = some (.agg [.str q,.int .i64 k2,.int .i64 n2,.int .i64 s2,.str t2,.list (l2.map Val.pv),.list (f2.map Fld.pv)]):=by simp[hc',Fld.pv_mk,Val.pv_mk,cS]
      simp only[Fld.name] at hpn
      rw[hpn] at hr
      by_cases hq:nm=q
      ·subst hq
       rw[if_pos rfl] at hr
       subst hr
       simp(disch:=try exact dI) only[hcp,Int.add_sub_cancel,push_cast,seval]
       refine ab.pure hn rfl ?_
       simp(disch:=try exact dI) only[hcq,Int.add_sub_cancel,push_cast,seval]
      ·rw[if_neg (by simpa using fun e=>hq e.symm)] at hr
       cases hlt2:bx nm q with
       | true=>
         rw[if_pos (by simpa using hlt2)] at hr
         subst hr
         simp(disch:=try exact dI) only[hcp,Int.add_sub_cancel,push_cast,seval]
         refine ab.pure hn rfl ?_
         simp(disch:=try exact dI) only[hcq,Int.add_sub_cancel,hq,hlt2,push_cast,seval]
       | false=>
         rw[if_neg (by simp[hlt2]),← hnext] at hr
         simp(disch:=try exact dI) only[hcp,Int.add_sub_cancel,push_cast,seval]
         refine ab.pure hn rfl ?_
         simp(disch:=try exact dI) only[hcq,Int.add_sub_cancel,hq,hlt2,push_cast,seval]
         exact⟨j+1+1,bz qsZ,⟨by omega,by rw[List.map_drop];exact hr⟩,by omega⟩
  ·have hie:i=fs.length:=by omega
   subst hie
   rw[List.drop_of_length_le (by simp)] at hr
   rw[show R=0 from hr]
   exact qsZ
theorem Ix (v:Val)(hk:v.kind=10):au Tryz.prog aM 83 [v.pv] (.int .i64 (cY v)):=by
 obtain⟨k,n,s,t,l,fs⟩:=v
 simp only[Val.kind] at hk;subst hk
 rw[show cY (.mk 10 n s t l fs)=(if bC t=false then 12 else if l.length=0 then 4 else jp l.length 1 3) from rfl]
 have h:=j1 l.length 1 3
 have hn:=m7 t
 change au _ _ _ _ (.int .i64 (jp l.length 1 3)) at h
 generalize jp l.length 1 3=e at *
 refine au.intro Po (by simp[F83]) ?_
 cases hb:bC t with
 | false=>
   rw[hb] at hn
   rw[if_pos rfl]
   simp(disch:=try exact dI) only[F83,Val.pv_mk,push_cast,seval]
   refine ab.pure hn rfl ?_
   exact qsZ
 | true=>
   rw[hb] at hn
   rw[if_neg (by simp)]
   by_cases hl:l.length=0
   ·have hlI:(l.length:Int)=0:=by omega
    rw[if_pos hl]
    simp(disch:=try exact dI) only[F83,Val.pv_mk,push_cast,seval]
    refine ab.pure hn rfl ?_
    exact qsZ
   ·have hlI:¬ (l.length:Int)=0:=by omega
    rw[if_neg hl]
    simp(disch:=try exact dI) only[F83,Val.pv_mk,push_cast,seval]
    refine ab.pure hn rfl ?_
    refine zgZ ?_
    refine ab.pure h rfl ?_
    exact qsZ
end Go.Proofs.YtamoeblcphjbaaaGreatDoor
-- many steps
namespace Go.Proofs.YtamoeblcphjbaaaGreatDoor
open Go Go.Ab
attribute [local irreducible] vc
def ci (i:Nat)(q:Int×Val):Int:=
 if 4096≤i then 9 else if 8<q.1 then 23 else if dh q.2=true then 19 else if q.2.kind<1∨10<q.2.kind then 11 else if aE q.2=false then 3 else cY q.2
section
variable {i:Nat}{q:Int×Val}
theorem H7 (c1:¬ 4096≤i)(c2:8<q.1):ci i q=23:=by unfold ci;rw[if_neg c1,if_pos c2]
theorem H6 (c1:¬ 4096≤i)(c2:¬ 8<q.1)(c3:dh q.2=true):ci i q=19:=by unfold ci;rw[if_neg c1,if_neg c2,if_pos c3]
theorem H5 (c1:¬ 4096≤i)(c2:¬ 8<q.1)(c3:dh q.2=false)(c4:q.2.kind<1∨10<q.2.kind):ci i q=11:=by unfold ci;rw[if_neg c1,if_neg c2,if_neg (by rw[c3];simp),if_pos c4]
theorem H4 (c1:¬ 4096≤i)(c2:¬ 8<q.1)(c3:dh q.2=false)(c4:¬ (q.2.kind<1∨10<q.2.kind))(c5:aE q.2=false):ci i q=3:=by unfold ci;rw[if_neg c1,if_neg c2,if_neg (by rw[c3];simp),if_neg c4,if_pos c5]
theorem H3 (c1:¬ 4096≤i)(c2:¬ 8<q.1)(c3:dh q.2=false)(c4:¬ (q.2.kind<1∨10<q.2.kind))(c5:aE q.2=true):ci i q=cY q.2:=by unfold ci;rw[if_neg c1,if_neg c2,if_neg (by rw[c3];simp),if_neg c4,if_neg (by rw[c5];simp)]
end
def Dh:Nat→List (Int×Val)→Int
 | _,[]=>0
 | i,q::r=>if ci i q=0 then Dh (i+1) r else ci i q
def Iw (k:Int):Nat:=if k=1 then 69 else if k=2 then 71 else if k=3 then 72 else if k=4 then 74 else if k=5 then 77 else if k=6 then 78 else if k=7 then 79 else if k=8 then 80 else if k=9 then 81 else 83
theorem Iv (v:Val)(h:1≤v.kind∧v.kind≤10):au Tryz.prog aM (Iw v.kind) [v.pv] (.int .i64 (cY v)):=by
 have hc:v.kind=1∨v.kind=2∨v.kind=3∨v.kind=4∨v.kind=5∨v.kind=6∨v.kind=7∨v.kind=8∨v.kind=9∨v.kind=10:=by omega
 rcases hc with h | h | h | h | h | h | h | h | h | h<;>rw[h]
 ·exact IG v h
 ·exact IF v h
 ·exact IE v h
 ·exact ID v h
 ·exact IC v h
 ·exact IB v h
 ·exact IA v h
 ·exact Iz v h
 ·exact Iy v h
 ·exact Ix v h
theorem ka {n sz r o:Nat}{k:IntKind}{i:Int}(h0:0≤i)(h1:i.toNat<n):iD n sz (.ptr r o) (.pv (.int k i))=some (.ptr r (o+i.toNat*sz)):=if_pos ⟨h0,h1⟩
theorem HW (x:Val)(h:1≤x.kind∧x.kind≤10):au Tryz.prog aM 40 [x.pv] (.bool (aE x)):=HV x h
theorem Km {xs:List (Int×Val)}{i:Nat}{q:Int×Val}(h:xs[i]? = some q):Dh i (xs.drop i)=if ci i q=0 then Dh (i+1) (xs.drop (i+1)) else ci i q:=by
 have hi:i<xs.length:=(List.getElem?_eq_some_iff.1 h).1
 have he:xs[i]=q:=(List.getElem?_eq_some_iff.1 h).2
 rw[List.drop_eq_getElem_cons hi,he,Dh]
theorem nG (n:Nat)(v:Val)(hd:r5 n v)(hv:v.ok):au Tryz.prog aM 15 [v.pv] (.int .i64 (Dh 0 (jn n 1 v))):=by
 have hseq:=oQ n v hd hv
 have h243:=rc v
 have h242:=D8
 generalize hxs:jn n 1 v=xs at *
 obtain⟨R,hR⟩:∃ R,R=Dh 0 xs:=⟨_,rfl⟩
 rw[← hR]
 obtain⟨k,a,s,t,l,fs⟩:=v
 simp only[Val.pv_mk,yQ] at h243 h242 hseq
 refine au.intro PZ (by simp[F15]) ?_
 simp(disch:=try exact dI) only[F15,Val.pv_mk,push_cast,seval]
 refine ab.pure h242 rfl ?_
 simp(disch:=try exact dI) only[Ak,tD,push_cast,seval]
 refine ab.pure h243 rfl ?_
 refine zgZ ?_
 refine Mt ([]) (fun i:Nat=>[]) (fun i:Nat=>[(2,.cells 3 true [.pv (.int .i64 (i:Int))])]) (fun j i=>j=i∧i≤4096∧R=Dh i (xs.drop i)) (0) (hseq) ?_;intro e0 σ0 n0 h0;simp(disch:=try exact dI) only[push_cast,seval] at h0;obtain⟨rfl,rfl,rfl⟩:=h0;refine⟨?_,?_,?_,?_,?_⟩
 ·exact qsZ
 ·exact⟨rfl,by omega,by simpa using hR⟩
 ·rfl
 ·rintro j i y hy ⟨hij,hj4,hr⟩
  subst hij
  obtain⟨q,hq⟩:∃ q,xs[j]? = some q:=by
   cases h:xs[j]? with
   | none=>simp[h] at hy
   | some q=>exact⟨q,rfl⟩
  have hye:y=De q:=by simpa[hq] using hy.symm
  subst hye
  rw[Km hq] at hr
  have hjl:j<xs.length:=(List.getElem?_eq_some_iff.1 hq).1
  obtain⟨lv,x⟩:=q
  have h111:=rr x
  have hrule:=Iv x
  have huse:=HW x
  obtain⟨k',n',s',t',l',f'⟩:=x
  simp only[Val.pv_mk,Val.kind] at h111 hrule huse
  refine⟨rfl,?_⟩
  simp only[De,Val.pv_mk]
  clear hy h242 h243 hseq
  by_cases c1:4096≤j
  ·have e:ci j (lv,Val.mk k' n' s' t' l' f')=9:=if_pos c1
   rw[e,if_neg (by omega)] at hr
   subst hr
   exact qsZ
  ·have hj1:¬ (4096:Int)<(j:Int)+1:=by omega
   by_cases c2:8<lv
   ·have e:ci j (lv,Val.mk k' n' s' t' l' f')=23:=H7 c1 c2
    rw[e,if_neg (by omega)] at hr
    subst hr
    exact qsZ
   ·cases c3:dh (Val.mk k' n' s' t' l' f') with
    | true=>
      have e:ci j (lv,Val.mk k' n' s' t' l' f')=19:=H6 c1 c2 c3
      rw[e,if_neg (by omega)] at hr
      subst hr
      rw[c3] at h111
      refine zgZ ?_
      refine ab.pure h111 rfl ?_
      exact qsZ
    | false=>
      rw[c3] at h111
      by_cases c4:k'<1∨10<k'
      ·have e:ci j (lv,Val.mk k' n' s' t' l' f')=11:=H5 c1 c2 c3 c4
       rw[e,if_neg (by omega)] at hr
       subst hr
       rcases c4 with c4 | c4
       ·refine zgZ ?_
        refine ab.pure h111 rfl ?_
        exact qsZ
       ·refine zgZ ?_
        refine ab.pure h111 rfl ?_
        exact qsZ
      ·have huse:=huse (by omega)
       have hrule:=hrule (by omega)
       cases c5:aE (Val.mk k' n' s' t' l' f') with
       | false=>
         have e:ci j (lv,Val.mk k' n' s' t' l' f')=3:=H4 c1 c2 c3 c4 c5
         rw[e,if_neg (by omega)] at hr
         subst hr
         rw[c5] at huse
         refine zgZ ?_
         refine ab.pure h111 rfl ?_
         refine zgZ ?_
         refine ab.pure huse rfl ?_
         exact qsZ
       | true=>
         have e:ci j (lv,Val.mk k' n' s' t' l' f')=cY (Val.mk k' n' s' t' l' f'):=H3 c1 c2 c3 c4 c5
         rw[e] at hr
         rw[c5] at huse
         generalize cY (Val.mk k' n' s' t' l' f')=z at hr hrule
         have hkc:([AV.pv PV.nilf,AV.pv (PV.clo 69 [] []),AV.pv (PV.clo 71 [] []),AV.pv (PV.clo 72 [] []),AV.pv (PV.clo 74 [] []),AV.pv (PV.clo 77 [] []),AV.pv (PV.clo 78 [] []),AV.pv (PV.clo 79 [] []),AV.pv (PV.clo 80 [] []),AV.pv (PV.clo 81 [] []),AV.pv (PV.clo 83 [] [])]:List AV)[k'.toNat*1]? = some (.pv (.clo (Iw k') [] [])):=by
          have hc:k'=1∨k'=2∨k'=3∨k'=4∨k'=5∨k'=6∨k'=7∨k'=8∨k'=9∨k'=10:=by omega
          rcases hc with h | h | h | h | h | h | h | h | h | h<;>rw[h]<;>rfl
         generalize Iw k'=rf at hkc hrule
         by_cases hz:z=0
         ·rw[if_pos hz] at hr
          subst hz
          refine zgZ ?_
          refine ab.pure h111 rfl ?_
          refine zgZ ?_
          refine ab.pure huse rfl ?_
          simp(disch:=try exact dI) only[ka,hkc,push_cast,seval]
          refine ab.pure hrule rfl ?_
          refine zgZ ?_
          exact⟨j+1,bz qsZ,rfl,by omega,hr⟩
         ·rw[if_neg hz] at hr
          subst hr
          refine zgZ ?_
          refine ab.pure h111 rfl ?_
          refine zgZ ?_
          refine ab.pure huse rfl ?_
          simp(disch:=try exact dI) only[ka,hkc,push_cast,seval]
          refine ab.pure hrule rfl ?_
          exact qsZ
 ·rintro j ⟨hj,hj4,hr⟩
  simp only[List.length_map] at hj
  subst hj
  rw[List.drop_length] at hr
  rw[show R=0 from hr]
  exact qsZ
end Go.Proofs.YtamoeblcphjbaaaGreatDoor
