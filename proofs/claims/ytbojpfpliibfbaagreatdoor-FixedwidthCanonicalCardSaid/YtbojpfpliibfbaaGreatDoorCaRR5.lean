/- A part of the proof. -/
import Derived.Test.YtbojpfpliibfbaaGreatDoorCaRR3
set_option maxHeartbeats 16000000
set_option maxRecDepth 100000
set_option linter.unusedVariables false
set_option linter.unusedSimpArgs false
namespace Go.Proofs.YtbojpfpliibfbaaGreatDoor
open Go Go.Ab
attribute [local irreducible] vc
def gB (n a b:Int):Int:=if n<a\/b<n then 2 else 0
def gh (n m e:Int):Int:=if m<n then e else 0
def iU:Option (List UInt8)->List (List UInt8)->Int
 | _,[]=>0
 | p,s::r=>if cJ s=false then 12 else if p=some s then 7 else if (p.any fun q=>aR s q)=true then 24 else iU (some s) r
def bG:Val->Int
 | .mk k n s t l fs=>
   if k=1 then gB n 0 1
   else if k=2 then gB n (-999999999999999) 999999999999999
   else if k=3 then (if gB n (-999999999999999) 999999999999999=0 then gB s 0 12 else gB n (-999999999999999) 999999999999999)
   else if k=4 then (if gh t.length 1024 5=0 then (if Lib.validD t=true then 0 else 16) else gh t.length 1024 5)
   else if k=5 then gh t.length 1024 5
   else if k=6 then gB n (-719162) 2932896
   else if k=7 then gB n (-62135596800000) 253402300799999
   else if k=8 then gh l.length 256 9
   else if k=9 then (if gh fs.length 64 9=0 then iU none (fs.map Fld.name) else gh fs.length 64 9)
   else if k=10 then (if cJ t=false then 12 else if l.length=0 then 4 else gh l.length 1 3)
   else 0
theorem Jq (v:Val)(hk:v.kind=1):ag Tryz.prog au 282 [v.pv] (.int .i64 (bG v)):=by
 obtain⟨k,n,s,t,l,fs⟩:=v
 simp only[Val.kind] at hk;subst hk
 rw[show bG (.mk 1 n s t l fs)=gB n 0 1 from rfl]
 have h:=cQ n 0 1
 change ag _ _ _ _ (.int .i64 (gB n 0 1)) at h
 generalize gB n 0 1=e at *
 refine ag.intro Rj.2 (by simp[Rj]) ?_
 simp(disch:=try exact dI) only[Rj,Val.pv_mk,push_cast,seval]
 refine ab.pure h rfl ?_
 exact qsZ
theorem Jp (v:Val)(hk:v.kind=2):ag Tryz.prog au 284 [v.pv] (.int .i64 (bG v)):=by
 obtain⟨k,n,s,t,l,fs⟩:=v
 simp only[Val.kind] at hk;subst hk
 rw[show bG (.mk 2 n s t l fs)=gB n (-999999999999999) 999999999999999 from rfl]
 have h:=cQ n (-999999999999999) 999999999999999
 change ag _ _ _ _ (.int .i64 (gB n (-999999999999999) 999999999999999)) at h
 generalize gB n (-999999999999999) 999999999999999=e at *
 refine ag.intro Ri.2 (by simp[Ri]) ?_
 simp(disch:=try exact dI) only[Ri,Val.pv_mk,push_cast,seval]
 refine ab.pure h rfl ?_
 exact qsZ
def gL:List Int->Int
 | []=>0
 | a::r=>if a=0 then gL r else a
theorem pg:∀ {L:List Int} {i:Nat} {x:Int},L[i]? = some x->x≠0->(∀ j,j<i->∀ y,L[j]? = some y->y=0)->gL L=x
 | [],i,x,h,_,_=>by simp at h
 | a::r,0,x,h,hx,_=>by simp at h;subst h;exact if_neg hx
 | a::r,i+1,x,h,hx,h0=>by
   have ha:=h0 0 (by omega) a rfl
   subst ha
   rw[gL,if_pos rfl]
   exact pg (by simpa using h) hx fun j hj y hy=>h0 (j+1) (by omega) y (by simpa using hy)
theorem kF:∀ {L:List Int},(∀ (j:Nat) y,L[j]? = some y->y=0)->gL L=0
 | [],_=>rfl
 | a::r,h=>by
   rw[gL,if_pos (h 0 a rfl)]
   exact kF fun j y hy=>h (j+1) y (by simpa using hy)
theorem BR (L:List Int)(hL:L.length<=1000):ag Tryz.prog au 286 [.list (L.map fun n=>.int .i64 n)] (.int .i64 (gL L)):=by
 generalize hr:gL L=e
 refine ag.intro Rg.2 (by simp[Rg]) ?_
 simp(disch:=try exact dI) only[Rg,push_cast,seval]
 refine az ([]) (fun i:Nat=>[(7,.pv (.int .i64 (i:Int)))]) (fun _=>[]) (fun i=>i<=L.length/\(∀ j,j<i->∀ y,L[j]? = some y->y=0)) (fun i=>L.length - i) (0) ?_;intro e0 σ0 n0 h0;simp(disch:=try exact dI) only[push_cast,seval] at h0;obtain⟨rfl,rfl,rfl⟩:=h0;refine⟨?_,?_,?_⟩
 ·exact qsZ
 ·exact⟨by omega,by omega⟩
 rintro i ⟨hi,h0⟩
 by_cases hlt:i<L.length
 ·have hltI:(i:Int)<(L.length:Int):=by omega
  obtain⟨x,hx⟩:∃ x,L[i]? = some x:=⟨_,List.getElem?_eq_getElem hlt⟩
  have hcp:(L.map fun n=>PV.int .i64 n)[i]? = some (.int .i64 x):=by simp[hx]
  by_cases hx0:x=0
  ·subst hx0
   simp(disch:=try exact dI) only[hcp,push_cast,seval]
   exact⟨i+1,aZ qsZ,⟨by omega,fun j hj y hy=>by
    rcases Nat.lt_or_ge j i with h | h
    ·exact h0 j h y hy
    ·have:j=i:=by omega
     subst this
     rw[hx] at hy;exact (Option.some.inj hy).symm⟩,by omega⟩
  ·have:=pg hx hx0 h0
   rw[this] at hr
   subst hr
   simp(disch:=try exact dI) only[hcp,push_cast,seval]
 ·have:=kF (L:=L) fun j y hy=>h0 j (by have:=(List.getElem?_eq_some_iff.1 hy).1;omega) y hy
  rw[this] at hr
  subst hr
  exact qsZ
theorem Gp (a b:Int):ag Tryz.prog au 286 [.list [.int .i64 a,.int .i64 b]] (.int .i64 (if a=0 then b else a)):=by
 have:=BR [a,b] (by simp)
 have e:gL [a,b]=if a=0 then b else a:=by
  simp only[gL]
  by_cases hb:b=0
  ·subst hb;simp
  ·simp[hb]
 rw[e] at this
 exact this
theorem Jo (v:Val)(hk:v.kind=3):ag Tryz.prog au 285 [v.pv] (.int .i64 (bG v)):=by
 obtain⟨k,n,s,t,l,fs⟩:=v
 simp only[Val.kind] at hk;subst hk
 rw[show bG (.mk 3 n s t l fs)=(if gB n (-999999999999999) 999999999999999=0 then gB s 0 12 else gB n (-999999999999999) 999999999999999) from rfl]
 have h:=cQ n (-999999999999999) 999999999999999
 have h':=cQ s 0 12
 change ag _ _ _ _ (.int .i64 (gB n (-999999999999999) 999999999999999)) at h
 change ag _ _ _ _ (.int .i64 (gB s 0 12)) at h'
 generalize gB n (-999999999999999) 999999999999999=e at *
 generalize gB s 0 12=e' at *
 have h2:=Gp e e'
 generalize (if e=0 then e' else e)=e2 at *
 refine ag.intro Rh.2 (by simp[Rh]) ?_
 simp(disch:=try exact dI) only[Rh,Val.pv_mk,push_cast,seval]
 refine aq h rfl ?_
 refine zgZ ?_
 refine ab.pure h' rfl ?_
 refine zgZ ?_
 refine ab.pure h2 rfl ?_
 exact qsZ
theorem Jm (v:Val)(hk:v.kind=5):ag Tryz.prog au 289 [v.pv] (.int .i64 (bG v)):=by
 obtain⟨k,n,s,t,l,fs⟩:=v
 simp only[Val.kind] at hk;subst hk
 rw[show bG (.mk 5 n s t l fs)=gh t.length 1024 5 from rfl]
 have h:=jR t.length 1024 5
 change ag _ _ _ _ (.int .i64 (gh t.length 1024 5)) at h
 generalize gh t.length 1024 5=e at *
 refine ag.intro Rf.2 (by simp[Rf]) ?_
 simp(disch:=try exact dI) only[Rf,Val.pv_mk,push_cast,seval]
 refine ab.pure h rfl ?_
 exact qsZ
theorem Jl (v:Val)(hk:v.kind=6):ag Tryz.prog au 290 [v.pv] (.int .i64 (bG v)):=by
 obtain⟨k,n,s,t,l,fs⟩:=v
 simp only[Val.kind] at hk;subst hk
 rw[show bG (.mk 6 n s t l fs)=gB n (-719162) 2932896 from rfl]
 have h:=cQ n (-719162) 2932896
 change ag _ _ _ _ (.int .i64 (gB n (-719162) 2932896)) at h
 generalize gB n (-719162) 2932896=e at *
 refine ag.intro Re.2 (by simp[Re]) ?_
 simp(disch:=try exact dI) only[Re,Val.pv_mk,push_cast,seval]
 refine ab.pure h rfl ?_
 exact qsZ
theorem Jk (v:Val)(hk:v.kind=7):ag Tryz.prog au 291 [v.pv] (.int .i64 (bG v)):=by
 obtain⟨k,n,s,t,l,fs⟩:=v
 simp only[Val.kind] at hk;subst hk
 rw[show bG (.mk 7 n s t l fs)=gB n (-62135596800000) 253402300799999 from rfl]
 have h:=cQ n (-62135596800000) 253402300799999
 change ag _ _ _ _ (.int .i64 (gB n (-62135596800000) 253402300799999)) at h
 generalize gB n (-62135596800000) 253402300799999=e at *
 refine ag.intro Rd.2 (by simp[Rd]) ?_
 simp(disch:=try exact dI) only[Rd,Val.pv_mk,push_cast,seval]
 refine ab.pure h rfl ?_
 exact qsZ
theorem Jj (v:Val)(hk:v.kind=8):ag Tryz.prog au 292 [v.pv] (.int .i64 (bG v)):=by
 obtain⟨k,n,s,t,l,fs⟩:=v
 simp only[Val.kind] at hk;subst hk
 rw[show bG (.mk 8 n s t l fs)=gh l.length 256 9 from rfl]
 have h:=jR l.length 256 9
 change ag _ _ _ _ (.int .i64 (gh l.length 256 9)) at h
 generalize gh l.length 256 9=e at *
 refine ag.intro Rc.2 (by simp[Rc]) ?_
 simp(disch:=try exact dI) only[Rc,Val.pv_mk,push_cast,seval]
 refine ab.pure h rfl ?_
 exact qsZ
theorem Jn (v:Val)(hk:v.kind=4):ag Tryz.prog au 287 [v.pv] (.int .i64 (bG v)):=by
 obtain⟨k,n,s,t,l,fs⟩:=v
 simp only[Val.kind] at hk;subst hk
 rw[show bG (.mk 4 n s t l fs)=(if gh t.length 1024 5=0 then (if Lib.validD t=true then 0 else 16) else gh t.length 1024 5) from rfl]
 have h:=jR t.length 1024 5
 have hv:=dy t
 change ag _ _ _ _ (.int .i64 (gh t.length 1024 5)) at h
 generalize gh t.length 1024 5=e at *
 refine ag.intro O4.2 (by simp[O4]) ?_
 by_cases he:e=0
 ·subst he
  rw[if_pos rfl]
  cases hb:Lib.validD t with
  | true=>
    rw[hb] at hv
    rw[if_pos rfl]
    simp(disch:=try exact dI) only[O4,Val.pv_mk,push_cast,seval]
    refine ab.pure h rfl ?_
    refine zgZ ?_
    refine ab.pure hv rfl ?_
    exact qsZ
  | false=>
    rw[hb] at hv
    rw[if_neg (by simp)]
    simp(disch:=try exact dI) only[O4,Val.pv_mk,push_cast,seval]
    refine ab.pure h rfl ?_
    refine zgZ ?_
    refine ab.pure hv rfl ?_
    exact qsZ
 ·rw[if_neg he]
  simp(disch:=try exact dI) only[O4,Val.pv_mk,push_cast,seval]
  refine ab.pure h rfl ?_
  exact qsZ
theorem qZ {fs:List (List UInt8)}{i:Nat}{s:List UInt8}(h:fs[i]? = some s)(p:Option (List UInt8)):iU p (fs.drop i)=if cJ s=false then 12 else if p=some s then 7 else if (p.any fun q=>aR s q)=true then 24 else iU (some s) (fs.drop (i+1)):=by
 have hi:i<fs.length:=(List.getElem?_eq_some_iff.1 h).1
 have he:fs[i]=s:=(List.getElem?_eq_some_iff.1 h).2
 rw[List.drop_eq_getElem_cons hi,he,iU]
def qI (fs:List Fld)(i:Nat):Option (List UInt8):=if i=0 then none else (fs[i - 1]?).map Fld.name
theorem Ji (v:Val)(hk:v.kind=9):ag Tryz.prog au 293 [v.pv] (.int .i64 (bG v)):=by
 obtain⟨k,n,s,t,l,fs⟩:=v
 simp only[Val.kind] at hk;subst hk
 rw[show bG (.mk 9 n s t l fs)=(if gh fs.length 64 9=0 then iU none (fs.map Fld.name) else gh fs.length 64 9) from rfl]
 have h:=jR fs.length 64 9
 change ag _ _ _ _ (.int .i64 (gh fs.length 64 9)) at h
 by_cases h64:(64:Int)<fs.length
 ·have e:gh fs.length 64 9=9:=if_pos h64
  rw[e] at h ⊢
  rw[if_neg (by omega)]
  refine ag.intro L8.2 (by simp[L8]) ?_
  simp(disch:=try exact dI) only[L8,Val.pv_mk,push_cast,seval]
  refine ab.pure h rfl ?_
  exact qsZ
 ·have e:gh fs.length 64 9=0:=if_neg h64
  rw[e] at h ⊢
  rw[if_pos rfl]
  have hfl:fs.length<=64:=by omega
  obtain⟨R,hR⟩:∃ R,R=iU none (fs.map Fld.name):=⟨_,rfl⟩
  rw[<- hR]
  refine ag.intro L8.2 (by simp[L8]) ?_
  simp(disch:=try exact dI) only[L8,Val.pv_mk,push_cast,seval]
  refine ab.pure h rfl ?_
  refine zgZ ?_
  refine az ([]) (fun i:Nat=>[(16,.pv (.int .i64 (i:Int)))]) (fun _=>[]) (fun i=>i<=fs.length/\R=iU (qI fs i) ((fs.map Fld.name).drop i)) (fun i=>fs.length - i) (0) ?_;intro e0 σ0 n0 h0;simp(disch:=try exact dI) only[push_cast,seval] at h0;obtain⟨rfl,rfl,rfl⟩:=h0;refine⟨?_,?_,?_⟩
  ·exact qsZ
  ·exact⟨by omega,by simpa[qI] using hR⟩
  rintro i ⟨hi,hr⟩
  by_cases hlt:i<fs.length
  ·have hltI:(i:Int)<(fs.length:Int):=by omega
   obtain⟨c,hc⟩:∃ c,fs[i]? = some c:=⟨_,List.getElem?_eq_getElem hlt⟩
   obtain⟨nm,⟨k',n',s',t',l',f'⟩⟩:=c
   have hcp:(fs.map Fld.pv)[i]? = some (.agg [.str nm,.int .i64 k',.int .i64 n',.int .i64 s',.str t',.list (l'.map Val.pv),.list (f'.map Fld.pv)]):=by simp[hc,Fld.pv_mk,Val.pv_mk,am]
   have hnm:(fs.map Fld.name)[i]? = some nm:=by simp[hc,Fld.name]
   have hn:=q8 nm
   rw[qZ hnm] at hr
   have hnext:qI fs (i+1)=some nm:=by simp[qI,hc,Fld.name]
   cases hb:cJ nm with
   | false=>
     rw[hb] at hn hr
     rw[if_pos rfl] at hr
     subst hr
     simp(disch:=try exact dI) only[hcp,push_cast,seval]
     refine ab.pure hn rfl ?_
     exact qsZ
   | true=>
     rw[hb] at hn hr
     rw[if_neg (by simp)] at hr
     by_cases hi0:i=0
     ·have hiI:¬ (0:Int)<(i:Int):=by omega
      have hpn:qI fs i=none:=if_pos hi0
      rw[hpn,if_neg (by simp),if_neg (by simp),<- hnext] at hr
      simp(disch:=try exact dI) only[hcp,push_cast,seval]
      refine ab.pure hn rfl ?_
      refine zgZ ?_
      exact⟨i+1,aZ qsZ,⟨by omega,by rw[List.map_drop];exact hr⟩,by omega⟩
     ·obtain⟨j,rfl⟩:∃ j,i=j+1:=⟨i - 1,by omega⟩
      obtain⟨c,hc'⟩:∃ c,fs[j]? = some c:=⟨_,List.getElem?_eq_getElem (by omega)⟩
      have hpn:qI fs (j+1)=some c.name:=by simp[qI,hc']
      obtain⟨q,⟨k2,n2,s2,t2,l2,f2⟩⟩:=c
      have hcq:(fs.map Fld.pv)[j]? = some (.agg [.str q,.int .i64 k2,.int .i64 n2,.int .i64 s2,.str t2,.list (l2.map Val.pv),.list (f2.map Fld.pv)]):=by simp[hc',Fld.pv_mk,Val.pv_mk,am]
      simp only[Fld.name] at hpn
      rw[hpn] at hr
      by_cases hq:nm=q
      ·subst hq
       rw[if_pos rfl] at hr
       subst hr
       simp(disch:=try exact dI) only[hcp,Int.add_sub_cancel,push_cast,seval]
       refine ab.pure hn rfl ?_
       simp(disch:=try exact dI) only[hcq,Int.add_sub_cancel,push_cast,seval]
      ·rw[if_neg (by simpa using fun e=>hq e.symm)] at hr
       cases hlt2:aR nm q with
       | true=>
         rw[if_pos (by simpa using hlt2)] at hr
         subst hr
         simp(disch:=try exact dI) only[hcp,Int.add_sub_cancel,push_cast,seval]
         refine ab.pure hn rfl ?_
         simp(disch:=try exact dI) only[hcq,Int.add_sub_cancel,hq,hlt2,push_cast,seval]
       | false=>
         rw[if_neg (by simp[hlt2]),<- hnext] at hr
         simp(disch:=try exact dI) only[hcp,Int.add_sub_cancel,push_cast,seval]
         refine ab.pure hn rfl ?_
         simp(disch:=try exact dI) only[hcq,Int.add_sub_cancel,hq,hlt2,push_cast,seval]
         exact⟨j+1+1,aZ qsZ,⟨by omega,by rw[List.map_drop];exact hr⟩,by omega⟩
  ·have hie:i=fs.length:=by omega
   subst hie
   rw[List.drop_of_length_le (by simp)] at hr
   rw[show R=0 from hr]
   exact qsZ
theorem Jh (v:Val)(hk:v.kind=10):ag Tryz.prog au 294 [v.pv] (.int .i64 (bG v)):=by
 obtain⟨k,n,s,t,l,fs⟩:=v
 simp only[Val.kind] at hk;subst hk
 rw[show bG (.mk 10 n s t l fs)=(if cJ t=false then 12 else if l.length=0 then 4 else gh l.length 1 3) from rfl]
 have h:=jR l.length 1 3
 have hn:=q8 t
 change ag _ _ _ _ (.int .i64 (gh l.length 1 3)) at h
 generalize gh l.length 1 3=e at *
 refine ag.intro O3.2 (by simp[O3]) ?_
 cases hb:cJ t with
 | false=>
   rw[hb] at hn
   rw[if_pos rfl]
   simp(disch:=try exact dI) only[O3,Val.pv_mk,push_cast,seval]
   refine ab.pure hn rfl ?_
   exact qsZ
 | true=>
   rw[hb] at hn
   rw[if_neg (by simp)]
   by_cases hl:l.length=0
   ·have hlI:(l.length:Int)=0:=by omega
    rw[if_pos hl]
    simp(disch:=try exact dI) only[O3,Val.pv_mk,push_cast,seval]
    refine ab.pure hn rfl ?_
    exact qsZ
   ·have hlI:¬ (l.length:Int)=0:=by omega
    rw[if_neg hl]
    simp(disch:=try exact dI) only[O3,Val.pv_mk,push_cast,seval]
    refine ab.pure hn rfl ?_
    refine zgZ ?_
    refine ab.pure h rfl ?_
    exact qsZ
def a8 (i:Nat)(q:Int×Val):Int:=
 if 4096<=i then 9 else if 8<q.1 then 23 else if ba q.2=true then 19 else if q.2.kind<1\/10<q.2.kind then 11 else if aD q.2=false then 3 else bG q.2
section
variable {i:Nat}{q:Int×Val}
theorem IU (c1:4096<=i):a8 i q=9:=if_pos c1
theorem IT (c1:¬ 4096<=i)(c2:8<q.1):a8 i q=23:=by unfold a8;rw[if_neg c1,if_pos c2]
theorem IS (c1:¬ 4096<=i)(c2:¬ 8<q.1)(c3:ba q.2=true):a8 i q=19:=by unfold a8;rw[if_neg c1,if_neg c2,if_pos c3]
theorem IR (c1:¬ 4096<=i)(c2:¬ 8<q.1)(c3:ba q.2=false)(c4:q.2.kind<1\/10<q.2.kind):a8 i q=11:=by unfold a8;rw[if_neg c1,if_neg c2,if_neg (by rw[c3];simp),if_pos c4]
theorem IQ (c1:¬ 4096<=i)(c2:¬ 8<q.1)(c3:ba q.2=false)(c4:¬ (q.2.kind<1\/10<q.2.kind))(c5:aD q.2=false):a8 i q=3:=by unfold a8;rw[if_neg c1,if_neg c2,if_neg (by rw[c3];simp),if_neg c4,if_pos c5]
theorem yS (c1:¬ 4096<=i)(c2:¬ 8<q.1)(c3:ba q.2=false)(c4:¬ (q.2.kind<1\/10<q.2.kind))(c5:aD q.2=true):a8 i q=bG q.2:=by unfold a8;rw[if_neg c1,if_neg c2,if_neg (by rw[c3];simp),if_neg c4,if_neg (by rw[c5];simp)]
end
def pu:Nat->List (Int×Val)->Int
 | _,[]=>0
 | i,q::r=>if a8 i q=0 then pu (i+1) r else a8 i q
def Jg (k:Int):Nat:=if k=1 then 282 else if k=2 then 284 else if k=3 then 285 else if k=4 then 287 else if k=5 then 289 else if k=6 then 290 else if k=7 then 291 else if k=8 then 292 else if k=9 then 293 else 294
theorem Jf (v:Val)(h:1<=v.kind/\v.kind<=10):ag Tryz.prog au (Jg v.kind) [v.pv] (.int .i64 (bG v)):=by
 have hc:v.kind=1\/v.kind=2\/v.kind=3\/v.kind=4\/v.kind=5\/v.kind=6\/v.kind=7\/v.kind=8\/v.kind=9\/v.kind=10:=by omega
 rcases hc with h | h | h | h | h | h | h | h | h | h<;>rw[h]
 ·exact Jq v h
 ·exact Jp v h
 ·exact Jo v h
 ·exact Jn v h
 ·exact Jm v h
 ·exact Jl v h
 ·exact Jk v h
 ·exact Jj v h
 ·exact Ji v h
 ·exact Jh v h
theorem aX {n sz r o:Nat}{k:IntKind}{i:Int}(h0:0<=i)(h1:i.toNat<n):ik n sz (.ptr r o) (.pv (.int k i))=some (.ptr r (o+i.toNat*sz)):=if_pos ⟨h0,h1⟩
theorem IA (x:Val)(h:1<=x.kind/\x.kind<=10):ag Tryz.prog au 262 [x.pv] (.bool (aD x)):=Iy x h
theorem Ld {xs:List (Int×Val)}{i:Nat}{q:Int×Val}(h:xs[i]? = some q):pu i (xs.drop i)=if a8 i q=0 then pu (i+1) (xs.drop (i+1)) else a8 i q:=by
 have hi:i<xs.length:=(List.getElem?_eq_some_iff.1 h).1
 have he:xs[i]=q:=(List.getElem?_eq_some_iff.1 h).2
 rw[List.drop_eq_getElem_cons hi,he,pu]
theorem tV (n:Nat)(v:Val)(hd:kU n v)(hv:v.ok):ag Tryz.prog au 233 [v.pv] (.int .i64 (pu 0 (eR n 1 v))):=by
 have hseq:=iS n v hd hv
 have h243:=j2 v
 have h242:=Ew
 generalize hxs:eR n 1 v=xs at *
 obtain⟨R,hR⟩:∃ R,R=pu 0 xs:=⟨_,rfl⟩
 rw[<- hR]
 obtain⟨k,a,s,t,l,fs⟩:=v
 simp only[Val.pv_mk,za] at h243 h242 hseq
 refine ag.intro Ro.2 (by simp[Ro]) ?_
 simp(disch:=try exact dI) only[Ro,Val.pv_mk,push_cast,seval]
 refine ab.pure h242 rfl ?_
 simp(disch:=try exact dI) only[Ay,sU,push_cast,seval]
 refine ab.pure h243 rfl ?_
 refine zgZ ?_
 refine sd ([]) (fun i:Nat=>[]) (fun i:Nat=>[(2,.cells 3 true [.pv (.int .i64 (i:Int))])]) (fun j i=>j=i/\i<=4096/\R=pu i (xs.drop i)) (0) (hseq) ?_;intro e0 σ0 n0 h0;simp(disch:=try exact dI) only[push_cast,seval] at h0;obtain⟨rfl,rfl,rfl⟩:=h0;refine⟨?_,?_,?_,?_,?_⟩
 ·exact qsZ
 ·exact⟨rfl,by omega,by simpa using hR⟩
 ·rfl
 ·rintro j i y hy ⟨hij,hj4,hr⟩
  subst hij
  obtain⟨q,hq⟩:∃ q,xs[j]? = some q:=by
   cases h:xs[j]? with
   | none=>simp[h] at hy
   | some q=>exact⟨q,rfl⟩
  have hye:y=xL q:=by simpa[hq] using hy.symm
  subst hye
  rw[Ld hq] at hr
  have hjl:j<xs.length:=(List.getElem?_eq_some_iff.1 hq).1
  obtain⟨lv,x⟩:=q
  have h111:=qW x
  have hrule:=Jf x
  have huse:=IA x
  obtain⟨k',n',s',t',l',f'⟩:=x
  simp only[Val.pv_mk,Val.kind] at h111 hrule huse
  refine⟨rfl,?_⟩
  simp only[xL,Val.pv_mk]
  clear hy h242 h243 hseq
  by_cases c1:4096<=j
  ·have e:a8 j (lv,Val.mk k' n' s' t' l' f')=9:=if_pos c1
   rw[e,if_neg (by omega)] at hr
   subst hr
   exact qsZ
  ·have hj1:¬ (4096:Int)<(j:Int)+1:=by omega
   by_cases c2:8<lv
   ·have e:a8 j (lv,Val.mk k' n' s' t' l' f')=23:=IT c1 c2
    rw[e,if_neg (by omega)] at hr
    subst hr
    exact qsZ
   ·cases c3:ba (Val.mk k' n' s' t' l' f') with
    | true=>
      have e:a8 j (lv,Val.mk k' n' s' t' l' f')=19:=IS c1 c2 c3
      rw[e,if_neg (by omega)] at hr
      subst hr
      rw[c3] at h111
      refine zgZ ?_
      refine ab.pure h111 rfl ?_
      exact qsZ
    | false=>
      rw[c3] at h111
      by_cases c4:k'<1\/10<k'
      ·have e:a8 j (lv,Val.mk k' n' s' t' l' f')=11:=IR c1 c2 c3 c4
       rw[e,if_neg (by omega)] at hr
       subst hr
       rcases c4 with c4 | c4
       ·refine zgZ ?_
        refine ab.pure h111 rfl ?_
        exact qsZ
       ·refine zgZ ?_
        refine ab.pure h111 rfl ?_
        exact qsZ
      ·have huse:=huse (by omega)
       have hrule:=hrule (by omega)
       cases c5:aD (Val.mk k' n' s' t' l' f') with
       | false=>
         have e:a8 j (lv,Val.mk k' n' s' t' l' f')=3:=IQ c1 c2 c3 c4 c5
         rw[e,if_neg (by omega)] at hr
         subst hr
         rw[c5] at huse
         refine zgZ ?_
         refine ab.pure h111 rfl ?_
         refine zgZ ?_
         refine ab.pure huse rfl ?_
         exact qsZ
       | true=>
         have e:a8 j (lv,Val.mk k' n' s' t' l' f')=bG (Val.mk k' n' s' t' l' f'):=yS c1 c2 c3 c4 c5
         rw[e] at hr
         rw[c5] at huse
         generalize bG (Val.mk k' n' s' t' l' f')=z at hr hrule
         have hkc:([AV.pv PV.nilf,AV.pv (PV.clo 282 [] []),AV.pv (PV.clo 284 [] []),AV.pv (PV.clo 285 [] []),AV.pv (PV.clo 287 [] []),AV.pv (PV.clo 289 [] []),AV.pv (PV.clo 290 [] []),AV.pv (PV.clo 291 [] []),AV.pv (PV.clo 292 [] []),AV.pv (PV.clo 293 [] []),AV.pv (PV.clo 294 [] [])]:List AV)[k'.toNat*1]? = some (.pv (.clo (Jg k') [] [])):=by
          have hc:k'=1\/k'=2\/k'=3\/k'=4\/k'=5\/k'=6\/k'=7\/k'=8\/k'=9\/k'=10:=by omega
          rcases hc with h | h | h | h | h | h | h | h | h | h<;>rw[h]<;>rfl
         generalize Jg k'=rf at hkc hrule
         by_cases hz:z=0
         ·rw[if_pos hz] at hr
          subst hz
          refine zgZ ?_
          refine ab.pure h111 rfl ?_
          refine zgZ ?_
          refine ab.pure huse rfl ?_
          simp(disch:=try exact dI) only[aX,hkc,push_cast,seval]
          refine ab.pure hrule rfl ?_
          refine zgZ ?_
          exact⟨j+1,aZ qsZ,rfl,by omega,hr⟩
         ·rw[if_neg hz] at hr
          subst hr
          refine zgZ ?_
          refine ab.pure h111 rfl ?_
          refine zgZ ?_
          refine ab.pure huse rfl ?_
          simp(disch:=try exact dI) only[aX,hkc,push_cast,seval]
          refine ab.pure hrule rfl ?_
          exact qsZ
 ·rintro j ⟨hj,hj4,hr⟩
  simp only[List.length_map] at hj
  subst hj
  rw[List.drop_length] at hr
  rw[show R=0 from hr]
  exact qsZ
theorem IY (n:Nat)(v:Val)(hd:kU n v)(hv:v.ok)(hs:(eR n 1 v).length<=9223372036854775806):ag Tryz.prog au 235 [v.pv] (.int .i64 ((eR n 1 v).length:Int)):=by
 have hseq:=iS n v hd hv
 have h243:=j2 v
 generalize hxs:eR n 1 v=xs at *
 obtain⟨k,a,s,t,l,fs⟩:=v
 simp only[Val.pv_mk] at h243 hseq
 refine ag.intro Rn.2 (by simp[Rn]) ?_
 simp(disch:=try exact dI) only[Rn,Val.pv_mk,push_cast,seval]
 refine ab.pure h243 rfl ?_
 refine zgZ ?_
 refine sd ([]) (fun i:Nat=>[]) (fun i:Nat=>[(0,.cells 3 true [.pv (.int .i64 (i:Int))])]) (fun j i=>j=i/\i<=xs.length) (0) (hseq) ?_;intro e0 σ0 n0 h0;simp(disch:=try exact dI) only[push_cast,seval] at h0;obtain⟨rfl,rfl,rfl⟩:=h0;refine⟨?_,?_,?_,?_,?_⟩
 ·exact qsZ
 ·exact⟨rfl,by omega⟩
 ·rfl
 ·rintro j i y hy ⟨hij,hi⟩
  subst hij
  have hjl:j<xs.length:=by
   have:=(List.getElem?_eq_some_iff.1 hy).1
   simpa using this
  obtain⟨q,hq⟩:∃ q,xs[j]? = some q:=⟨_,List.getElem?_eq_getElem hjl⟩
  have hye:y=xL q:=by simpa[hq] using hy.symm
  subst hye
  obtain⟨lv,⟨k',n',s',t',l',f'⟩⟩:=q
  refine⟨rfl,?_⟩
  simp only[xL,Val.pv_mk]
  clear hy h243 hseq
  refine zgZ ?_
  exact⟨j+1,aZ qsZ,rfl,by omega⟩
 ·rintro j ⟨hj,hi⟩
  simp only[List.length_map] at hj
  subst hj
  exact qsZ
end Go.Proofs.YtbojpfpliibfbaaGreatDoor
