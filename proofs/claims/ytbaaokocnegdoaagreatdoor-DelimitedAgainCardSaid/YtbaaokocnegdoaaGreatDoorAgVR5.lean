/- A part of the proof. -/
import Derived.Test.YtbaaokocnegdoaaGreatDoorAgVR3
set_option linter.unusedVariables false
set_option linter.unusedSimpArgs false
set_option maxHeartbeats 16000000
set_option maxRecDepth 100000
namespace Go.Proofs.YtbaaokocnegdoaaGreatDoor
open Go Go.Ab
attribute [local irreducible] vc
def gL (n a b:Int):Int:=if n<a\/b<n then 2 else 0
def gp (n m e:Int):Int:=if m<n then e else 0
def jl:Option (List UInt8)->List (List UInt8)->Int
 | _,[]=>0
 | p,s::r=>if dB s=false then 12 else if p=some s then 7 else if (p.any fun q=>bd s q)=true then 24 else jl (some s) r
def bE:Val->Int
 | .mk k n s t l fs=>
   if k=1 then gL n 0 1
   else if k=2 then gL n (-999999999999999) 999999999999999
   else if k=3 then (if gL n (-999999999999999) 999999999999999=0 then gL s 0 12 else gL n (-999999999999999) 999999999999999)
   else if k=4 then (if gp t.length 1024 5=0 then (if Lib.validD t=true then 0 else 16) else gp t.length 1024 5)
   else if k=5 then gp t.length 1024 5
   else if k=6 then gL n (-719162) 2932896
   else if k=7 then gL n (-62135596800000) 253402300799999
   else if k=8 then gp l.length 256 9
   else if k=9 then (if gp fs.length 64 9=0 then jl none (fs.map Fld.name) else gp fs.length 64 9)
   else if k=10 then (if dB t=false then 12 else if l.length=0 then 4 else gp l.length 1 3)
   else 0
theorem LK (v:Val)(hk:v.kind=1):ae Tryz.prog au 268 [v.pv] (.int .i64 (bE v)):=by
 obtain⟨k,n,s,t,l,fs⟩:=v
 simp only[Val.kind] at hk;subst hk
 rw[show bE (.mk 1 n s t l fs)=gL n 0 1 from rfl]
 have h:=cP n 0 1
 change ae _ _ _ _ (.int .i64 (gL n 0 1)) at h
 generalize gL n 0 1=e at *
 refine ae.intro Tm.2 (by simp[Tm]) ?_
 simp(disch:=try exact dI) only[Tm,Val.pv_mk,push_cast,seval]
 refine ab.pure h rfl ?_
 exact qsZ
theorem LJ (v:Val)(hk:v.kind=2):ae Tryz.prog au 270 [v.pv] (.int .i64 (bE v)):=by
 obtain⟨k,n,s,t,l,fs⟩:=v
 simp only[Val.kind] at hk;subst hk
 rw[show bE (.mk 2 n s t l fs)=gL n (-999999999999999) 999999999999999 from rfl]
 have h:=cP n (-999999999999999) 999999999999999
 change ae _ _ _ _ (.int .i64 (gL n (-999999999999999) 999999999999999)) at h
 generalize gL n (-999999999999999) 999999999999999=e at *
 refine ae.intro Tk.2 (by simp[Tk]) ?_
 simp(disch:=try exact dI) only[Tk,Val.pv_mk,push_cast,seval]
 refine ab.pure h rfl ?_
 exact qsZ
def gU:List Int->Int
 | []=>0
 | a::r=>if a=0 then gU r else a
theorem qz:∀ {L:List Int} {i:Nat} {x:Int},L[i]? = some x->x≠0->(∀ j,j<i->∀ y,L[j]? = some y->y=0)->gU L=x
 | [],i,x,h,_,_=>by simp at h
 | a::r,0,x,h,hx,_=>by simp at h;subst h;exact if_neg hx
 | a::r,i+1,x,h,hx,h0=>by
   have ha:=h0 0 (by omega) a rfl
   subst ha
   rw[gU,if_pos rfl]
   exact qz (by simpa using h) hx fun j hj y hy=>h0 (j+1) (by omega) y (by simpa using hy)
theorem lB:∀ {L:List Int},(∀ (j:Nat) y,L[j]? = some y->y=0)->gU L=0
 | [],_=>rfl
 | a::r,h=>by
   rw[gU,if_pos (h 0 a rfl)]
   exact lB fun j y hy=>h (j+1) y (by simpa using hy)
theorem D7 (L:List Int)(hL:L.length<=1000):ae Tryz.prog au 272 [.list (L.map fun n=>.int .i64 n)] (.int .i64 (gU L)):=by
 generalize hr:gU L=e
 refine ae.intro Ti.2 (by simp[Ti]) ?_
 simp(disch:=try exact dI) only[Ti,push_cast,seval]
 refine aC ([]) (fun i:Nat=>[(7,.pv (.int .i64 (i:Int)))]) (fun _=>[]) (fun i=>i<=L.length/\(∀ j,j<i->∀ y,L[j]? = some y->y=0)) (fun i=>L.length - i) (0) ?_;intro e0 σ0 n0 h0;simp(disch:=try exact dI) only[push_cast,seval] at h0;obtain⟨rfl,rfl,rfl⟩:=h0;refine⟨?_,?_,?_⟩
 ·exact qsZ
 ·exact⟨by omega,by omega⟩
 rintro i ⟨hi,h0⟩
 by_cases hlt:i<L.length
 ·have hltI:(i:Int)<(L.length:Int):=by omega
  obtain⟨x,hx⟩:∃ x,L[i]? = some x:=⟨_,List.getElem?_eq_getElem hlt⟩
  have hcp:(L.map fun n=>PV.int .i64 n)[i]? = some (.int .i64 x):=by simp[hx]
  by_cases hx0:x=0
  ·subst hx0
   simp(disch:=try exact dI) only[hcp,push_cast,seval]
   exact⟨i+1,aR qsZ,⟨by omega,fun j hj y hy=>by
    rcases Nat.lt_or_ge j i with h | h
    ·exact h0 j h y hy
    ·have:j=i:=by omega
     subst this
     rw[hx] at hy;exact (Option.some.inj hy).symm⟩,by omega⟩
  ·have:=qz hx hx0 h0
   rw[this] at hr
   subst hr
   simp(disch:=try exact dI) only[hcp,push_cast,seval]
 ·have:=lB (L:=L) fun j y hy=>h0 j (by have:=(List.getElem?_eq_some_iff.1 hy).1;omega) y hy
  rw[this] at hr
  subst hr
  exact qsZ
theorem IK (a b:Int):ae Tryz.prog au 272 [.list [.int .i64 a,.int .i64 b]] (.int .i64 (if a=0 then b else a)):=by
 have:=D7 [a,b] (by simp)
 have e:gU [a,b]=if a=0 then b else a:=by
  simp only[gU]
  by_cases hb:b=0
  ·subst hb;simp
  ·simp[hb]
 rw[e] at this
 exact this
theorem LI (v:Val)(hk:v.kind=3):ae Tryz.prog au 271 [v.pv] (.int .i64 (bE v)):=by
 obtain⟨k,n,s,t,l,fs⟩:=v
 simp only[Val.kind] at hk;subst hk
 rw[show bE (.mk 3 n s t l fs)=(if gL n (-999999999999999) 999999999999999=0 then gL s 0 12 else gL n (-999999999999999) 999999999999999) from rfl]
 have h:=cP n (-999999999999999) 999999999999999
 have h':=cP s 0 12
 change ae _ _ _ _ (.int .i64 (gL n (-999999999999999) 999999999999999)) at h
 change ae _ _ _ _ (.int .i64 (gL s 0 12)) at h'
 generalize gL n (-999999999999999) 999999999999999=e at *
 generalize gL s 0 12=e' at *
 have h2:=IK e e'
 generalize (if e=0 then e' else e)=e2 at *
 refine ae.intro Tj.2 (by simp[Tj]) ?_
 simp(disch:=try exact dI) only[Tj,Val.pv_mk,push_cast,seval]
 refine ag h rfl ?_
 refine zgZ ?_
 refine ab.pure h' rfl ?_
 refine zgZ ?_
 refine ab.pure h2 rfl ?_
 exact qsZ
theorem LG (v:Val)(hk:v.kind=5):ae Tryz.prog au 275 [v.pv] (.int .i64 (bE v)):=by
 obtain⟨k,n,s,t,l,fs⟩:=v
 simp only[Val.kind] at hk;subst hk
 rw[show bE (.mk 5 n s t l fs)=gp t.length 1024 5 from rfl]
 have h:=kk t.length 1024 5
 change ae _ _ _ _ (.int .i64 (gp t.length 1024 5)) at h
 generalize gp t.length 1024 5=e at *
 refine ae.intro Th.2 (by simp[Th]) ?_
 simp(disch:=try exact dI) only[Th,Val.pv_mk,push_cast,seval]
 refine ab.pure h rfl ?_
 exact qsZ
theorem LF (v:Val)(hk:v.kind=6):ae Tryz.prog au 276 [v.pv] (.int .i64 (bE v)):=by
 obtain⟨k,n,s,t,l,fs⟩:=v
 simp only[Val.kind] at hk;subst hk
 rw[show bE (.mk 6 n s t l fs)=gL n (-719162) 2932896 from rfl]
 have h:=cP n (-719162) 2932896
 change ae _ _ _ _ (.int .i64 (gL n (-719162) 2932896)) at h
 generalize gL n (-719162) 2932896=e at *
 refine ae.intro Tg.2 (by simp[Tg]) ?_
 simp(disch:=try exact dI) only[Tg,Val.pv_mk,push_cast,seval]
 refine ab.pure h rfl ?_
 exact qsZ
theorem LD (v:Val)(hk:v.kind=7):ae Tryz.prog au 277 [v.pv] (.int .i64 (bE v)):=by
 obtain⟨k,n,s,t,l,fs⟩:=v
 simp only[Val.kind] at hk;subst hk
 rw[show bE (.mk 7 n s t l fs)=gL n (-62135596800000) 253402300799999 from rfl]
 have h:=cP n (-62135596800000) 253402300799999
 change ae _ _ _ _ (.int .i64 (gL n (-62135596800000) 253402300799999)) at h
 generalize gL n (-62135596800000) 253402300799999=e at *
 refine ae.intro Tf.2 (by simp[Tf]) ?_
 simp(disch:=try exact dI) only[Tf,Val.pv_mk,push_cast,seval]
 refine ab.pure h rfl ?_
 exact qsZ
theorem LC (v:Val)(hk:v.kind=8):ae Tryz.prog au 278 [v.pv] (.int .i64 (bE v)):=by
 obtain⟨k,n,s,t,l,fs⟩:=v
 simp only[Val.kind] at hk;subst hk
 rw[show bE (.mk 8 n s t l fs)=gp l.length 256 9 from rfl]
 have h:=kk l.length 256 9
 change ae _ _ _ _ (.int .i64 (gp l.length 256 9)) at h
 generalize gp l.length 256 9=e at *
 refine ae.intro Te.2 (by simp[Te]) ?_
 simp(disch:=try exact dI) only[Te,Val.pv_mk,push_cast,seval]
 refine ab.pure h rfl ?_
 exact qsZ
theorem LH (v:Val)(hk:v.kind=4):ae Tryz.prog au 273 [v.pv] (.int .i64 (bE v)):=by
 obtain⟨k,n,s,t,l,fs⟩:=v
 simp only[Val.kind] at hk;subst hk
 rw[show bE (.mk 4 n s t l fs)=(if gp t.length 1024 5=0 then (if Lib.validD t=true then 0 else 16) else gp t.length 1024 5) from rfl]
 have h:=kk t.length 1024 5
 have hv:=fP t
 change ae _ _ _ _ (.int .i64 (gp t.length 1024 5)) at h
 generalize gp t.length 1024 5=e at *
 refine ae.intro Rc.2 (by simp[Rc]) ?_
 by_cases he:e=0
 ·subst he
  rw[if_pos rfl]
  cases hb:Lib.validD t with
  | true=>
    rw[hb] at hv
    rw[if_pos rfl]
    simp(disch:=try exact dI) only[Rc,Val.pv_mk,push_cast,seval]
    refine ab.pure h rfl ?_
    refine zgZ ?_
    refine ab.pure hv rfl ?_
    exact qsZ
  | false=>
    rw[hb] at hv
    rw[if_neg (by simp)]
    simp(disch:=try exact dI) only[Rc,Val.pv_mk,push_cast,seval]
    refine ab.pure h rfl ?_
    refine zgZ ?_
    refine ab.pure hv rfl ?_
    exact qsZ
 ·rw[if_neg he]
  simp(disch:=try exact dI) only[Rc,Val.pv_mk,push_cast,seval]
  refine ab.pure h rfl ?_
  exact qsZ
theorem sN {fs:List (List UInt8)}{i:Nat}{s:List UInt8}(h:fs[i]? = some s)(p:Option (List UInt8)):jl p (fs.drop i)=if dB s=false then 12 else if p=some s then 7 else if (p.any fun q=>bd s q)=true then 24 else jl (some s) (fs.drop (i+1)):=by
 have hi:i<fs.length:=(List.getElem?_eq_some_iff.1 h).1
 have he:fs[i]=s:=(List.getElem?_eq_some_iff.1 h).2
 rw[List.drop_eq_getElem_cons hi,he,jl]
def sx (fs:List Fld)(i:Nat):Option (List UInt8):=if i=0 then none else (fs[i - 1]?).map Fld.name
theorem LB (v:Val)(hk:v.kind=9):ae Tryz.prog au 279 [v.pv] (.int .i64 (bE v)):=by
 obtain⟨k,n,s,t,l,fs⟩:=v
 simp only[Val.kind] at hk;subst hk
 rw[show bE (.mk 9 n s t l fs)=(if gp fs.length 64 9=0 then jl none (fs.map Fld.name) else gp fs.length 64 9) from rfl]
 have h:=kk fs.length 64 9
 change ae _ _ _ _ (.int .i64 (gp fs.length 64 9)) at h
 by_cases h64:(64:Int)<fs.length
 ·have e:gp fs.length 64 9=9:=if_pos h64
  rw[e] at h ⊢
  rw[if_neg (by omega)]
  refine ae.intro Ol.2 (by simp[Ol]) ?_
  simp(disch:=try exact dI) only[Ol,Val.pv_mk,push_cast,seval]
  refine ab.pure h rfl ?_
  exact qsZ
 ·have e:gp fs.length 64 9=0:=if_neg h64
  rw[e] at h ⊢
  rw[if_pos rfl]
  have hfl:fs.length<=64:=by omega
  obtain⟨R,hR⟩:∃ R,R=jl none (fs.map Fld.name):=⟨_,rfl⟩
  rw[<- hR]
  refine ae.intro Ol.2 (by simp[Ol]) ?_
  simp(disch:=try exact dI) only[Ol,Val.pv_mk,push_cast,seval]
  refine ab.pure h rfl ?_
  refine zgZ ?_
  refine aC ([]) (fun i:Nat=>[(16,.pv (.int .i64 (i:Int)))]) (fun _=>[]) (fun i=>i<=fs.length/\R=jl (sx fs i) ((fs.map Fld.name).drop i)) (fun i=>fs.length - i) (0) ?_;intro e0 σ0 n0 h0;simp(disch:=try exact dI) only[push_cast,seval] at h0;obtain⟨rfl,rfl,rfl⟩:=h0;refine⟨?_,?_,?_⟩
  ·exact qsZ
  ·exact⟨by omega,by simpa[sx] using hR⟩
  rintro i ⟨hi,hr⟩
  by_cases hlt:i<fs.length
  ·have hltI:(i:Int)<(fs.length:Int):=by omega
   obtain⟨c,hc⟩:∃ c,fs[i]? = some c:=⟨_,List.getElem?_eq_getElem hlt⟩
   obtain⟨nm,⟨k',n',s',t',l',f'⟩⟩:=c
   have hcp:(fs.map Fld.pv)[i]? = some (.agg [.str nm,.int .i64 k',.int .i64 n',.int .i64 s',.str t',.list (l'.map Val.pv),.list (f'.map Fld.pv)]):=by simp[hc,Fld.pv_mk,Val.pv_mk,ak]
   have hnm:(fs.map Fld.name)[i]? = some nm:=by simp[hc,Fld.name]
   have hn:=sP nm
   rw[sN hnm] at hr
   have hnext:sx fs (i+1)=some nm:=by simp[sx,hc,Fld.name]
   cases hb:dB nm with
   | false=>
     rw[hb] at hn hr
     rw[if_pos rfl] at hr
     subst hr
     simp(disch:=try exact dI) only[hcp,push_cast,seval]
     refine ab.pure hn rfl ?_
     exact qsZ
   | true=>
     rw[hb] at hn hr
     rw[if_neg (by simp)] at hr
     by_cases hi0:i=0
     ·have hiI:¬ (0:Int)<(i:Int):=by omega
      have hpn:sx fs i=none:=if_pos hi0
      rw[hpn,if_neg (by simp),if_neg (by simp),<- hnext] at hr
      simp(disch:=try exact dI) only[hcp,push_cast,seval]
      refine ab.pure hn rfl ?_
      refine zgZ ?_
      exact⟨i+1,aR qsZ,⟨by omega,by rw[List.map_drop];exact hr⟩,by omega⟩
     ·obtain⟨j,rfl⟩:∃ j,i=j+1:=⟨i - 1,by omega⟩
      obtain⟨c,hc'⟩:∃ c,fs[j]? = some c:=⟨_,List.getElem?_eq_getElem (by omega)⟩
      have hpn:sx fs (j+1)=some c.name:=by simp[sx,hc']
      obtain⟨q,⟨k2,n2,s2,t2,l2,f2⟩⟩:=c
      have hcq:(fs.map Fld.pv)[j]? = some (.agg [.str q,.int .i64 k2,.int .i64 n2,.int .i64 s2,.str t2,.list (l2.map Val.pv),.list (f2.map Fld.pv)]):=by simp[hc',Fld.pv_mk,Val.pv_mk,ak]
      simp only[Fld.name] at hpn
      rw[hpn] at hr
      by_cases hq:nm=q
      ·subst hq
       rw[if_pos rfl] at hr
       subst hr
       simp(disch:=try exact dI) only[hcp,Int.add_sub_cancel,push_cast,seval]
       refine ab.pure hn rfl ?_
       simp(disch:=try exact dI) only[hcq,Int.add_sub_cancel,push_cast,seval]
      ·rw[if_neg (by simpa using fun e=>hq e.symm)] at hr
       cases hlt2:bd nm q with
       | true=>
         rw[if_pos (by simpa using hlt2)] at hr
         subst hr
         simp(disch:=try exact dI) only[hcp,Int.add_sub_cancel,push_cast,seval]
         refine ab.pure hn rfl ?_
         simp(disch:=try exact dI) only[hcq,Int.add_sub_cancel,hq,hlt2,push_cast,seval]
       | false=>
         rw[if_neg (by simp[hlt2]),<- hnext] at hr
         simp(disch:=try exact dI) only[hcp,Int.add_sub_cancel,push_cast,seval]
         refine ab.pure hn rfl ?_
         simp(disch:=try exact dI) only[hcq,Int.add_sub_cancel,hq,hlt2,push_cast,seval]
         exact⟨j+1+1,aR qsZ,⟨by omega,by rw[List.map_drop];exact hr⟩,by omega⟩
  ·have hie:i=fs.length:=by omega
   subst hie
   rw[List.drop_of_length_le (by simp)] at hr
   rw[show R=0 from hr]
   exact qsZ
theorem LA (v:Val)(hk:v.kind=10):ae Tryz.prog au 280 [v.pv] (.int .i64 (bE v)):=by
 obtain⟨k,n,s,t,l,fs⟩:=v
 simp only[Val.kind] at hk;subst hk
 rw[show bE (.mk 10 n s t l fs)=(if dB t=false then 12 else if l.length=0 then 4 else gp l.length 1 3) from rfl]
 have h:=kk l.length 1 3
 have hn:=sP t
 change ae _ _ _ _ (.int .i64 (gp l.length 1 3)) at h
 generalize gp l.length 1 3=e at *
 refine ae.intro Rb.2 (by simp[Rb]) ?_
 cases hb:dB t with
 | false=>
   rw[hb] at hn
   rw[if_pos rfl]
   simp(disch:=try exact dI) only[Rb,Val.pv_mk,push_cast,seval]
   refine ab.pure hn rfl ?_
   exact qsZ
 | true=>
   rw[hb] at hn
   rw[if_neg (by simp)]
   by_cases hl:l.length=0
   ·have hlI:(l.length:Int)=0:=by omega
    rw[if_pos hl]
    simp(disch:=try exact dI) only[Rb,Val.pv_mk,push_cast,seval]
    refine ab.pure hn rfl ?_
    exact qsZ
   ·have hlI:¬ (l.length:Int)=0:=by omega
    rw[if_neg hl]
    simp(disch:=try exact dI) only[Rb,Val.pv_mk,push_cast,seval]
    refine ab.pure hn rfl ?_
    refine zgZ ?_
    refine ab.pure h rfl ?_
    exact qsZ
def bg (i:Nat)(q:Int×Val):Int:=
 if 4096<=i then 9 else if 8<q.1 then 23 else if bz q.2=true then 19 else if q.2.kind<1\/10<q.2.kind then 11 else if ce q.2=false then 3 else bE q.2
section
variable {i:Nat}{q:Int×Val}
theorem Lh (c1:¬ 4096<=i)(c2:8<q.1):bg i q=23:=by unfold bg;rw[if_neg c1,if_pos c2]
theorem Lg (c1:¬ 4096<=i)(c2:¬ 8<q.1)(c3:bz q.2=true):bg i q=19:=by unfold bg;rw[if_neg c1,if_neg c2,if_pos c3]
theorem Lf (c1:¬ 4096<=i)(c2:¬ 8<q.1)(c3:bz q.2=false)(c4:q.2.kind<1\/10<q.2.kind):bg i q=11:=by unfold bg;rw[if_neg c1,if_neg c2,if_neg (by rw[c3];simp),if_pos c4]
theorem Le (c1:¬ 4096<=i)(c2:¬ 8<q.1)(c3:bz q.2=false)(c4:¬ (q.2.kind<1\/10<q.2.kind))(c5:ce q.2=false):bg i q=3:=by unfold bg;rw[if_neg c1,if_neg c2,if_neg (by rw[c3];simp),if_neg c4,if_pos c5]
theorem Bs (c1:¬ 4096<=i)(c2:¬ 8<q.1)(c3:bz q.2=false)(c4:¬ (q.2.kind<1\/10<q.2.kind))(c5:ce q.2=true):bg i q=bE q.2:=by unfold bg;rw[if_neg c1,if_neg c2,if_neg (by rw[c3];simp),if_neg c4,if_neg (by rw[c5];simp)]
end
def ov:Nat->List (Int×Val)->Int
 | _,[]=>0
 | i,q::r=>if bg i q=0 then ov (i+1) r else bg i q
def Lz (k:Int):Nat:=if k=1 then 268 else if k=2 then 270 else if k=3 then 271 else if k=4 then 273 else if k=5 then 275 else if k=6 then 276 else if k=7 then 277 else if k=8 then 278 else if k=9 then 279 else 280
theorem Ly (v:Val)(h:1<=v.kind/\v.kind<=10):ae Tryz.prog au (Lz v.kind) [v.pv] (.int .i64 (bE v)):=by
 have hc:v.kind=1\/v.kind=2\/v.kind=3\/v.kind=4\/v.kind=5\/v.kind=6\/v.kind=7\/v.kind=8\/v.kind=9\/v.kind=10:=by omega
 rcases hc with h | h | h | h | h | h | h | h | h | h<;>rw[h]
 ·exact LK v h
 ·exact LJ v h
 ·exact LI v h
 ·exact LH v h
 ·exact LG v h
 ·exact LF v h
 ·exact LD v h
 ·exact LC v h
 ·exact LB v h
 ·exact LA v h
theorem kC {n sz r o:Nat}{k:IntKind}{i:Int}(h0:0<=i)(h1:i.toNat<n):iE n sz (.ptr r o) (.pv (.int k i))=some (.ptr r (o+i.toNat*sz)):=if_pos ⟨h0,h1⟩
theorem K5 (x:Val)(h:1<=x.kind/\x.kind<=10):ae Tryz.prog au 244 [x.pv] (.bool (ce x)):=K3 x h
theorem Nv {xs:List (Int×Val)}{i:Nat}{q:Int×Val}(h:xs[i]? = some q):ov i (xs.drop i)=if bg i q=0 then ov (i+1) (xs.drop (i+1)) else bg i q:=by
 have hi:i<xs.length:=(List.getElem?_eq_some_iff.1 h).1
 have he:xs[i]=q:=(List.getElem?_eq_some_iff.1 h).2
 rw[List.drop_eq_getElem_cons hi,he,ov]
theorem vV (n:Nat)(v:Val)(hd:fM n v)(hv:v.ok)(hn:n<=9223372036854775806):ae Tryz.prog au 192 [v.pv] (.int .i64 (ov 0 (dm n 1 v))):=by
 have hseq:=ji n v hd hv hn
 have h243:=kE v
 have h242:=GC
 generalize hxs:dm n 1 v=xs at *
 obtain⟨R,hR⟩:∃ R,R=ov 0 xs:=⟨_,rfl⟩
 rw[<- hR]
 obtain⟨k,a,s,t,l,fs⟩:=v
 simp only[Val.pv_mk,BE] at h243 h242 hseq
 refine ae.intro Tu.2 (by simp[Tu]) ?_
 simp(disch:=try exact dI) only[Tu,Val.pv_mk,push_cast,seval]
 refine ab.pure h242 rfl ?_
 simp(disch:=try exact dI) only[CN,uR,push_cast,seval]
 refine ab.pure h243 rfl ?_
 refine zgZ ?_
 refine JH ([]) (fun i:Nat=>[]) (fun i:Nat=>[(2,.cells 3 true [.pv (.int .i64 (i:Int))])]) (fun j i=>j=i/\i<=4096/\R=ov i (xs.drop i)) (0) (hseq) ?_;intro e0 σ0 n0 h0;simp(disch:=try exact dI) only[push_cast,seval] at h0;obtain⟨rfl,rfl,rfl⟩:=h0;refine⟨?_,?_,?_,?_,?_⟩
 ·exact qsZ
 ·exact⟨rfl,by omega,by simpa using hR⟩
 ·rfl
 ·rintro j i y hy ⟨hij,hj4,hr⟩
  subst hij
  obtain⟨q,hq⟩:∃ q,xs[j]? = some q:=by
   cases h:xs[j]? with
   | none=>simp[h] at hy
   | some q=>exact⟨q,rfl⟩
  have hye:y=AD q:=by simpa[hq] using hy.symm
  subst hye
  rw[Nv hq] at hr
  have hjl:j<xs.length:=(List.getElem?_eq_some_iff.1 hq).1
  obtain⟨lv,x⟩:=q
  have h111:=sK x
  have hrule:=Ly x
  have huse:=K5 x
  obtain⟨k',n',s',t',l',f'⟩:=x
  simp only[Val.pv_mk,Val.kind] at h111 hrule huse
  refine⟨rfl,?_⟩
  simp only[AD,Val.pv_mk]
  clear hy h242 h243 hseq
  by_cases c1:4096<=j
  ·have e:bg j (lv,Val.mk k' n' s' t' l' f')=9:=if_pos c1
   rw[e,if_neg (by omega)] at hr
   subst hr
   exact qsZ
  ·have hj1:¬ (4096:Int)<(j:Int)+1:=by omega
   by_cases c2:8<lv
   ·have e:bg j (lv,Val.mk k' n' s' t' l' f')=23:=Lh c1 c2
    rw[e,if_neg (by omega)] at hr
    subst hr
    exact qsZ
   ·cases c3:bz (Val.mk k' n' s' t' l' f') with
    | true=>
      have e:bg j (lv,Val.mk k' n' s' t' l' f')=19:=Lg c1 c2 c3
      rw[e,if_neg (by omega)] at hr
      subst hr
      rw[c3] at h111
      refine zgZ ?_
      refine ab.pure h111 rfl ?_
      exact qsZ
    | false=>
      rw[c3] at h111
      by_cases c4:k'<1\/10<k'
      ·have e:bg j (lv,Val.mk k' n' s' t' l' f')=11:=Lf c1 c2 c3 c4
       rw[e,if_neg (by omega)] at hr
       subst hr
       rcases c4 with c4 | c4
       ·refine zgZ ?_
        refine ab.pure h111 rfl ?_
        exact qsZ
       ·refine zgZ ?_
        refine ab.pure h111 rfl ?_
        exact qsZ
      ·have huse:=huse (by omega)
       have hrule:=hrule (by omega)
       cases c5:ce (Val.mk k' n' s' t' l' f') with
       | false=>
         have e:bg j (lv,Val.mk k' n' s' t' l' f')=3:=Le c1 c2 c3 c4 c5
         rw[e,if_neg (by omega)] at hr
         subst hr
         rw[c5] at huse
         refine zgZ ?_
         refine ab.pure h111 rfl ?_
         refine zgZ ?_
         refine ab.pure huse rfl ?_
         exact qsZ
       | true=>
         have e:bg j (lv,Val.mk k' n' s' t' l' f')=bE (Val.mk k' n' s' t' l' f'):=Bs c1 c2 c3 c4 c5
         rw[e] at hr
         rw[c5] at huse
         generalize bE (Val.mk k' n' s' t' l' f')=z at hr hrule
         have hkc:([AV.pv PV.nilf,AV.pv (PV.clo 268 [] []),AV.pv (PV.clo 270 [] []),AV.pv (PV.clo 271 [] []),AV.pv (PV.clo 273 [] []),AV.pv (PV.clo 275 [] []),AV.pv (PV.clo 276 [] []),AV.pv (PV.clo 277 [] []),AV.pv (PV.clo 278 [] []),AV.pv (PV.clo 279 [] []),AV.pv (PV.clo 280 [] [])]:List AV)[k'.toNat*1]? = some (.pv (.clo (Lz k') [] [])):=by
          have hc:k'=1\/k'=2\/k'=3\/k'=4\/k'=5\/k'=6\/k'=7\/k'=8\/k'=9\/k'=10:=by omega
          rcases hc with h | h | h | h | h | h | h | h | h | h<;>rw[h]<;>rfl
         generalize Lz k'=rf at hkc hrule
         by_cases hz:z=0
         ·rw[if_pos hz] at hr
          subst hz
          refine zgZ ?_
          refine ab.pure h111 rfl ?_
          refine zgZ ?_
          refine ab.pure huse rfl ?_
          simp(disch:=try exact dI) only[kC,hkc,push_cast,seval]
          refine ab.pure hrule rfl ?_
          refine zgZ ?_
          exact⟨j+1,aR qsZ,rfl,by omega,hr⟩
         ·rw[if_neg hz] at hr
          subst hr
          refine zgZ ?_
          refine ab.pure h111 rfl ?_
          refine zgZ ?_
          refine ab.pure huse rfl ?_
          simp(disch:=try exact dI) only[kC,hkc,push_cast,seval]
          refine ab.pure hrule rfl ?_
          exact qsZ
 ·rintro j ⟨hj,hj4,hr⟩
  simp only[List.length_map] at hj
  subst hj
  rw[List.drop_length] at hr
  rw[show R=0 from hr]
  exact qsZ
theorem Ll (n:Nat)(v:Val)(hd:fM n v)(hv:v.ok)(hn:n<=9223372036854775806)(hs:(dm n 1 v).length<=9223372036854775806):ae Tryz.prog au 194 [v.pv] (.int .i64 ((dm n 1 v).length:Int)):=by
 have hseq:=ji n v hd hv hn
 have h243:=kE v
 generalize hxs:dm n 1 v=xs at *
 obtain⟨k,a,s,t,l,fs⟩:=v
 simp only[Val.pv_mk] at h243 hseq
 refine ae.intro Tt.2 (by simp[Tt]) ?_
 simp(disch:=try exact dI) only[Tt,Val.pv_mk,push_cast,seval]
 refine ab.pure h243 rfl ?_
 refine zgZ ?_
 refine JH ([]) (fun i:Nat=>[]) (fun i:Nat=>[(0,.cells 3 true [.pv (.int .i64 (i:Int))])]) (fun j i=>j=i/\i<=xs.length) (0) (hseq) ?_;intro e0 σ0 n0 h0;simp(disch:=try exact dI) only[push_cast,seval] at h0;obtain⟨rfl,rfl,rfl⟩:=h0;refine⟨?_,?_,?_,?_,?_⟩
 ·exact qsZ
 ·exact⟨rfl,by omega⟩
 ·rfl
 ·rintro j i y hy ⟨hij,hi⟩
  subst hij
  have hjl:j<xs.length:=by
   have:=(List.getElem?_eq_some_iff.1 hy).1
   simpa using this
  obtain⟨q,hq⟩:∃ q,xs[j]? = some q:=⟨_,List.getElem?_eq_getElem hjl⟩
  have hye:y=AD q:=by simpa[hq] using hy.symm
  subst hye
  obtain⟨lv,⟨k',n',s',t',l',f'⟩⟩:=q
  refine⟨rfl,?_⟩
  simp only[AD,Val.pv_mk]
  clear hy h243 hseq
  refine zgZ ?_
  exact⟨j+1,aR qsZ,rfl,by omega⟩
 ·rintro j ⟨hj,hi⟩
  simp only[List.length_map] at hj
  subst hj
  exact qsZ
end Go.Proofs.YtbaaokocnegdoaaGreatDoor
