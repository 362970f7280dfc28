/- A part. -/
import Derived.Test.YtamoeblcphjbaaaGreatDoorTyLR1
set_option linter.unusedVariables false
set_option linter.unusedSimpArgs false
set_option maxHeartbeats 16000000
set_option maxRecDepth 100000
open List renaming getElem?_eq_getElem->WE,getElem?_eq_some_iff->WH,drop_eq_getElem_cons->Xw
open Int renaming add_sub_cancel->XH
namespace Go.Proofs.YtamoeblcphjbaaaGreatDoor
open Go Go.Ab
attribute [local irreducible] vc
def iB (n a b:Int):Int:=if n<a\/b<n then 2 else 0
def fb (n m e:Int):Int:=if m<n then e else 0
def eq:Option (List UInt8)->List (List UInt8)->Int
 | _,[]=>0
 | p,s::r=>if bz s=false then 12 else if p=some s then 7 else if (p.any fun q=>cK s q)=true then 24 else eq (some s) r
def bv:Val->Int
 | .mk k n s t l fs=>
   if k=1 then iB n 0 1
   else if k=2 then iB n (-999999999999999) 999999999999999
   else if k=3 then (if iB n (-999999999999999) 999999999999999=0 then iB s 0 12 else iB n (-999999999999999) 999999999999999)
   else if k=4 then (if fb t.length 1024 5=0 then (if Lib.validD t=true then 0 else 16) else fb t.length 1024 5)
   else if k=5 then fb t.length 1024 5
   else if k=6 then iB n (-719162) 2932896
   else if k=7 then iB n (-62135596800000) 253402300799999
   else if k=8 then fb l.length 256 9
   else if k=9 then (if fb fs.length 64 9=0 then eq none (fs.map Fld.name) else fb fs.length 64 9)
   else if k=10 then (if bz t=false then 12 else if l.length=0 then 4 else fb l.length 1 3)
   else 0
theorem M9 (v:Val)(hk:v.kind=1):am Tryz.prog aC 69 [v.pv] (.int .i64 (bv v)):=by
 obtain⟨k,n,s,t,l,fs⟩:=v
 simp only[Val.kind] at hk;subst hk
 rw[show bv (.mk 1 n s t l fs)=iB n 0 1 from rfl]
 have h:=dT n 0 1
 change am _ _ _ _ (.int .i64 (iB n 0 1)) at h
 generalize iB n 0 1=e at *
 refine am.intro Q69.2 (by simp[Q69]) ?_
 simp(disch:=try exact dI) only[Q69,WD,push_cast,seval]
 refine ae.pure h rfl ?_
 exact qsZ
theorem M8 (v:Val)(hk:v.kind=2):am Tryz.prog aC 71 [v.pv] (.int .i64 (bv v)):=by
 obtain⟨k,n,s,t,l,fs⟩:=v
 simp only[Val.kind] at hk;subst hk
 rw[show bv (.mk 2 n s t l fs)=iB n (-999999999999999) 999999999999999 from rfl]
 have h:=dT n (-999999999999999) 999999999999999
 change am _ _ _ _ (.int .i64 (iB n (-999999999999999) 999999999999999)) at h
 generalize iB n (-999999999999999) 999999999999999=e at *
 refine am.intro Q71.2 (by simp[Q71]) ?_
 simp(disch:=try exact dI) only[Q71,WD,push_cast,seval]
 refine ae.pure h rfl ?_
 exact qsZ
def jv:List Int->Int
 | []=>0
 | a::r=>if a=0 then jv r else a
theorem sk:∀ {L:List Int} {i:Nat} {x:Int},L[i]? = some x->x≠0->(∀ j,j<i->∀ y,L[j]? = some y->y=0)->jv L=x
 | [],i,x,h,_,_=>by simp at h
 | a::r,0,x,h,hx,_=>by simp at h;subst h;exact if_neg hx
 | a::r,i+1,x,h,hx,h0=>by
   have ha:=h0 0 (by omega) a rfl
   subst ha
   rw[jv,if_pos rfl]
   exact sk (by simpa using h) hx fun j hj y hy=>h0 (j+1) (by omega) y (by simpa using hy)
theorem mU:∀ {L:List Int},(∀ (j:Nat) y,L[j]? = some y->y=0)->jv L=0
 | [],_=>rfl
 | a::r,h=>by
   rw[jv,if_pos (h 0 a rfl)]
   exact mU fun j y hy=>h (j+1) y (by simpa using hy)
theorem EW (L:List Int)(hL:L.length<=1000):am Tryz.prog aC 73 [.list (L.map fun n=>.int .i64 n)] (.int .i64 (jv L)):=by
 generalize hr:jv L=e
 refine am.intro Q73.2 (by simp[Q73]) ?_
 simp(disch:=try exact dI) only[Q73,push_cast,seval]
 refine aG ([]) (fun i:Nat=>[(7,.pv (.int .i64 (i:Int)))]) (fun _=>[]) (fun i=>i<=L.length/\(∀ j,j<i->∀ y,L[j]? = some y->y=0)) (fun i=>L.length - i) (0) ?_;intro e0 σ0 n0 h0;simp(disch:=try exact dI) only[push_cast,seval] at h0;obtain⟨rfl,rfl,rfl⟩:=h0;refine⟨?_,?_,?_⟩
 ·exact qsZ
 ·exact⟨by omega,by omega⟩
 rintro i ⟨hi,h0⟩
 by_cases hlt:i<L.length
 ·have hltI:(i:Int)<(L.length:Int):=by omega
  obtain⟨x,hx⟩:∃ x,L[i]? = some x:=⟨_,WE hlt⟩
  have hcp:(L.map fun n=>PV.int .i64 n)[i]? = some (.int .i64 x):=by simp[hx]
  by_cases hx0:x=0
  ·subst hx0
   simp(disch:=try exact dI) only[hcp,push_cast,seval]
   exact⟨i+1,bl qsZ,⟨by omega,fun j hj y hy=>by
    rcases Nat.lt_or_ge j i with h | h
    ·exact h0 j h y hy
    ·have:j=i:=by omega
     subst this
     rw[hx] at hy;exact (Option.some.inj hy).symm⟩,by omega⟩
  ·have:=sk hx hx0 h0
   rw[this] at hr
   subst hr
   simp(disch:=try exact dI) only[hcp,push_cast,seval]
 ·have:=mU (L:=L) fun j y hy=>h0 j (by have:=(WH.1 hy).1;omega) y hy
  rw[this] at hr
  subst hr
  exact qsZ
theorem JE (a b:Int):am Tryz.prog aC 73 [.list [.int .i64 a,.int .i64 b]] (.int .i64 (if a=0 then b else a)):=by
 have:=EW [a,b] (by simp)
 have e:jv [a,b]=if a=0 then b else a:=by
  simp only[jv]
  by_cases hb:b=0
  ·subst hb;simp
  ·simp[hb]
 rw[e] at this
 exact this
theorem M7 (v:Val)(hk:v.kind=3):am Tryz.prog aC 72 [v.pv] (.int .i64 (bv v)):=by
 obtain⟨k,n,s,t,l,fs⟩:=v
 simp only[Val.kind] at hk;subst hk
 rw[show bv (.mk 3 n s t l fs)=(if iB n (-999999999999999) 999999999999999=0 then iB s 0 12 else iB n (-999999999999999) 999999999999999) from rfl]
 have h:=dT n (-999999999999999) 999999999999999
 have h':=dT s 0 12
 change am _ _ _ _ (.int .i64 (iB n (-999999999999999) 999999999999999)) at h
 change am _ _ _ _ (.int .i64 (iB s 0 12)) at h'
 generalize iB n (-999999999999999) 999999999999999=e at *
 generalize iB s 0 12=e' at *
 have h2:=JE e e'
 generalize (if e=0 then e' else e)=e2 at *
 refine am.intro Q72.2 (by simp[Q72]) ?_
 simp(disch:=try exact dI) only[Q72,WD,push_cast,seval]
 refine ag h rfl ?_
 refine zgZ ?_
 refine ae.pure h' rfl ?_
 refine zgZ ?_
 refine ae.pure h2 rfl ?_
 exact qsZ
theorem M5 (v:Val)(hk:v.kind=5):am Tryz.prog aC 77 [v.pv] (.int .i64 (bv v)):=by
 obtain⟨k,n,s,t,l,fs⟩:=v
 simp only[Val.kind] at hk;subst hk
 rw[show bv (.mk 5 n s t l fs)=fb t.length 1024 5 from rfl]
 have h:=lW t.length 1024 5
 change am _ _ _ _ (.int .i64 (fb t.length 1024 5)) at h
 generalize fb t.length 1024 5=e at *
 refine am.intro Q77.2 (by simp[Q77]) ?_
 simp(disch:=try exact dI) only[Q77,WD,push_cast,seval]
 refine ae.pure h rfl ?_
 exact qsZ
theorem M4 (v:Val)(hk:v.kind=6):am Tryz.prog aC 78 [v.pv] (.int .i64 (bv v)):=by
 obtain⟨k,n,s,t,l,fs⟩:=v
 simp only[Val.kind] at hk;subst hk
 rw[show bv (.mk 6 n s t l fs)=iB n (-719162) 2932896 from rfl]
 have h:=dT n (-719162) 2932896
 change am _ _ _ _ (.int .i64 (iB n (-719162) 2932896)) at h
 generalize iB n (-719162) 2932896=e at *
 refine am.intro Q78.2 (by simp[Q78]) ?_
 simp(disch:=try exact dI) only[Q78,WD,push_cast,seval]
 refine ae.pure h rfl ?_
 exact qsZ
theorem M3 (v:Val)(hk:v.kind=7):am Tryz.prog aC 79 [v.pv] (.int .i64 (bv v)):=by
 obtain⟨k,n,s,t,l,fs⟩:=v
 simp only[Val.kind] at hk;subst hk
 rw[show bv (.mk 7 n s t l fs)=iB n (-62135596800000) 253402300799999 from rfl]
 have h:=dT n (-62135596800000) 253402300799999
 change am _ _ _ _ (.int .i64 (iB n (-62135596800000) 253402300799999)) at h
 generalize iB n (-62135596800000) 253402300799999=e at *
 refine am.intro Q79.2 (by simp[Q79]) ?_
 simp(disch:=try exact dI) only[Q79,WD,push_cast,seval]
 refine ae.pure h rfl ?_
 exact qsZ
theorem M2 (v:Val)(hk:v.kind=8):am Tryz.prog aC 80 [v.pv] (.int .i64 (bv v)):=by
 obtain⟨k,n,s,t,l,fs⟩:=v
 simp only[Val.kind] at hk;subst hk
 rw[show bv (.mk 8 n s t l fs)=fb l.length 256 9 from rfl]
 have h:=lW l.length 256 9
 change am _ _ _ _ (.int .i64 (fb l.length 256 9)) at h
 generalize fb l.length 256 9=e at *
 refine am.intro Q80.2 (by simp[Q80]) ?_
 simp(disch:=try exact dI) only[Q80,WD,push_cast,seval]
 refine ae.pure h rfl ?_
 exact qsZ
theorem M6 (v:Val)(hk:v.kind=4):am Tryz.prog aC 74 [v.pv] (.int .i64 (bv v)):=by
 obtain⟨k,n,s,t,l,fs⟩:=v
 simp only[Val.kind] at hk;subst hk
 rw[show bv (.mk 4 n s t l fs)=(if fb t.length 1024 5=0 then (if Lib.validD t=true then 0 else 16) else fb t.length 1024 5) from rfl]
 have h:=lW t.length 1024 5
 have hv:=ic t
 change am _ _ _ _ (.int .i64 (fb t.length 1024 5)) at h
 generalize fb t.length 1024 5=e at *
 refine am.intro Q74.2 (by simp[Q74]) ?_
 by_cases he:e=0
 ·subst he
  rw[if_pos rfl]
  cases hb:Lib.validD t with
  | true=>
    rw[hb] at hv
    rw[if_pos rfl]
    simp(disch:=try exact dI) only[Q74,WD,push_cast,seval]
    refine ae.pure h rfl ?_
    refine zgZ ?_
    refine ae.pure hv rfl ?_
    exact qsZ
  | false=>
    rw[hb] at hv
    rw[if_neg (by simp)]
    simp(disch:=try exact dI) only[Q74,WD,push_cast,seval]
    refine ae.pure h rfl ?_
    refine zgZ ?_
    refine ae.pure hv rfl ?_
    exact qsZ
 ·rw[if_neg he]
  simp(disch:=try exact dI) only[Q74,WD,push_cast,seval]
  refine ae.pure h rfl ?_
  exact qsZ
theorem ue {fs:List (List UInt8)}{i:Nat}{s:List UInt8}(h:fs[i]? = some s)(p:Option (List UInt8)):eq p (fs.drop i)=if bz s=false then 12 else if p=some s then 7 else if (p.any fun q=>cK s q)=true then 24 else eq (some s) (fs.drop (i+1)):=by
 have hi:i<fs.length:=(WH.1 h).1
 have he:fs[i]=s:=(WH.1 h).2
 rw[Xw hi,he,eq]
def tT (fs:List Fld)(i:Nat):Option (List UInt8):=if i=0 then none else (fs[i - 1]?).map Fld.name
theorem M1 (v:Val)(hk:v.kind=9):am Tryz.prog aC 81 [v.pv] (.int .i64 (bv v)):=by
 obtain⟨k,n,s,t,l,fs⟩:=v
 simp only[Val.kind] at hk;subst hk
 rw[show bv (.mk 9 n s t l fs)=(if fb fs.length 64 9=0 then eq none (fs.map Fld.name) else fb fs.length 64 9) from rfl]
 have h:=lW fs.length 64 9
 change am _ _ _ _ (.int .i64 (fb fs.length 64 9)) at h
 by_cases h64:(64:Int)<fs.length
 ·have e:fb fs.length 64 9=9:=if_pos h64
  rw[e] at h ⊢
  rw[if_neg (by omega)]
  refine am.intro Q81.2 (by simp[Q81]) ?_
  simp(disch:=try exact dI) only[Q81,WD,push_cast,seval]
  refine ae.pure h rfl ?_
  exact qsZ
 ·have e:fb fs.length 64 9=0:=if_neg h64
  rw[e] at h ⊢
  rw[if_pos rfl]
  have hfl:fs.length<=64:=by omega
  obtain⟨R,hR⟩:∃ R,R=eq none (fs.map Fld.name):=⟨_,rfl⟩
  rw[<- hR]
  refine am.intro Q81.2 (by simp[Q81]) ?_
  simp(disch:=try exact dI) only[Q81,WD,push_cast,seval]
  refine ae.pure h rfl ?_
  refine zgZ ?_
  refine aG ([]) (fun i:Nat=>[(16,.pv (.int .i64 (i:Int)))]) (fun _=>[]) (fun i=>i<=fs.length/\R=eq (tT fs i) ((fs.map Fld.name).drop i)) (fun i=>fs.length - i) (0) ?_;intro e0 σ0 n0 h0;simp(disch:=try exact dI) only[push_cast,seval] at h0;obtain⟨rfl,rfl,rfl⟩:=h0;refine⟨?_,?_,?_⟩
  ·exact qsZ
  ·exact⟨by omega,by simpa[tT] using hR⟩
  rintro i ⟨hi,hr⟩
  by_cases hlt:i<fs.length
  ·have hltI:(i:Int)<(fs.length:Int):=by omega
   obtain⟨c,hc⟩:∃ c,fs[i]? = some c:=⟨_,WE hlt⟩
   obtain⟨nm,⟨k',n',s',t',l',f'⟩⟩:=c
   have hcp:(fs.map Fld.pv)[i]? = some (.agg [.str nm,.int .i64 k',.int .i64 n',.int .i64 s',.str t',.list (l'.map Val.pv),.list (f'.map Fld.pv)]):=by simp[hc,Wq,WD,ap]
   have hnm:(fs.map Fld.name)[i]? = some nm:=by simp[hc,Fld.name]
   have hn:=mB nm
   rw[ue hnm] at hr
   have hnext:tT fs (i+1)=some nm:=by simp[tT,hc,Fld.name]
   cases hb:bz nm with
   | false=>
     rw[hb] at hn hr
     rw[if_pos rfl] at hr
     subst hr
     simp(disch:=try exact dI) only[hcp,push_cast,seval]
     refine ae.pure hn rfl ?_
     exact qsZ
   | true=>
     rw[hb] at hn hr
     rw[if_neg (by simp)] at hr
     by_cases hi0:i=0
     ·have hiI:¬ (0:Int)<(i:Int):=by omega
      have hpn:tT fs i=none:=if_pos hi0
      rw[hpn,if_neg (by simp),if_neg (by simp),<- hnext] at hr
      simp(disch:=try exact dI) only[hcp,push_cast,seval]
      refine ae.pure hn rfl ?_
      refine zgZ ?_
      exact⟨i+1,bl qsZ,⟨by omega,by rw[List.map_drop];exact hr⟩,by omega⟩
     ·obtain⟨j,rfl⟩:∃ j,i=j+1:=⟨i - 1,by omega⟩
      obtain⟨c,hc'⟩:∃ c,fs[j]? = some c:=⟨_,WE (by omega)⟩
      have hpn:tT fs (j+1)=some c.name:=by simp[tT,hc']
      obtain⟨q,⟨k2,n2,s2,t2,l2,f2⟩⟩:=c
      have hcq:(fs.map Fld.pv)[j]? = some (.agg [.str q,.int .i64 k2,.int .i64 n2,.int .i64 s2,.str t2,.list (l2.map Val.pv),.list (f2.map Fld.pv)]):=by simp[hc',Wq,WD,ap]
      simp only[Fld.name] at hpn
      rw[hpn] at hr
      by_cases hq:nm=q
      ·subst hq
       rw[if_pos rfl] at hr
       subst hr
       simp(disch:=try exact dI) only[hcp,XH,push_cast,seval]
       refine ae.pure hn rfl ?_
       simp(disch:=try exact dI) only[hcq,XH,push_cast,seval]
      ·rw[if_neg (by simpa using fun e=>hq e.symm)] at hr
       cases hlt2:cK nm q with
       | true=>
         rw[if_pos (by simpa using hlt2)] at hr
         subst hr
         simp(disch:=try exact dI) only[hcp,XH,push_cast,seval]
         refine ae.pure hn rfl ?_
         simp(disch:=try exact dI) only[hcq,XH,hq,hlt2,push_cast,seval]
       | false=>
         rw[if_neg (by simp[hlt2]),<- hnext] at hr
         simp(disch:=try exact dI) only[hcp,XH,push_cast,seval]
         refine ae.pure hn rfl ?_
         simp(disch:=try exact dI) only[hcq,XH,hq,hlt2,push_cast,seval]
         exact⟨j+1+1,bl qsZ,⟨by omega,by rw[List.map_drop];exact hr⟩,by omega⟩
  ·have hie:i=fs.length:=by omega
   subst hie
   rw[List.drop_of_length_le (by simp)] at hr
   rw[show R=0 from hr]
   exact qsZ
theorem M0 (v:Val)(hk:v.kind=10):am Tryz.prog aC 83 [v.pv] (.int .i64 (bv v)):=by
 obtain⟨k,n,s,t,l,fs⟩:=v
 simp only[Val.kind] at hk;subst hk
 rw[show bv (.mk 10 n s t l fs)=(if bz t=false then 12 else if l.length=0 then 4 else fb l.length 1 3) from rfl]
 have h:=lW l.length 1 3
 have hn:=mB t
 change am _ _ _ _ (.int .i64 (fb l.length 1 3)) at h
 generalize fb l.length 1 3=e at *
 refine am.intro Q83.2 (by simp[Q83]) ?_
 cases hb:bz t with
 | false=>
   rw[hb] at hn
   rw[if_pos rfl]
   simp(disch:=try exact dI) only[Q83,WD,push_cast,seval]
   refine ae.pure hn rfl ?_
   exact qsZ
 | true=>
   rw[hb] at hn
   rw[if_neg (by simp)]
   by_cases hl:l.length=0
   ·have hlI:(l.length:Int)=0:=by omega
    rw[if_pos hl]
    simp(disch:=try exact dI) only[Q83,WD,push_cast,seval]
    refine ae.pure hn rfl ?_
    exact qsZ
   ·have hlI:¬ (l.length:Int)=0:=by omega
    rw[if_neg hl]
    simp(disch:=try exact dI) only[Q83,WD,push_cast,seval]
    refine ae.pure hn rfl ?_
    refine zgZ ?_
    refine ae.pure h rfl ?_
    exact qsZ
def bM (i:Nat)(q:Int×Val):Int:=
 if 4096<=i then 9 else if 8<q.1 then 23 else if gw q.2=true then 19 else if q.2.kind<1\/10<q.2.kind then 11 else if eA q.2=false then 3 else bv q.2
section
variable {i:Nat}{q:Int×Val}
theorem tx (c1:4096<=i):bM i q=9:=if_pos c1
theorem tw (c1:¬ 4096<=i)(c2:8<q.1):bM i q=23:=by unfold bM;rw[if_neg c1,if_pos c2]
theorem Cc (c1:¬ 4096<=i)(c2:¬ 8<q.1)(c3:gw q.2=true):bM i q=19:=by unfold bM;rw[if_neg c1,if_neg c2,if_pos c3]
theorem Cb (c1:¬ 4096<=i)(c2:¬ 8<q.1)(c3:gw q.2=false)(c4:q.2.kind<1\/10<q.2.kind):bM i q=11:=by unfold bM;rw[if_neg c1,if_neg c2,if_neg (by rw[c3];simp),if_pos c4]
theorem Ca (c1:¬ 4096<=i)(c2:¬ 8<q.1)(c3:gw q.2=false)(c4:¬ (q.2.kind<1\/10<q.2.kind))(c5:eA q.2=false):bM i q=3:=by unfold bM;rw[if_neg c1,if_neg c2,if_neg (by rw[c3];simp),if_neg c4,if_pos c5]
theorem tv (c1:¬ 4096<=i)(c2:¬ 8<q.1)(c3:gw q.2=false)(c4:¬ (q.2.kind<1\/10<q.2.kind))(c5:eA q.2=true):bM i q=bv q.2:=by unfold bM;rw[if_neg c1,if_neg c2,if_neg (by rw[c3];simp),if_neg c4,if_neg (by rw[c5];simp)]
end
def lz:Nat->List (Int×Val)->Int
 | _,[]=>0
 | i,q::r=>if bM i q=0 then lz (i+1) r else bM i q
def MZ (k:Int):Nat:=if k=1 then 69 else if k=2 then 71 else if k=3 then 72 else if k=4 then 74 else if k=5 then 77 else if k=6 then 78 else if k=7 then 79 else if k=8 then 80 else if k=9 then 81 else 83
theorem MY (v:Val)(h:1<=v.kind/\v.kind<=10):am Tryz.prog aC (MZ v.kind) [v.pv] (.int .i64 (bv v)):=by
 have hc:v.kind=1\/v.kind=2\/v.kind=3\/v.kind=4\/v.kind=5\/v.kind=6\/v.kind=7\/v.kind=8\/v.kind=9\/v.kind=10:=by omega
 rcases hc with h | h | h | h | h | h | h | h | h | h<;>rw[h]
 ·exact M9 v h
 ·exact M8 v h
 ·exact M7 v h
 ·exact M6 v h
 ·exact M5 v h
 ·exact M4 v h
 ·exact M3 v h
 ·exact M2 v h
 ·exact M1 v h
 ·exact M0 v h
theorem mg {n sz r o:Nat}{k:IntKind}{i:Int}(h0:0<=i)(h1:i.toNat<n):jT n sz (.ptr r o) (.pv (.int k i))=some (.ptr r (o+i.toNat*sz)):=if_pos ⟨h0,h1⟩
theorem Mx (x:Val)(h:1<=x.kind/\x.kind<=10):am Tryz.prog aC 40 [x.pv] (.bool (eA x)):=Mw x h
theorem O8 {xs:List (Int×Val)}{i:Nat}{q:Int×Val}(h:xs[i]? = some q):lz i (xs.drop i)=if bM i q=0 then lz (i+1) (xs.drop (i+1)) else bM i q:=by
 have hi:i<xs.length:=(WH.1 h).1
 have he:xs[i]=q:=(WH.1 h).2
 rw[Xw hi,he,lz]
theorem lB (n:Nat)(v:Val)(hd:ia n v)(hv:v.ok):am Tryz.prog aC 15 [v.pv] (.int .i64 (lz 0 (bF n 1 v))):=by
 have hseq:=kx n v hd hv
 have h243:=ml v
 have h242:=HJ
 generalize hxs:bF n 1 v=xs at *
 obtain⟨R,hR⟩:∃ R,R=lz 0 xs:=⟨_,rfl⟩
 rw[<- hR]
 obtain⟨k,a,s,t,l,fs⟩:=v
 simp only[WD,Cn] at h243 h242 hseq
 refine am.intro Q15.2 (by simp[Q15]) ?_
 simp(disch:=try exact dI) only[Q15,WD,push_cast,seval]
 refine ae.pure h242 rfl ?_
 simp(disch:=try exact dI) only[Dj,ww,push_cast,seval]
 refine ae.pure h243 rfl ?_
 refine zgZ ?_
 refine KL ([]) (fun i:Nat=>[]) (fun i:Nat=>[(2,.cells 3 true [.pv (.int .i64 (i:Int))])]) (fun j i=>j=i/\i<=4096/\R=lz i (xs.drop i)) (0) (hseq) ?_;intro e0 σ0 n0 h0;simp(disch:=try exact dI) only[push_cast,seval] at h0;obtain⟨rfl,rfl,rfl⟩:=h0;refine⟨?_,?_,?_,?_,?_⟩
 ·exact qsZ
 ·exact⟨rfl,by omega,by simpa using hR⟩
 ·rfl
 ·rintro j i y hy ⟨hij,hj4,hr⟩
  subst hij
  obtain⟨q,hq⟩:∃ q,xs[j]? = some q:=by
   cases h:xs[j]? with
   | none=>simp[h] at hy
   | some q=>exact⟨q,rfl⟩
  have hye:y=Bh q:=by simpa[hq] using hy.symm
  subst hye
  rw[O8 hq] at hr
  have hjl:j<xs.length:=(WH.1 hq).1
  obtain⟨lv,x⟩:=q
  have h111:=NL x
  have hrule:=MY x
  have huse:=Mx x
  obtain⟨k',n',s',t',l',f'⟩:=x
  simp only[WD,Val.kind] at h111 hrule huse
  refine⟨rfl,?_⟩
  simp only[Bh,WD]
  clear hy h242 h243 hseq
  by_cases c1:4096<=j
  ·have e:bM j (lv,Val.mk k' n' s' t' l' f')=9:=if_pos c1
   rw[e,if_neg (by omega)] at hr
   subst hr
   exact qsZ
  ·have hj1:¬ (4096:Int)<(j:Int)+1:=by omega
   by_cases c2:8<lv
   ·have e:bM j (lv,Val.mk k' n' s' t' l' f')=23:=tw c1 c2
    rw[e,if_neg (by omega)] at hr
    subst hr
    exact qsZ
   ·cases c3:gw (Val.mk k' n' s' t' l' f') with
    | true=>
      have e:bM j (lv,Val.mk k' n' s' t' l' f')=19:=Cc c1 c2 c3
      rw[e,if_neg (by omega)] at hr
      subst hr
      rw[c3] at h111
      refine zgZ ?_
      refine ae.pure h111 rfl ?_
      exact qsZ
    | false=>
      rw[c3] at h111
      by_cases c4:k'<1\/10<k'
      ·have e:bM j (lv,Val.mk k' n' s' t' l' f')=11:=Cb c1 c2 c3 c4
       rw[e,if_neg (by omega)] at hr
       subst hr
       rcases c4 with c4 | c4
       ·refine zgZ ?_
        refine ae.pure h111 rfl ?_
        exact qsZ
       ·refine zgZ ?_
        refine ae.pure h111 rfl ?_
        exact qsZ
      ·have huse:=huse (by omega)
       have hrule:=hrule (by omega)
       cases c5:eA (Val.mk k' n' s' t' l' f') with
       | false=>
         have e:bM j (lv,Val.mk k' n' s' t' l' f')=3:=Ca c1 c2 c3 c4 c5
         rw[e,if_neg (by omega)] at hr
         subst hr
         rw[c5] at huse
         refine zgZ ?_
         refine ae.pure h111 rfl ?_
         refine zgZ ?_
         refine ae.pure huse rfl ?_
         exact qsZ
       | true=>
         have e:bM j (lv,Val.mk k' n' s' t' l' f')=bv (Val.mk k' n' s' t' l' f'):=tv c1 c2 c3 c4 c5
         rw[e] at hr
         rw[c5] at huse
         generalize bv (Val.mk k' n' s' t' l' f')=z at hr hrule
         have hkc:([AV.pv PV.nilf,AV.pv (PV.clo 69 [] []),AV.pv (PV.clo 71 [] []),AV.pv (PV.clo 72 [] []),AV.pv (PV.clo 74 [] []),AV.pv (PV.clo 77 [] []),AV.pv (PV.clo 78 [] []),AV.pv (PV.clo 79 [] []),AV.pv (PV.clo 80 [] []),AV.pv (PV.clo 81 [] []),AV.pv (PV.clo 83 [] [])]:List AV)[k'.toNat*1]? = some (.pv (.clo (MZ k') [] [])):=by
          have hc:k'=1\/k'=2\/k'=3\/k'=4\/k'=5\/k'=6\/k'=7\/k'=8\/k'=9\/k'=10:=by omega
          rcases hc with h | h | h | h | h | h | h | h | h | h<;>rw[h]<;>rfl
         generalize MZ k'=rf at hkc hrule
         by_cases hz:z=0
         ·rw[if_pos hz] at hr
          subst hz
          refine zgZ ?_
          refine ae.pure h111 rfl ?_
          refine zgZ ?_
          refine ae.pure huse rfl ?_
          simp(disch:=try exact dI) only[mg,hkc,push_cast,seval]
          refine ae.pure hrule rfl ?_
          refine zgZ ?_
          exact⟨j+1,bl qsZ,rfl,by omega,hr⟩
         ·rw[if_neg hz] at hr
          subst hr
          refine zgZ ?_
          refine ae.pure h111 rfl ?_
          refine zgZ ?_
          refine ae.pure huse rfl ?_
          simp(disch:=try exact dI) only[mg,hkc,push_cast,seval]
          refine ae.pure hrule rfl ?_
          exact qsZ
 ·rintro j ⟨hj,hj4,hr⟩
  simp only[List.length_map] at hj
  subst hj
  rw[List.drop_length] at hr
  rw[show R=0 from hr]
  exact qsZ
structure Tk where
 kind:Int:=0
 pos:Nat:=0
 text:List UInt8:=[]
 bytes:List UInt8:=[]
 num:Int:=0
 sc:Nat:=0
 dec:Bool:=false
 exa:Bool:=false
structure Rd where
 s:List UInt8
 next:Nat
 now:Tk
 e:Int
 off:Nat
def ba (R:Rd)(i:Nat)(e:Int):Rd:=if R.e=0 then { R with e:=e,off:=i } else R
def aW (c:UInt8):Bool:=decide (c.toNat=32)||decide (c.toNat=9)||decide (c.toNat=13)||decide (c.toNat=10)
def aY (c:UInt8):Bool:=(decide (97<=c.toNat)&&decide (c.toNat<=122))||(decide (65<=c.toNat)&&decide (c.toNat<=90))
def db (c:UInt8):Bool:=aY c||isD c||decide (c.toNat=95)
def vP (c:UInt8):Bool:=decide (c∈([91,93,123,125,40,41,58,44,61,63,124]:List UInt8))
def bR (p:UInt8->Bool)(s:List UInt8)(i:Nat):Nat:=i+((s.drop i).takeWhile p).length
def r8 (c:UInt8):Option Nat:=
 if 48<=c.toNat/\c.toNat<=57 then some (c.toNat - 48) else if 97<=c.toNat/\c.toNat<=102 then some (c.toNat - 87)
 else if 65<=c.toNat/\c.toNat<=70 then some (c.toNat - 55) else none
def nH:Nat->List UInt8->Option Nat
 | n,[]=>some n
 | n,c::r=>match r8 c with
   | none=>none
   | some d=>nH (16*n+d) r
def gu (n:Nat):Option (List UInt8):=if n<=1114111/\¬ (55296<=n/\n<=57343) then some (Go.Utf8.encode (n:Int)).data.toList else none
def sY (c:UInt8):Option UInt8:=
 if c.toNat=34 then some 34 else if c.toNat=92 then some 92 else if c.toNat=110 then some 10 else if c.toNat=114 then some 13 else if c.toNat=116 then some 9 else none
def JT (r:List UInt8):(List UInt8×Nat)×Int:=
 match ki 125 r with
 | none=>(([],0),13)
 | some q=>
   if q.1.length<1\/6<q.1.length then (([],0),13)
   else match nH 0 q.1 with
    | none=>(([],0),13)
    | some n=>match gu n with
      | none=>(([],0),16)
      | some t=>((t,q.1.length+3),0)
def ke (s:List UInt8):(List UInt8×Nat)×Int:=
 match s with
 | []=>(([],0),13)
 | c::r=>match sY c with
   | some b=>(([b],1),0)
   | none=>if ii [117,123] (c::r)=true then JT ((c::r).drop 2) else (([],0),13)
inductive Sc where
 | done (out:List UInt8) (next:Nat)
 | bad (i:Nat) (e:Int)
 | short
def kK:Nat->List UInt8->Nat->List UInt8->Sc
 | 0,_,_,_=>.short
 | _,[],_,_=>.short
 | f+1,c::r,i,out=>
   if c.toNat=34 then .done out (i+1) else if c.toNat<32\/c.toNat=127 then .bad i 6
   else if c.toNat=92 then
    (if r=[] then .short else if (ke r).2=0 then kK f (r.drop (ke r).1.2) (i+1+(ke r).1.2) (out++(ke r).1.1) else .bad i (ke r).2)
   else kK f r (i+1) (out++[c])
def kQ:List UInt8->Nat->Option Nat->List UInt8->Sc
 | [],_,_,_=>.short
 | c::r,i,odd,out=>
   if c.toNat=34/\odd=none then .done out (i+1)
   else match r8 c with
    | none=>.bad i 13
    | some n=>match odd with
      | none=>kQ r (i+1) (some n) out
      | some o=>kQ r (i+1) none (out++[UInt8.ofNat (16*o+n)])
def bT (R:Rd)(i:Nat)(k:Int)(v:Bool):Sc->Rd
 | .short=>ba R i 4
 | .bad j e=>ba R j e
 | .done out j=>
   let R1:=if v=true/\Lib.validD out=false then ba R i 16 else R
   { R1 with now:={ R1.now with kind:=k,bytes:=out },next:=j }
def vT (R:Rd)(i:Nat):Rd:=bT R i 3 true (kK (R.s.length+1) (R.s.drop (i+1)) (i+1) [])
def xm (R:Rd)(i:Nat):Rd:=bT R i 4 false (kQ (R.s.drop (i+2)) (i+2) none [])
def fK (s:List UInt8):List UInt8:=if s.getLast? = some 100 then s.dropLast else s
def ub (s:List UInt8)(z:Nat):Nat×Bool×Bool:=
 if s[z]? = some 46/\(s[z+1]?.any isD)=true then (bR isD s (z+1),true,false) else if s[z]? = some 100 then (z+1,true,true) else (z,false,false)
def rC (R:Rd)(i:Nat):Rd:=
 let a:=if R.s[i]? = some 45 then i+1 else i
 let z:=bR isD R.s a
 if z=a then ba R i 13
 else
  let p:=ub R.s z
  let q:=bC (fK ((R.s.take p.1).drop i))
  let R1:={ R with next:=p.1,now:={ R.now with dec:=p.2.1,exa:=p.2.2 } }
  let R2:=if q.2=0 then R1 else ba R1 i q.2
  { R2 with now:={ R2.now with kind:=2,num:=q.1.1,sc:=q.1.2 } }
def fc (R:Rd)(i:Nat)(c:UInt8):Rd:=
 if c.toNat=34 then vT R i
 else if c.toNat=120/\R.s[i+1]? = some 34 then xm R i
 else if aY c=true then { R with next:=bR db R.s i,now:={ R.now with kind:=1 } }
 else if isD c=true\/c.toNat=45 then rC R i
 else if c.toNat=46/\R.s[i+1]? = some 46 then { R with next:=i+2,now:={ R.now with kind:=5 } }
 else if vP c=true then { R with next:=i+1,now:={ R.now with kind:=5 } }
 else ba R i 13
def dH (R:Rd)(i:Nat):Rd:=if R.e=0 then { R with now:={ R.now with text:=(R.s.take R.next).drop i } } else R
def bi (R:Rd):Rd:=
 if R.e=0 then
  let i:=bR aW R.s R.next
  let R1:={ R with now:={ pos:=i },next:=i }
  match R.s[i]? with
  | none=>R1
  | some c=>dH (fc R1 i c) i
 else R
def isT (R:Rd)(t:List UInt8):Bool:=decide (R.e=0)&&(decide (R.now.kind=5)||decide (R.now.kind=1))&&decide (R.now.text=t)
def bE (R:Rd)(t:List UInt8):Bool×Rd:=if isT R t=true then (true,bi R) else (false,R)
def aw (R:Rd)(t:List UInt8):Rd:=if R.e=0 then (if isT R t=true then bi R else ba R R.now.pos 13) else R
def bV (R:Rd)(k:Int):Tk×Rd:=
 let R1:=if R.e=0/\R.now.kind≠k then ba R R.now.pos 13 else R
 if R1.e=0 then (R1.now,bi R1) else ({},R1)
def fX (R:Rd):List UInt8×Rd:=
 let p:=bV R 1
 (p.1.text,if p.2.e=0/\bz p.1.text=false then ba p.2 p.1.pos 12 else p.2)
def aR (R:Rd)(parse:List UInt8->Int×Int):Int×Rd:=
 let p:=bV R 3
 if p.2.e=0 then ((parse p.1.bytes).1,if (parse p.1.bytes).2=0 then p.2 else ba p.2 p.1.pos (parse p.1.bytes).2) else (0,p.2)
def b9:Val:=.mk 0 0 0 [] [] []
def fB (val:Rd->Val×Rd):Nat->Bool->List Val->Rd->List Val×Rd
 | 0,_,l,R=>(l,R)
 | k+1,first,l,R=>
   if R.e=0/\isT R [93]=false then
    let p:=val (if first=true then R else aw R [44])
    fB val k false (l++[p.1]) p.2
   else (l,R)
def pl (val:Rd->Val×Rd):Nat->Bool->List (List UInt8)->List Fld->Rd->List Fld×Rd
 | 0,_,_,l,R=>(l,R)
 | k+1,first,seen,l,R=>
   if R.e=0/\isT R [125]=false then
    let R1:=if first=true then R else aw R [44]
    let p:=fX R1
    let R2:=if p.2.e=0/\p.1∈seen then ba p.2 R1.now.pos 7 else p.2
    let q:=val (aw R2 [58])
    pl val k false (Km seen p.1) (l++[.mk p.1 q.1]) q.2
   else (l,R)
def dc (val:Rd->Val×Rd)(R:Rd)(t:Tk)(d:Nat):Val×Rd:=
 if R.e=0 then
  if isT R [40]=true then
   (if bz t.text=false then (b9,ba R t.pos 12)
   else
    let p:=val (bi R)
    (.mk 10 0 0 t.text [p.1] [],aw p.2 [41]))
  else if t.text=[116,114,117,101] then (.mk 1 1 0 [] [] [],R)
  else if t.text=[102,97,108,115,101] then (.mk 1 0 0 [] [] [],R)
  else if t.text=[100,97,116,101] then
   let p:=aR R bU
   (.mk 6 p.1 0 [] [] [],p.2)
  else if t.text=[116,105,109,101] then
   let p:=aR R bG
   (.mk 7 p.1 0 [] [] [],p.2)
  else if t.text=[110,117,108,108]/\d=0 then (b9,R)
  else (b9,ba R t.pos 13)
 else (b9,R)
def aS (sort:List Fld->List Fld):Nat->Nat->Rd->Val×Rd
 | f,d,R=>
   if R.e=0 then
    let t:=R.now
    if t.kind≠2/\t.kind≠3/\t.kind≠4/\t.kind≠1/\t.text≠[91]/\t.text≠[123] then (b9,ba R t.pos 13)
    else match f with
     | 0=>(b9,ba R t.pos 23)
     | f+1=>
       let R1:=bi R
       if t.kind=2/\t.dec=true then (.mk 3 t.num t.sc [] [] [],R1)
       else if t.kind=2 then (.mk 2 t.num 0 [] [] [],R1)
       else if t.kind=3 then (.mk 4 0 0 t.bytes [] [],R1)
       else if t.kind=4 then (.mk 5 0 0 t.bytes [] [],R1)
       else if t.text=[91] then
        let p:=fB (aS sort f (d+1)) (R.s.length+2) true [] R1
        (.mk 8 0 0 [] p.1 [],aw p.2 [93])
       else if t.text=[123] then
        let p:=pl (aS sort f (d+1)) (R.s.length+2) true [] [] R1
        (.mk 9 0 0 [] [] (sort p.1),aw p.2 [125])
       else dc (aS sort f (d+1)) R1 t d
   else (b9,R)
def cL (s:List UInt8):Rd:=
 let R:Rd:=⟨s,0,{},0,0⟩
 bi (if 65536<s.length then ba R 0 5 else R)
def ka (R:Rd):Rd:=if R.e=0/\R.now.kind≠0 then ba R R.now.pos 13 else R
