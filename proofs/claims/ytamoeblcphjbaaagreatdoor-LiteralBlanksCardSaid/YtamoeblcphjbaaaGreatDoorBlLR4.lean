/- A part. -/
import Derived.Test.YtamoeblcphjbaaaGreatDoorBlLR1
set_option linter.unusedVariables false
set_option linter.unusedSimpArgs false
set_option maxHeartbeats 16000000
set_option maxRecDepth 100000
open List renaming getElem?_eq_getElem->Uo,getElem?_eq_some_iff->Up,drop_eq_getElem_cons->Vb
open Int renaming add_sub_cancel->Vk
namespace Go.Proofs.YtamoeblcphjbaaaGreatDoor
open Go Go.Ab
attribute [local irreducible] vc
theorem mT (e:List (Nat×AV))(σ:List (Nat×Blk))(new:Nat)(x:AX):jY e σ new (.ofStr x)=lh new (evE e x):=_root_.id rfl
theorem pQ (new:Nat){k:List UInt8}(h:k.length<=140737488355328):lh new (.pv (.str k))=some (.pv (.list (aC k)),[(new,.none)]):=by simp only[lh];rw[if_pos h]
def CE (c:UInt8):Bool:=decide (97<=c.toNat)&&decide (c.toNat<=122)
def okC (c:UInt8):Bool:=CE c||(decide (48<=c.toNat)&&decide (c.toNat<=57))||decide (c.toNat=95)
def dD (s:List UInt8):Bool:=decide (0<s.length)&&(decide (s.length<=32)&&(CE (s.headD 0)&&s.all okC))
theorem y8 (s:List UInt8):(aC s).length=s.length:=by simp[aC]
theorem rq {s:List UInt8}{i:Nat}{c:UInt8}(h:s[i]? = some c):(aC s)[i]? = some (.int .u8 (c.toNat:Int)):=by simp[aC,h]
theorem Ii {s:List UInt8}{i:Nat}{c:UInt8}(h:s[i]? = some c):(s.take (i+1)).all okC=((s.take i).all okC&&okC c):=by rw[bc h];simp
theorem tJ {s:List UInt8}{i:Nat}{c:UInt8}(h:s[i]? = some c)(hc:okC c=false):s.all okC=false:=by
 rw[Bool.eq_false_iff]
 intro ha
 have:=List.all_eq_true.1 ha c (List.mem_of_getElem? h)
 rw[hc] at this;cases this
theorem lF (s:List UInt8):au Tryz.prog aH 82 [.str s] (.bool (dD s)):=by
 cases s with
 | nil=>
   rw[show dD []=false from rfl]
   refine au.intro Q82.2 (by simp[Q82]) ?_
   simp(disch:=try exact dI) only[Q82,push_cast,seval]
 | cons c r=>
   generalize hs:c::r=s
   have hne:¬ s=[]:=by rw[<- hs];simp
   have h0:s[0]? = some c:=by rw[<- hs];rfl
   have hh:s.headD 0=c:=by rw[<- hs];rfl
   have hlen:0<s.length:=by rw[<- hs];simp
   clear hs
   refine au.intro Q82.2 (by simp[Q82]) ?_
   by_cases h32:s.length<=32
   ·by_cases ha:97<=c.toNat
    ·by_cases hz:c.toNat<=122
     ·have e:dD s=s.all okC:=by simp only[dD,hh,CE,decide_eq_true hlen,decide_eq_true h32,decide_eq_true ha,decide_eq_true hz,Bool.true_and]
      rw[e]
      simp(disch:=try exact dI) only[Q82,hne,h0,ag,mT,pQ,y8,push_cast,seval]
      refine aK ([]) (fun i:Nat=>[(25,.pv (.int .i64 (i:Int)))]) (fun _=>[]) (fun i=>i<=s.length/\(s.take i).all okC=true) (fun i=>s.length - i) (0) ?_;intro e0 σ0 n0 h0;simp(disch:=try exact dI) only[push_cast,seval] at h0;obtain⟨rfl,rfl,rfl⟩:=h0;refine⟨?_,?_,?_⟩
      ·exact qsZ
      ·exact⟨by omega,by simp⟩
      rintro i ⟨hi,hall⟩
      by_cases hlt:i<s.length
      ·have hltI:(i:Int)<(s.length:Int):=by omega
       obtain⟨b,hb⟩:∃ b,s[i]? = some b:=⟨_,Uo hlt⟩
       have hbp:=rq hb
       have hbn:=b.toNat_lt
       have hsn:=Ii hb
       rw[hall,Bool.true_and] at hsn
       have hc:b.toNat<48\/(48<=b.toNat/\b.toNat<=57)\/(57<b.toNat/\b.toNat<97/\b.toNat≠95)\/b.toNat=95\/(97<=b.toNat/\b.toNat<=122)\/122<b.toNat:=by omega
       rcases hc with hc | hc | hc | hc | hc | hc
       ·have hbad:s.all okC=false:=tJ hb (by simp[okC,CE];omega)
        rw[hbad]
        simp(disch:=try exact dI) only[hbp,push_cast,seval]
       ·have hok:okC b=true:=by simp[okC,CE];omega
        simp(disch:=try exact dI) only[hbp,push_cast,seval]
        exact⟨i+1,bu qsZ,⟨by omega,by rw[hsn,hok]⟩,by omega⟩
       ·have hbad:s.all okC=false:=tJ hb (by simp[okC,CE];omega)
        rw[hbad]
        simp(disch:=try exact dI) only[hbp,push_cast,seval]
       ·have hok:okC b=true:=by simp[okC,CE];omega
        simp(disch:=try exact dI) only[hbp,push_cast,seval]
        exact⟨i+1,bu qsZ,⟨by omega,by rw[hsn,hok]⟩,by omega⟩
       ·have hok:okC b=true:=by simp[okC,CE];omega
        simp(disch:=try exact dI) only[hbp,push_cast,seval]
        exact⟨i+1,bu qsZ,⟨by omega,by rw[hsn,hok]⟩,by omega⟩
       ·have hbad:s.all okC=false:=tJ hb (by simp[okC,CE];omega)
        rw[hbad]
        simp(disch:=try exact dI) only[hbp,push_cast,seval]
      ·have he:s.take i=s:=List.take_of_length_le (by omega)
       rw[he] at hall
       rw[hall]
       exact qsZ
     ·have e:dD s=false:=by simp only[dD,hh,CE,decide_eq_false hz,Bool.and_false,Bool.false_and]
      rw[e]
      simp(disch:=try exact dI) only[Q82,hne,h0,ag,push_cast,seval]
    ·have e:dD s=false:=by simp only[dD,hh,CE,decide_eq_false ha,Bool.and_false,Bool.false_and]
     rw[e]
     simp(disch:=try exact dI) only[Q82,hne,h0,ag,push_cast,seval]
   ·have e:dD s=false:=by simp[dD,h32]
    rw[e]
    simp(disch:=try exact dI) only[Q82,hne,push_cast,seval]
def jK (n a b:Int):Int:=if n<a\/b<n then 2 else 0
def jr (n m e:Int):Int:=if m<n then e else 0
def jM:Option (List UInt8)->List (List UInt8)->Int
 | _,[]=>0
 | p,s::r=>if dD s=false then 12 else if p=some s then 7 else if (p.any fun q=>du s q)=true then 24 else jM (some s) r
def cx:Val->Int
 | .mk k n s t l fs=>
   if k=1 then jK n 0 1
   else if k=2 then jK n (-999999999999999) 999999999999999
   else if k=3 then (if jK n (-999999999999999) 999999999999999=0 then jK s 0 12 else jK n (-999999999999999) 999999999999999)
   else if k=4 then (if jr t.length 1024 5=0 then (if Lib.validD t=true then 0 else 16) else jr t.length 1024 5)
   else if k=5 then jr t.length 1024 5
   else if k=6 then jK n (-719162) 2932896
   else if k=7 then jK n (-62135596800000) 253402300799999
   else if k=8 then jr l.length 256 9
   else if k=9 then (if jr fs.length 64 9=0 then jM none (fs.map Fld.name) else jr fs.length 64 9)
   else if k=10 then (if dD t=false then 12 else if l.length=0 then 4 else jr l.length 1 3)
   else 0
theorem KP (v:Val)(hk:v.kind=1):au Tryz.prog aH 69 [v.pv] (.int .i64 (cx v)):=by
 obtain⟨k,n,s,t,l,fs⟩:=v
 simp only[Val.kind] at hk;subst hk
 rw[show cx (.mk 1 n s t l fs)=jK n 0 1 from rfl]
 have h:=dJ n 0 1
 change au _ _ _ _ (.int .i64 (jK n 0 1)) at h
 generalize jK n 0 1=e at *
 refine au.intro Q69.2 (by simp[Q69]) ?_
 simp(disch:=try exact dI) only[Q69,Un,push_cast,seval]
 refine ae.pure h rfl ?_
 exact qsZ
theorem KO (v:Val)(hk:v.kind=2):au Tryz.prog aH 71 [v.pv] (.int .i64 (cx v)):=by
 obtain⟨k,n,s,t,l,fs⟩:=v
 simp only[Val.kind] at hk;subst hk
 rw[show cx (.mk 2 n s t l fs)=jK n (-999999999999999) 999999999999999 from rfl]
 have h:=dJ n (-999999999999999) 999999999999999
 change au _ _ _ _ (.int .i64 (jK n (-999999999999999) 999999999999999)) at h
 generalize jK n (-999999999999999) 999999999999999=e at *
 refine au.intro Q71.2 (by simp[Q71]) ?_
 simp(disch:=try exact dI) only[Q71,Un,push_cast,seval]
 refine ae.pure h rfl ?_
 exact qsZ
def iO:List Int->Int
 | []=>0
 | a::r=>if a=0 then iO r else a
theorem qV:∀ {L:List Int} {i:Nat} {x:Int},L[i]? = some x->x≠0->(∀ j,j<i->∀ y,L[j]? = some y->y=0)->iO L=x
 | [],i,x,h,_,_=>by simp at h
 | a::r,0,x,h,hx,_=>by simp at h;subst h;exact if_neg hx
 | a::r,i+1,x,h,hx,h0=>by
   have ha:=h0 0 (by omega) a rfl
   subst ha
   rw[iO,if_pos rfl]
   exact qV (by simpa using h) hx fun j hj y hy=>h0 (j+1) (by omega) y (by simpa using hy)
theorem l7:∀ {L:List Int},(∀ (j:Nat) y,L[j]? = some y->y=0)->iO L=0
 | [],_=>rfl
 | a::r,h=>by
   rw[iO,if_pos (h 0 a rfl)]
   exact l7 fun j y hy=>h (j+1) y (by simpa using hy)
theorem Dq (L:List Int)(hL:L.length<=1000):au Tryz.prog aH 73 [.list (L.map fun n=>.int .i64 n)] (.int .i64 (iO L)):=by
 generalize hr:iO L=e
 refine au.intro Q73.2 (by simp[Q73]) ?_
 simp(disch:=try exact dI) only[Q73,push_cast,seval]
 refine aK ([]) (fun i:Nat=>[(7,.pv (.int .i64 (i:Int)))]) (fun _=>[]) (fun i=>i<=L.length/\(∀ j,j<i->∀ y,L[j]? = some y->y=0)) (fun i=>L.length - i) (0) ?_;intro e0 σ0 n0 h0;simp(disch:=try exact dI) only[push_cast,seval] at h0;obtain⟨rfl,rfl,rfl⟩:=h0;refine⟨?_,?_,?_⟩
 ·exact qsZ
 ·exact⟨by omega,by omega⟩
 rintro i ⟨hi,h0⟩
 by_cases hlt:i<L.length
 ·have hltI:(i:Int)<(L.length:Int):=by omega
  obtain⟨x,hx⟩:∃ x,L[i]? = some x:=⟨_,Uo hlt⟩
  have hcp:(L.map fun n=>PV.int .i64 n)[i]? = some (.int .i64 x):=by simp[hx]
  by_cases hx0:x=0
  ·subst hx0
   simp(disch:=try exact dI) only[hcp,push_cast,seval]
   exact⟨i+1,bu qsZ,⟨by omega,fun j hj y hy=>by
    rcases Nat.lt_or_ge j i with h | h
    ·exact h0 j h y hy
    ·have:j=i:=by omega
     subst this
     rw[hx] at hy;exact (Option.some.inj hy).symm⟩,by omega⟩
  ·have:=qV hx hx0 h0
   rw[this] at hr
   subst hr
   simp(disch:=try exact dI) only[hcp,push_cast,seval]
 ·have:=l7 (L:=L) fun j y hy=>h0 j (by have:=(Up.1 hy).1;omega) y hy
  rw[this] at hr
  subst hr
  exact qsZ
theorem HB (a b:Int):au Tryz.prog aH 73 [.list [.int .i64 a,.int .i64 b]] (.int .i64 (if a=0 then b else a)):=by
 have:=Dq [a,b] (by simp)
 have e:iO [a,b]=if a=0 then b else a:=by
  simp only[iO]
  by_cases hb:b=0
  ·subst hb;simp
  ·simp[hb]
 rw[e] at this
 exact this
theorem KN (v:Val)(hk:v.kind=3):au Tryz.prog aH 72 [v.pv] (.int .i64 (cx v)):=by
 obtain⟨k,n,s,t,l,fs⟩:=v
 simp only[Val.kind] at hk;subst hk
 rw[show cx (.mk 3 n s t l fs)=(if jK n (-999999999999999) 999999999999999=0 then jK s 0 12 else jK n (-999999999999999) 999999999999999) from rfl]
 have h:=dJ n (-999999999999999) 999999999999999
 have h':=dJ s 0 12
 change au _ _ _ _ (.int .i64 (jK n (-999999999999999) 999999999999999)) at h
 change au _ _ _ _ (.int .i64 (jK s 0 12)) at h'
 generalize jK n (-999999999999999) 999999999999999=e at *
 generalize jK s 0 12=e' at *
 have h2:=HB e e'
 generalize (if e=0 then e' else e)=e2 at *
 refine au.intro Q72.2 (by simp[Q72]) ?_
 simp(disch:=try exact dI) only[Q72,Un,push_cast,seval]
 refine ap h rfl ?_
 refine zgZ ?_
 refine ae.pure h' rfl ?_
 refine zgZ ?_
 refine ae.pure h2 rfl ?_
 exact qsZ
theorem KL (v:Val)(hk:v.kind=5):au Tryz.prog aH 77 [v.pv] (.int .i64 (cx v)):=by
 obtain⟨k,n,s,t,l,fs⟩:=v
 simp only[Val.kind] at hk;subst hk
 rw[show cx (.mk 5 n s t l fs)=jr t.length 1024 5 from rfl]
 have h:=kY t.length 1024 5
 change au _ _ _ _ (.int .i64 (jr t.length 1024 5)) at h
 generalize jr t.length 1024 5=e at *
 refine au.intro Q77.2 (by simp[Q77]) ?_
 simp(disch:=try exact dI) only[Q77,Un,push_cast,seval]
 refine ae.pure h rfl ?_
 exact qsZ
theorem KK (v:Val)(hk:v.kind=6):au Tryz.prog aH 78 [v.pv] (.int .i64 (cx v)):=by
 obtain⟨k,n,s,t,l,fs⟩:=v
 simp only[Val.kind] at hk;subst hk
 rw[show cx (.mk 6 n s t l fs)=jK n (-719162) 2932896 from rfl]
 have h:=dJ n (-719162) 2932896
 change au _ _ _ _ (.int .i64 (jK n (-719162) 2932896)) at h
 generalize jK n (-719162) 2932896=e at *
 refine au.intro Q78.2 (by simp[Q78]) ?_
 simp(disch:=try exact dI) only[Q78,Un,push_cast,seval]
 refine ae.pure h rfl ?_
 exact qsZ
theorem KJ (v:Val)(hk:v.kind=7):au Tryz.prog aH 79 [v.pv] (.int .i64 (cx v)):=by
 obtain⟨k,n,s,t,l,fs⟩:=v
 simp only[Val.kind] at hk;subst hk
 rw[show cx (.mk 7 n s t l fs)=jK n (-62135596800000) 253402300799999 from rfl]
 have h:=dJ n (-62135596800000) 253402300799999
 change au _ _ _ _ (.int .i64 (jK n (-62135596800000) 253402300799999)) at h
 generalize jK n (-62135596800000) 253402300799999=e at *
 refine au.intro Q79.2 (by simp[Q79]) ?_
 simp(disch:=try exact dI) only[Q79,Un,push_cast,seval]
 refine ae.pure h rfl ?_
 exact qsZ
theorem KI (v:Val)(hk:v.kind=8):au Tryz.prog aH 80 [v.pv] (.int .i64 (cx v)):=by
 obtain⟨k,n,s,t,l,fs⟩:=v
 simp only[Val.kind] at hk;subst hk
 rw[show cx (.mk 8 n s t l fs)=jr l.length 256 9 from rfl]
 have h:=kY l.length 256 9
 change au _ _ _ _ (.int .i64 (jr l.length 256 9)) at h
 generalize jr l.length 256 9=e at *
 refine au.intro Q80.2 (by simp[Q80]) ?_
 simp(disch:=try exact dI) only[Q80,Un,push_cast,seval]
 refine ae.pure h rfl ?_
 exact qsZ
theorem KM (v:Val)(hk:v.kind=4):au Tryz.prog aH 74 [v.pv] (.int .i64 (cx v)):=by
 obtain⟨k,n,s,t,l,fs⟩:=v
 simp only[Val.kind] at hk;subst hk
 rw[show cx (.mk 4 n s t l fs)=(if jr t.length 1024 5=0 then (if Lib.validD t=true then 0 else 16) else jr t.length 1024 5) from rfl]
 have h:=kY t.length 1024 5
 have hv:=gz t
 change au _ _ _ _ (.int .i64 (jr t.length 1024 5)) at h
 generalize jr t.length 1024 5=e at *
 refine au.intro Q74.2 (by simp[Q74]) ?_
 by_cases he:e=0
 ·subst he
  rw[if_pos rfl]
  cases hb:Lib.validD t with
  | true=>
    rw[hb] at hv
    rw[if_pos rfl]
    simp(disch:=try exact dI) only[Q74,Un,push_cast,seval]
    refine ae.pure h rfl ?_
    refine zgZ ?_
    refine ae.pure hv rfl ?_
    exact qsZ
  | false=>
    rw[hb] at hv
    rw[if_neg (by simp)]
    simp(disch:=try exact dI) only[Q74,Un,push_cast,seval]
    refine ae.pure h rfl ?_
    refine zgZ ?_
    refine ae.pure hv rfl ?_
    exact qsZ
 ·rw[if_neg he]
  simp(disch:=try exact dI) only[Q74,Un,push_cast,seval]
  refine ae.pure h rfl ?_
  exact qsZ
theorem sM {fs:List (List UInt8)}{i:Nat}{s:List UInt8}(h:fs[i]? = some s)(p:Option (List UInt8)):jM p (fs.drop i)=if dD s=false then 12 else if p=some s then 7 else if (p.any fun q=>du s q)=true then 24 else jM (some s) (fs.drop (i+1)):=by
 have hi:i<fs.length:=(Up.1 h).1
 have he:fs[i]=s:=(Up.1 h).2
 rw[Vb hi,he,jM]
def sD (fs:List Fld)(i:Nat):Option (List UInt8):=if i=0 then none else (fs[i - 1]?).map Fld.name
theorem KH (v:Val)(hk:v.kind=9):au Tryz.prog aH 81 [v.pv] (.int .i64 (cx v)):=by
 obtain⟨k,n,s,t,l,fs⟩:=v
 simp only[Val.kind] at hk;subst hk
 rw[show cx (.mk 9 n s t l fs)=(if jr fs.length 64 9=0 then jM none (fs.map Fld.name) else jr fs.length 64 9) from rfl]
 have h:=kY fs.length 64 9
 change au _ _ _ _ (.int .i64 (jr fs.length 64 9)) at h
 by_cases h64:(64:Int)<fs.length
 ·have e:jr fs.length 64 9=9:=if_pos h64
  rw[e] at h ⊢
  rw[if_neg (by omega)]
  refine au.intro Q81.2 (by simp[Q81]) ?_
  simp(disch:=try exact dI) only[Q81,Un,push_cast,seval]
  refine ae.pure h rfl ?_
  exact qsZ
 ·have e:jr fs.length 64 9=0:=if_neg h64
  rw[e] at h ⊢
  rw[if_pos rfl]
  have hfl:fs.length<=64:=by omega
  obtain⟨R,hR⟩:∃ R,R=jM none (fs.map Fld.name):=⟨_,rfl⟩
  rw[<- hR]
  refine au.intro Q81.2 (by simp[Q81]) ?_
  simp(disch:=try exact dI) only[Q81,Un,push_cast,seval]
  refine ae.pure h rfl ?_
  refine zgZ ?_
  refine aK ([]) (fun i:Nat=>[(16,.pv (.int .i64 (i:Int)))]) (fun _=>[]) (fun i=>i<=fs.length/\R=jM (sD fs i) ((fs.map Fld.name).drop i)) (fun i=>fs.length - i) (0) ?_;intro e0 σ0 n0 h0;simp(disch:=try exact dI) only[push_cast,seval] at h0;obtain⟨rfl,rfl,rfl⟩:=h0;refine⟨?_,?_,?_⟩
  ·exact qsZ
  ·exact⟨by omega,by simpa[sD] using hR⟩
  rintro i ⟨hi,hr⟩
  by_cases hlt:i<fs.length
  ·have hltI:(i:Int)<(fs.length:Int):=by omega
   obtain⟨c,hc⟩:∃ c,fs[i]? = some c:=⟨_,Uo hlt⟩
   obtain⟨nm,⟨k',n',s',t',l',f'⟩⟩:=c
   have hcp:(fs.map Fld.pv)[i]? = some (.agg [.str nm,.int .i64 k',.int .i64 n',.int .i64 s',.str t',.list (l'.map Val.pv),.list (f'.map Fld.pv)]):=by simp[hc,Ub,Un,aw]
   have hnm:(fs.map Fld.name)[i]? = some nm:=by simp[hc,Fld.name]
   have hn:=lF nm
   rw[sM hnm] at hr
   have hnext:sD fs (i+1)=some nm:=by simp[sD,hc,Fld.name]
   cases hb:dD nm with
   | false=>
     rw[hb] at hn hr
     rw[if_pos rfl] at hr
     subst hr
     simp(disch:=try exact dI) only[hcp,push_cast,seval]
     refine ae.pure hn rfl ?_
     exact qsZ
   | true=>
     rw[hb] at hn hr
     rw[if_neg (by simp)] at hr
     by_cases hi0:i=0
     ·have hiI:¬ (0:Int)<(i:Int):=by omega
      have hpn:sD fs i=none:=if_pos hi0
      rw[hpn,if_neg (by simp),if_neg (by simp),<- hnext] at hr
      simp(disch:=try exact dI) only[hcp,push_cast,seval]
      refine ae.pure hn rfl ?_
      refine zgZ ?_
      exact⟨i+1,bu qsZ,⟨by omega,by rw[List.map_drop];exact hr⟩,by omega⟩
     ·obtain⟨j,rfl⟩:∃ j,i=j+1:=⟨i - 1,by omega⟩
      obtain⟨c,hc'⟩:∃ c,fs[j]? = some c:=⟨_,Uo (by omega)⟩
      have hpn:sD fs (j+1)=some c.name:=by simp[sD,hc']
      obtain⟨q,⟨k2,n2,s2,t2,l2,f2⟩⟩:=c
      have hcq:(fs.map Fld.pv)[j]? = some (.agg [.str q,.int .i64 k2,.int .i64 n2,.int .i64 s2,.str t2,.list (l2.map Val.pv),.list (f2.map Fld.pv)]):=by simp[hc',Ub,Un,aw]
      simp only[Fld.name] at hpn
      rw[hpn] at hr
      by_cases hq:nm=q
      ·subst hq
       rw[if_pos rfl] at hr
       subst hr
       simp(disch:=try exact dI) only[hcp,Vk,push_cast,seval]
       refine ae.pure hn rfl ?_
       simp(disch:=try exact dI) only[hcq,Vk,push_cast,seval]
      ·rw[if_neg (by simpa using fun e=>hq e.symm)] at hr
       cases hlt2:du nm q with
       | true=>
         rw[if_pos (by simpa using hlt2)] at hr
         subst hr
         simp(disch:=try exact dI) only[hcp,Vk,push_cast,seval]
         refine ae.pure hn rfl ?_
         simp(disch:=try exact dI) only[hcq,Vk,hq,hlt2,push_cast,seval]
       | false=>
         rw[if_neg (by simp[hlt2]),<- hnext] at hr
         simp(disch:=try exact dI) only[hcp,Vk,push_cast,seval]
         refine ae.pure hn rfl ?_
         simp(disch:=try exact dI) only[hcq,Vk,hq,hlt2,push_cast,seval]
         exact⟨j+1+1,bu qsZ,⟨by omega,by rw[List.map_drop];exact hr⟩,by omega⟩
  ·have hie:i=fs.length:=by omega
   subst hie
   rw[List.drop_of_length_le (by simp)] at hr
   rw[show R=0 from hr]
   exact qsZ
theorem KG (v:Val)(hk:v.kind=10):au Tryz.prog aH 83 [v.pv] (.int .i64 (cx v)):=by
 obtain⟨k,n,s,t,l,fs⟩:=v
 simp only[Val.kind] at hk;subst hk
 rw[show cx (.mk 10 n s t l fs)=(if dD t=false then 12 else if l.length=0 then 4 else jr l.length 1 3) from rfl]
 have h:=kY l.length 1 3
 have hn:=lF t
 change au _ _ _ _ (.int .i64 (jr l.length 1 3)) at h
 generalize jr l.length 1 3=e at *
 refine au.intro Q83.2 (by simp[Q83]) ?_
 cases hb:dD t with
 | false=>
   rw[hb] at hn
   rw[if_pos rfl]
   simp(disch:=try exact dI) only[Q83,Un,push_cast,seval]
   refine ae.pure hn rfl ?_
   exact qsZ
 | true=>
   rw[hb] at hn
   rw[if_neg (by simp)]
   by_cases hl:l.length=0
   ·have hlI:(l.length:Int)=0:=by omega
    rw[if_pos hl]
    simp(disch:=try exact dI) only[Q83,Un,push_cast,seval]
    refine ae.pure hn rfl ?_
    exact qsZ
   ·have hlI:¬ (l.length:Int)=0:=by omega
    rw[if_neg hl]
    simp(disch:=try exact dI) only[Q83,Un,push_cast,seval]
    refine ae.pure hn rfl ?_
    refine zgZ ?_
    refine ae.pure h rfl ?_
    exact qsZ
def bL (i:Nat)(q:Int×Val):Int:=
 if 4096<=i then 9 else if 8<q.1 then 23 else if fx q.2=true then 19 else if q.2.kind<1\/10<q.2.kind then 11 else if ft q.2=false then 3 else cx q.2
section
variable {i:Nat}{q:Int×Val}
theorem Kg (c1:4096<=i):bL i q=9:=if_pos c1
theorem Kf (c1:¬ 4096<=i)(c2:8<q.1):bL i q=23:=by unfold bL;rw[if_neg c1,if_pos c2]
theorem Ke (c1:¬ 4096<=i)(c2:¬ 8<q.1)(c3:fx q.2=true):bL i q=19:=by unfold bL;rw[if_neg c1,if_neg c2,if_pos c3]
theorem Kd (c1:¬ 4096<=i)(c2:¬ 8<q.1)(c3:fx q.2=false)(c4:q.2.kind<1\/10<q.2.kind):bL i q=11:=by unfold bL;rw[if_neg c1,if_neg c2,if_neg (by rw[c3];simp),if_pos c4]
theorem Kc (c1:¬ 4096<=i)(c2:¬ 8<q.1)(c3:fx q.2=false)(c4:¬ (q.2.kind<1\/10<q.2.kind))(c5:ft q.2=false):bL i q=3:=by unfold bL;rw[if_neg c1,if_neg c2,if_neg (by rw[c3];simp),if_neg c4,if_pos c5]
theorem AO (c1:¬ 4096<=i)(c2:¬ 8<q.1)(c3:fx q.2=false)(c4:¬ (q.2.kind<1\/10<q.2.kind))(c5:ft q.2=true):bL i q=cx q.2:=by unfold bL;rw[if_neg c1,if_neg c2,if_neg (by rw[c3];simp),if_neg c4,if_neg (by rw[c5];simp)]
end
def pm:Nat->List (Int×Val)->Int
 | _,[]=>0
 | i,q::r=>if bL i q=0 then pm (i+1) r else bL i q
def KF (k:Int):Nat:=if k=1 then 69 else if k=2 then 71 else if k=3 then 72 else if k=4 then 74 else if k=5 then 77 else if k=6 then 78 else if k=7 then 79 else if k=8 then 80 else if k=9 then 81 else 83
theorem KE (v:Val)(h:1<=v.kind/\v.kind<=10):au Tryz.prog aH (KF v.kind) [v.pv] (.int .i64 (cx v)):=by
 have hc:v.kind=1\/v.kind=2\/v.kind=3\/v.kind=4\/v.kind=5\/v.kind=6\/v.kind=7\/v.kind=8\/v.kind=9\/v.kind=10:=by omega
 rcases hc with h | h | h | h | h | h | h | h | h | h<;>rw[h]
 ·exact KP v h
 ·exact KO v h
 ·exact KN v h
 ·exact KM v h
 ·exact KL v h
 ·exact KK v h
 ·exact KJ v h
 ·exact KI v h
 ·exact KH v h
 ·exact KG v h
theorem lj {n sz r o:Nat}{k:IntKind}{i:Int}(h0:0<=i)(h1:i.toNat<n):ji n sz (.ptr r o) (.pv (.int k i))=some (.ptr r (o+i.toNat*sz)):=if_pos ⟨h0,h1⟩
theorem J2 (x:Val)(h:1<=x.kind/\x.kind<=10):au Tryz.prog aH 40 [x.pv] (.bool (ft x)):=J1 x h
theorem MQ {xs:List (Int×Val)}{i:Nat}{q:Int×Val}(h:xs[i]? = some q):pm i (xs.drop i)=if bL i q=0 then pm (i+1) (xs.drop (i+1)) else bL i q:=by
 have hi:i<xs.length:=(Up.1 h).1
 have he:xs[i]=q:=(Up.1 h).2
 rw[Vb hi,he,pm]
theorem kB (n:Nat)(v:Val)(hd:j3 n v)(hv:v.ok):au Tryz.prog aH 15 [v.pv] (.int .i64 (pm 0 (fm n 1 v))):=by
 have hseq:=jJ n v hd hv
 have h243:=ll v
 have h242:=FK
 generalize hxs:fm n 1 v=xs at *
 obtain⟨R,hR⟩:∃ R,R=pm 0 xs:=⟨_,rfl⟩
 rw[<- hR]
 obtain⟨k,a,s,t,l,fs⟩:=v
 simp only[Un,A2] at h243 h242 hseq
 refine au.intro Q15.2 (by simp[Q15]) ?_
 simp(disch:=try exact dI) only[Q15,Un,push_cast,seval]
 refine ae.pure h242 rfl ?_
 simp(disch:=try exact dI) only[B0,uP,push_cast,seval]
 refine ae.pure h243 rfl ?_
 refine zgZ ?_
 refine II ([]) (fun i:Nat=>[]) (fun i:Nat=>[(2,.cells 3 true [.pv (.int .i64 (i:Int))])]) (fun j i=>j=i/\i<=4096/\R=pm i (xs.drop i)) (0) (hseq) ?_;intro e0 σ0 n0 h0;simp(disch:=try exact dI) only[push_cast,seval] at h0;obtain⟨rfl,rfl,rfl⟩:=h0;refine⟨?_,?_,?_,?_,?_⟩
 ·exact qsZ
 ·exact⟨rfl,by omega,by simpa using hR⟩
 ·rfl
 ·rintro j i y hy ⟨hij,hj4,hr⟩
  subst hij
  obtain⟨q,hq⟩:∃ q,xs[j]? = some q:=by
   cases h:xs[j]? with
   | none=>simp[h] at hy
   | some q=>exact⟨q,rfl⟩
  have hye:y=zD q:=by simpa[hq] using hy.symm
  subst hye
  rw[MQ hq] at hr
  have hjl:j<xs.length:=(Up.1 hq).1
  obtain⟨lv,x⟩:=q
  have h111:=Ce x
  have hrule:=KE x
  have huse:=J2 x
  obtain⟨k',n',s',t',l',f'⟩:=x
  simp only[Un,Val.kind] at h111 hrule huse
  refine⟨rfl,?_⟩
  simp only[zD,Un]
  clear hy h242 h243 hseq
  by_cases c1:4096<=j
  ·have e:bL j (lv,Val.mk k' n' s' t' l' f')=9:=if_pos c1
   rw[e,if_neg (by omega)] at hr
   subst hr
   exact qsZ
  ·have hj1:¬ (4096:Int)<(j:Int)+1:=by omega
   by_cases c2:8<lv
   ·have e:bL j (lv,Val.mk k' n' s' t' l' f')=23:=Kf c1 c2
    rw[e,if_neg (by omega)] at hr
    subst hr
    exact qsZ
   ·cases c3:fx (Val.mk k' n' s' t' l' f') with
    | true=>
      have e:bL j (lv,Val.mk k' n' s' t' l' f')=19:=Ke c1 c2 c3
      rw[e,if_neg (by omega)] at hr
      subst hr
      rw[c3] at h111
      refine zgZ ?_
      refine ae.pure h111 rfl ?_
      exact qsZ
    | false=>
      rw[c3] at h111
      by_cases c4:k'<1\/10<k'
      ·have e:bL j (lv,Val.mk k' n' s' t' l' f')=11:=Kd c1 c2 c3 c4
       rw[e,if_neg (by omega)] at hr
       subst hr
       rcases c4 with c4 | c4
       ·refine zgZ ?_
        refine ae.pure h111 rfl ?_
        exact qsZ
       ·refine zgZ ?_
        refine ae.pure h111 rfl ?_
        exact qsZ
      ·have huse:=huse (by omega)
       have hrule:=hrule (by omega)
       cases c5:ft (Val.mk k' n' s' t' l' f') with
       | false=>
         have e:bL j (lv,Val.mk k' n' s' t' l' f')=3:=Kc c1 c2 c3 c4 c5
         rw[e,if_neg (by omega)] at hr
         subst hr
         rw[c5] at huse
         refine zgZ ?_
         refine ae.pure h111 rfl ?_
         refine zgZ ?_
         refine ae.pure huse rfl ?_
         exact qsZ
       | true=>
         have e:bL j (lv,Val.mk k' n' s' t' l' f')=cx (Val.mk k' n' s' t' l' f'):=AO c1 c2 c3 c4 c5
         rw[e] at hr
         rw[c5] at huse
         generalize cx (Val.mk k' n' s' t' l' f')=z at hr hrule
         have hkc:([AV.pv PV.nilf,AV.pv (PV.clo 69 [] []),AV.pv (PV.clo 71 [] []),AV.pv (PV.clo 72 [] []),AV.pv (PV.clo 74 [] []),AV.pv (PV.clo 77 [] []),AV.pv (PV.clo 78 [] []),AV.pv (PV.clo 79 [] []),AV.pv (PV.clo 80 [] []),AV.pv (PV.clo 81 [] []),AV.pv (PV.clo 83 [] [])]:List AV)[k'.toNat*1]? = some (.pv (.clo (KF k') [] [])):=by
          have hc:k'=1\/k'=2\/k'=3\/k'=4\/k'=5\/k'=6\/k'=7\/k'=8\/k'=9\/k'=10:=by omega
          rcases hc with h | h | h | h | h | h | h | h | h | h<;>rw[h]<;>rfl
         generalize KF k'=rf at hkc hrule
         by_cases hz:z=0
         ·rw[if_pos hz] at hr
          subst hz
          refine zgZ ?_
          refine ae.pure h111 rfl ?_
          refine zgZ ?_
          refine ae.pure huse rfl ?_
          simp(disch:=try exact dI) only[lj,hkc,push_cast,seval]
          refine ae.pure hrule rfl ?_
          refine zgZ ?_
          exact⟨j+1,bu qsZ,rfl,by omega,hr⟩
         ·rw[if_neg hz] at hr
          subst hr
          refine zgZ ?_
          refine ae.pure h111 rfl ?_
          refine zgZ ?_
          refine ae.pure huse rfl ?_
          simp(disch:=try exact dI) only[lj,hkc,push_cast,seval]
          refine ae.pure hrule rfl ?_
          exact qsZ
 ·rintro j ⟨hj,hj4,hr⟩
  simp only[List.length_map] at hj
  subst hj
  rw[List.drop_length] at hr
  rw[show R=0 from hr]
  exact qsZ
