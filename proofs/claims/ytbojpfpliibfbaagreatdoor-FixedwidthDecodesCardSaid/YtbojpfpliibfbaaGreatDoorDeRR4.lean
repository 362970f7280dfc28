/- A part of the proof. -/
import Derived.Test.YtbojpfpliibfbaaGreatDoorDeRR1
set_option maxHeartbeats 16000000
set_option maxRecDepth 100000
set_option linter.unusedVariables false
set_option linter.unusedSimpArgs false
namespace Go.Proofs.YtbojpfpliibfbaaGreatDoor
open Go Go.Ab
attribute [local irreducible] vc
theorem uV (e:List (Nat×AV))(σ:List (Nat×Blk))(new:Nat)(x:AX):DO e σ new (.ofStr x)=fL new (evE e x):=_root_.id rfl
theorem zX (new:Nat){k:List UInt8}(h:k.length<=140737488355328):fL new (.pv (.str k))=some (.pv (.list (aH k)),[(new,.none)]):=by simp only[fL];rw[if_pos h]
def iW (c:UInt8):Bool:=decide (97<=c.toNat)&&decide (c.toNat<=122)
def okC (c:UInt8):Bool:=iW c||(decide (48<=c.toNat)&&decide (c.toNat<=57))||decide (c.toNat=95)
def bz (s:List UInt8):Bool:=decide (0<s.length)&&(decide (s.length<=32)&&(iW (s.headD 0)&&s.all okC))
theorem xR (s:List UInt8):(aH s).length=s.length:=by simp[aH]
theorem Dj {s:List UInt8}{i:Nat}{c:UInt8}(h:s[i]? = some c):(aH s)[i]? = some (.int .u8 (c.toNat:Int)):=by simp[aH,h]
theorem uP {s:List UInt8}{i:Nat}{c:UInt8}(h:s[i]? = some c):(s.take (i+1)).all okC=((s.take i).all okC&&okC c):=by rw[aB h];simp
theorem iP {s:List UInt8}{i:Nat}{c:UInt8}(h:s[i]? = some c)(hc:okC c=false):s.all okC=false:=by
 rw[Bool.eq_false_iff]
 intro ha
 have:=List.all_eq_true.1 ha c (List.mem_of_getElem? h)
 rw[hc] at this;cases this
theorem rC (s:List UInt8):ak Tryz.prog ap 258 [.str s] (.bool (bz s)):=by
 cases s with
 | nil=>
   rw[show bz []=false from rfl]
   refine ak.intro Hx.2 (by simp[Hx]) ?_
   simp(disch:=try exact dI) only[Hx,push_cast,seval]
 | cons c r=>
   generalize hs:c::r=s
   have hne:¬ s=[]:=by rw[<- hs];simp
   have h0:s[0]? = some c:=by rw[<- hs];rfl
   have hh:s.headD 0=c:=by rw[<- hs];rfl
   have hlen:0<s.length:=by rw[<- hs];simp
   clear hs
   refine ak.intro Hx.2 (by simp[Hx]) ?_
   by_cases h32:s.length<=32
   ·by_cases ha:97<=c.toNat
    ·by_cases hz:c.toNat<=122
     ·have e:bz s=s.all okC:=by simp only[bz,hh,iW,decide_eq_true hlen,decide_eq_true h32,decide_eq_true ha,decide_eq_true hz,Bool.true_and]
      rw[e]
      simp(disch:=try exact dI) only[Hx,hne,h0,aq,uV,zX,xR,push_cast,seval]
      refine am ([]) (fun i:Nat=>[(25,.pv (.int .i64 (i:Int)))]) (fun _=>[]) (fun i=>i<=s.length/\(s.take i).all okC=true) (fun i=>s.length - i) (0) ?_;intro e0 σ0 n0 h0;simp(disch:=try exact dI) only[push_cast,seval] at h0;obtain⟨rfl,rfl,rfl⟩:=h0;refine⟨?_,?_,?_⟩
      ·exact qsZ
      ·exact⟨by omega,by simp⟩
      rintro i ⟨hi,hall⟩
      by_cases hlt:i<s.length
      ·have hltI:(i:Int)<(s.length:Int):=by omega
       obtain⟨b,hb⟩:∃ b,s[i]? = some b:=⟨_,List.getElem?_eq_getElem hlt⟩
       have hbp:=Dj hb
       have hbn:=b.toNat_lt
       have hsn:=uP hb
       rw[hall,Bool.true_and] at hsn
       have hc:b.toNat<48\/(48<=b.toNat/\b.toNat<=57)\/(57<b.toNat/\b.toNat<97/\b.toNat≠95)\/b.toNat=95\/(97<=b.toNat/\b.toNat<=122)\/122<b.toNat:=by omega
       rcases hc with hc | hc | hc | hc | hc | hc
       ·have hbad:s.all okC=false:=iP hb (by simp[okC,iW];omega)
        rw[hbad]
        simp(disch:=try exact dI) only[hbp,push_cast,seval]
       ·have hok:okC b=true:=by simp[okC,iW];omega
        simp(disch:=try exact dI) only[hbp,push_cast,seval]
        exact⟨i+1,aI qsZ,⟨by omega,by rw[hsn,hok]⟩,by omega⟩
       ·have hbad:s.all okC=false:=iP hb (by simp[okC,iW];omega)
        rw[hbad]
        simp(disch:=try exact dI) only[hbp,push_cast,seval]
       ·have hok:okC b=true:=by simp[okC,iW];omega
        simp(disch:=try exact dI) only[hbp,push_cast,seval]
        exact⟨i+1,aI qsZ,⟨by omega,by rw[hsn,hok]⟩,by omega⟩
       ·have hok:okC b=true:=by simp[okC,iW];omega
        simp(disch:=try exact dI) only[hbp,push_cast,seval]
        exact⟨i+1,aI qsZ,⟨by omega,by rw[hsn,hok]⟩,by omega⟩
       ·have hbad:s.all okC=false:=iP hb (by simp[okC,iW];omega)
        rw[hbad]
        simp(disch:=try exact dI) only[hbp,push_cast,seval]
      ·have he:s.take i=s:=List.take_of_length_le (by omega)
       rw[he] at hall
       rw[hall]
       exact qsZ
     ·have e:bz s=false:=by simp only[bz,hh,iW,decide_eq_false hz,Bool.and_false,Bool.false_and]
      rw[e]
      simp(disch:=try exact dI) only[Hx,hne,h0,aq,push_cast,seval]
    ·have e:bz s=false:=by simp only[bz,hh,iW,decide_eq_false ha,Bool.and_false,Bool.false_and]
     rw[e]
     simp(disch:=try exact dI) only[Hx,hne,h0,aq,push_cast,seval]
   ·have e:bz s=false:=by simp[bz,h32]
    rw[e]
    simp(disch:=try exact dI) only[Hx,hne,push_cast,seval]
def ek (n a b:Int):Int:=if n<a\/b<n then 2 else 0
def cU (n m e:Int):Int:=if m<n then e else 0
def eF:Option (List UInt8)->List (List UInt8)->Int
 | _,[]=>0
 | p,s::r=>if bz s=false then 12 else if p=some s then 7 else if (p.any fun q=>bf s q)=true then 24 else eF (some s) r
def bd:Val->Int
 | .mk k n s t l fs=>
   if k=1 then ek n 0 1
   else if k=2 then ek n (-999999999999999) 999999999999999
   else if k=3 then (if ek n (-999999999999999) 999999999999999=0 then ek s 0 12 else ek n (-999999999999999) 999999999999999)
   else if k=4 then (if cU t.length 1024 5=0 then (if Lib.validD t=true then 0 else 16) else cU t.length 1024 5)
   else if k=5 then cU t.length 1024 5
   else if k=6 then ek n (-719162) 2932896
   else if k=7 then ek n (-62135596800000) 253402300799999
   else if k=8 then cU l.length 256 9
   else if k=9 then (if cU fs.length 64 9=0 then eF none (fs.map Fld.name) else cU fs.length 64 9)
   else if k=10 then (if bz t=false then 12 else if l.length=0 then 4 else cU l.length 1 3)
   else 0
theorem Jr (v:Val)(hk:v.kind=1):ak Tryz.prog ap 282 [v.pv] (.int .i64 (bd v)):=by
 obtain⟨k,n,s,t,l,fs⟩:=v
 simp only[Val.kind] at hk;subst hk
 rw[show bd (.mk 1 n s t l fs)=ek n 0 1 from rfl]
 have h:=df n 0 1
 change ak _ _ _ _ (.int .i64 (ek n 0 1)) at h
 generalize ek n 0 1=e at *
 refine ak.intro RF.2 (by simp[RF]) ?_
 simp(disch:=try exact dI) only[RF,Val.pv_mk,push_cast,seval]
 refine ab.pure h rfl ?_
 exact qsZ
theorem Jq (v:Val)(hk:v.kind=2):ak Tryz.prog ap 284 [v.pv] (.int .i64 (bd v)):=by
 obtain⟨k,n,s,t,l,fs⟩:=v
 simp only[Val.kind] at hk;subst hk
 rw[show bd (.mk 2 n s t l fs)=ek n (-999999999999999) 999999999999999 from rfl]
 have h:=df n (-999999999999999) 999999999999999
 change ak _ _ _ _ (.int .i64 (ek n (-999999999999999) 999999999999999)) at h
 generalize ek n (-999999999999999) 999999999999999=e at *
 refine ak.intro RE.2 (by simp[RE]) ?_
 simp(disch:=try exact dI) only[RE,Val.pv_mk,push_cast,seval]
 refine ab.pure h rfl ?_
 exact qsZ
def gT:List Int->Int
 | []=>0
 | a::r=>if a=0 then gT r else a
theorem pG:∀ {L:List Int} {i:Nat} {x:Int},L[i]? = some x->x≠0->(∀ j,j<i->∀ y,L[j]? = some y->y=0)->gT L=x
 | [],i,x,h,_,_=>by simp at h
 | a::r,0,x,h,hx,_=>by simp at h;subst h;exact if_neg hx
 | a::r,i+1,x,h,hx,h0=>by
   have ha:=h0 0 (by omega) a rfl
   subst ha
   rw[gT,if_pos rfl]
   exact pG (by simpa using h) hx fun j hj y hy=>h0 (j+1) (by omega) y (by simpa using hy)
theorem kU:∀ {L:List Int},(∀ (j:Nat) y,L[j]? = some y->y=0)->gT L=0
 | [],_=>rfl
 | a::r,h=>by
   rw[gT,if_pos (h 0 a rfl)]
   exact kU fun j y hy=>h (j+1) y (by simpa using hy)
theorem Cd (L:List Int)(hL:L.length<=1000):ak Tryz.prog ap 286 [.list (L.map fun n=>.int .i64 n)] (.int .i64 (gT L)):=by
 generalize hr:gT L=e
 refine ak.intro RC.2 (by simp[RC]) ?_
 simp(disch:=try exact dI) only[RC,push_cast,seval]
 refine am ([]) (fun i:Nat=>[(7,.pv (.int .i64 (i:Int)))]) (fun _=>[]) (fun i=>i<=L.length/\(∀ j,j<i->∀ y,L[j]? = some y->y=0)) (fun i=>L.length - i) (0) ?_;intro e0 σ0 n0 h0;simp(disch:=try exact dI) only[push_cast,seval] at h0;obtain⟨rfl,rfl,rfl⟩:=h0;refine⟨?_,?_,?_⟩
 ·exact qsZ
 ·exact⟨by omega,by omega⟩
 rintro i ⟨hi,h0⟩
 by_cases hlt:i<L.length
 ·have hltI:(i:Int)<(L.length:Int):=by omega
  obtain⟨x,hx⟩:∃ x,L[i]? = some x:=⟨_,List.getElem?_eq_getElem hlt⟩
  have hcp:(L.map fun n=>PV.int .i64 n)[i]? = some (.int .i64 x):=by simp[hx]
  by_cases hx0:x=0
  ·subst hx0
   simp(disch:=try exact dI) only[hcp,push_cast,seval]
   exact⟨i+1,aI qsZ,⟨by omega,fun j hj y hy=>by
    rcases Nat.lt_or_ge j i with h | h
    ·exact h0 j h y hy
    ·have:j=i:=by omega
     subst this
     rw[hx] at hy;exact (Option.some.inj hy).symm⟩,by omega⟩
  ·have:=pG hx hx0 h0
   rw[this] at hr
   subst hr
   simp(disch:=try exact dI) only[hcp,push_cast,seval]
 ·have:=kU (L:=L) fun j y hy=>h0 j (by have:=(List.getElem?_eq_some_iff.1 hy).1;omega) y hy
  rw[this] at hr
  subst hr
  exact qsZ
theorem GI (a b:Int):ak Tryz.prog ap 286 [.list [.int .i64 a,.int .i64 b]] (.int .i64 (if a=0 then b else a)):=by
 have:=Cd [a,b] (by simp)
 have e:gT [a,b]=if a=0 then b else a:=by
  simp only[gT]
  by_cases hb:b=0
  ·subst hb;simp
  ·simp[hb]
 rw[e] at this
 exact this
theorem Jp (v:Val)(hk:v.kind=3):ak Tryz.prog ap 285 [v.pv] (.int .i64 (bd v)):=by
 obtain⟨k,n,s,t,l,fs⟩:=v
 simp only[Val.kind] at hk;subst hk
 rw[show bd (.mk 3 n s t l fs)=(if ek n (-999999999999999) 999999999999999=0 then ek s 0 12 else ek n (-999999999999999) 999999999999999) from rfl]
 have h:=df n (-999999999999999) 999999999999999
 have h':=df s 0 12
 change ak _ _ _ _ (.int .i64 (ek n (-999999999999999) 999999999999999)) at h
 change ak _ _ _ _ (.int .i64 (ek s 0 12)) at h'
 generalize ek n (-999999999999999) 999999999999999=e at *
 generalize ek s 0 12=e' at *
 have h2:=GI e e'
 generalize (if e=0 then e' else e)=e2 at *
 refine ak.intro RD.2 (by simp[RD]) ?_
 simp(disch:=try exact dI) only[RD,Val.pv_mk,push_cast,seval]
 refine ae h rfl ?_
 refine zgZ ?_
 refine ab.pure h' rfl ?_
 refine zgZ ?_
 refine ab.pure h2 rfl ?_
 exact qsZ
theorem Jn (v:Val)(hk:v.kind=5):ak Tryz.prog ap 289 [v.pv] (.int .i64 (bd v)):=by
 obtain⟨k,n,s,t,l,fs⟩:=v
 simp only[Val.kind] at hk;subst hk
 rw[show bd (.mk 5 n s t l fs)=cU t.length 1024 5 from rfl]
 have h:=j3 t.length 1024 5
 change ak _ _ _ _ (.int .i64 (cU t.length 1024 5)) at h
 generalize cU t.length 1024 5=e at *
 refine ak.intro RB.2 (by simp[RB]) ?_
 simp(disch:=try exact dI) only[RB,Val.pv_mk,push_cast,seval]
 refine ab.pure h rfl ?_
 exact qsZ
theorem Jm (v:Val)(hk:v.kind=6):ak Tryz.prog ap 290 [v.pv] (.int .i64 (bd v)):=by
 obtain⟨k,n,s,t,l,fs⟩:=v
 simp only[Val.kind] at hk;subst hk
 rw[show bd (.mk 6 n s t l fs)=ek n (-719162) 2932896 from rfl]
 have h:=df n (-719162) 2932896
 change ak _ _ _ _ (.int .i64 (ek n (-719162) 2932896)) at h
 generalize ek n (-719162) 2932896=e at *
 refine ak.intro RA.2 (by simp[RA]) ?_
 simp(disch:=try exact dI) only[RA,Val.pv_mk,push_cast,seval]
 refine ab.pure h rfl ?_
 exact qsZ
theorem Jl (v:Val)(hk:v.kind=7):ak Tryz.prog ap 291 [v.pv] (.int .i64 (bd v)):=by
 obtain⟨k,n,s,t,l,fs⟩:=v
 simp only[Val.kind] at hk;subst hk
 rw[show bd (.mk 7 n s t l fs)=ek n (-62135596800000) 253402300799999 from rfl]
 have h:=df n (-62135596800000) 253402300799999
 change ak _ _ _ _ (.int .i64 (ek n (-62135596800000) 253402300799999)) at h
 generalize ek n (-62135596800000) 253402300799999=e at *
 refine ak.intro Rz.2 (by simp[Rz]) ?_
 simp(disch:=try exact dI) only[Rz,Val.pv_mk,push_cast,seval]
 refine ab.pure h rfl ?_
 exact qsZ
theorem Jk (v:Val)(hk:v.kind=8):ak Tryz.prog ap 292 [v.pv] (.int .i64 (bd v)):=by
 obtain⟨k,n,s,t,l,fs⟩:=v
 simp only[Val.kind] at hk;subst hk
 rw[show bd (.mk 8 n s t l fs)=cU l.length 256 9 from rfl]
 have h:=j3 l.length 256 9
 change ak _ _ _ _ (.int .i64 (cU l.length 256 9)) at h
 generalize cU l.length 256 9=e at *
 refine ak.intro Ry.2 (by simp[Ry]) ?_
 simp(disch:=try exact dI) only[Ry,Val.pv_mk,push_cast,seval]
 refine ab.pure h rfl ?_
 exact qsZ
theorem Jo (v:Val)(hk:v.kind=4):ak Tryz.prog ap 287 [v.pv] (.int .i64 (bd v)):=by
 obtain⟨k,n,s,t,l,fs⟩:=v
 simp only[Val.kind] at hk;subst hk
 rw[show bd (.mk 4 n s t l fs)=(if cU t.length 1024 5=0 then (if Lib.validD t=true then 0 else 16) else cU t.length 1024 5) from rfl]
 have h:=j3 t.length 1024 5
 have hv:=cw t
 change ak _ _ _ _ (.int .i64 (cU t.length 1024 5)) at h
 generalize cU t.length 1024 5=e at *
 refine ak.intro Pn.2 (by simp[Pn]) ?_
 by_cases he:e=0
 ·subst he
  rw[if_pos rfl]
  cases hb:Lib.validD t with
  | true=>
    rw[hb] at hv
    rw[if_pos rfl]
    simp(disch:=try exact dI) only[Pn,Val.pv_mk,push_cast,seval]
    refine ab.pure h rfl ?_
    refine zgZ ?_
    refine ab.pure hv rfl ?_
    exact qsZ
  | false=>
    rw[hb] at hv
    rw[if_neg (by simp)]
    simp(disch:=try exact dI) only[Pn,Val.pv_mk,push_cast,seval]
    refine ab.pure h rfl ?_
    refine zgZ ?_
    refine ab.pure hv rfl ?_
    exact qsZ
 ·rw[if_neg he]
  simp(disch:=try exact dI) only[Pn,Val.pv_mk,push_cast,seval]
  refine ab.pure h rfl ?_
  exact qsZ
theorem kw {fs:List (List UInt8)}{i:Nat}{s:List UInt8}(h:fs[i]? = some s)(p:Option (List UInt8)):eF p (fs.drop i)=if bz s=false then 12 else if p=some s then 7 else if (p.any fun q=>bf s q)=true then 24 else eF (some s) (fs.drop (i+1)):=by
 have hi:i<fs.length:=(List.getElem?_eq_some_iff.1 h).1
 have he:fs[i]=s:=(List.getElem?_eq_some_iff.1 h).2
 rw[List.drop_eq_getElem_cons hi,he,eF]
def gI (fs:List Fld)(i:Nat):Option (List UInt8):=if i=0 then none else (fs[i - 1]?).map Fld.name
theorem Jj (v:Val)(hk:v.kind=9):ak Tryz.prog ap 293 [v.pv] (.int .i64 (bd v)):=by
 obtain⟨k,n,s,t,l,fs⟩:=v
 simp only[Val.kind] at hk;subst hk
 rw[show bd (.mk 9 n s t l fs)=(if cU fs.length 64 9=0 then eF none (fs.map Fld.name) else cU fs.length 64 9) from rfl]
 have h:=j3 fs.length 64 9
 change ak _ _ _ _ (.int .i64 (cU fs.length 64 9)) at h
 by_cases h64:(64:Int)<fs.length
 ·have e:cU fs.length 64 9=9:=if_pos h64
  rw[e] at h ⊢
  rw[if_neg (by omega)]
  refine ak.intro L8.2 (by simp[L8]) ?_
  simp(disch:=try exact dI) only[L8,Val.pv_mk,push_cast,seval]
  refine ab.pure h rfl ?_
  exact qsZ
 ·have e:cU fs.length 64 9=0:=if_neg h64
  rw[e] at h ⊢
  rw[if_pos rfl]
  have hfl:fs.length<=64:=by omega
  obtain⟨R,hR⟩:∃ R,R=eF none (fs.map Fld.name):=⟨_,rfl⟩
  rw[<- hR]
  refine ak.intro L8.2 (by simp[L8]) ?_
  simp(disch:=try exact dI) only[L8,Val.pv_mk,push_cast,seval]
  refine ab.pure h rfl ?_
  refine zgZ ?_
  refine am ([]) (fun i:Nat=>[(16,.pv (.int .i64 (i:Int)))]) (fun _=>[]) (fun i=>i<=fs.length/\R=eF (gI fs i) ((fs.map Fld.name).drop i)) (fun i=>fs.length - i) (0) ?_;intro e0 σ0 n0 h0;simp(disch:=try exact dI) only[push_cast,seval] at h0;obtain⟨rfl,rfl,rfl⟩:=h0;refine⟨?_,?_,?_⟩
  ·exact qsZ
  ·exact⟨by omega,by simpa[gI] using hR⟩
  rintro i ⟨hi,hr⟩
  by_cases hlt:i<fs.length
  ·have hltI:(i:Int)<(fs.length:Int):=by omega
   obtain⟨c,hc⟩:∃ c,fs[i]? = some c:=⟨_,List.getElem?_eq_getElem hlt⟩
   obtain⟨nm,⟨k',n',s',t',l',f'⟩⟩:=c
   have hcp:(fs.map Fld.pv)[i]? = some (.agg [.str nm,.int .i64 k',.int .i64 n',.int .i64 s',.str t',.list (l'.map Val.pv),.list (f'.map Fld.pv)]):=by simp[hc,Fld.pv_mk,Val.pv_mk,ag]
   have hnm:(fs.map Fld.name)[i]? = some nm:=by simp[hc,Fld.name]
   have hn:=rC nm
   rw[kw hnm] at hr
   have hnext:gI fs (i+1)=some nm:=by simp[gI,hc,Fld.name]
   cases hb:bz nm with
   | false=>
     rw[hb] at hn hr
     rw[if_pos rfl] at hr
     subst hr
     simp(disch:=try exact dI) only[hcp,push_cast,seval]
     refine ab.pure hn rfl ?_
     exact qsZ
   | true=>
     rw[hb] at hn hr
     rw[if_neg (by simp)] at hr
     by_cases hi0:i=0
     ·have hiI:¬ (0:Int)<(i:Int):=by omega
      have hpn:gI fs i=none:=if_pos hi0
      rw[hpn,if_neg (by simp),if_neg (by simp),<- hnext] at hr
      simp(disch:=try exact dI) only[hcp,push_cast,seval]
      refine ab.pure hn rfl ?_
      refine zgZ ?_
      exact⟨i+1,aI qsZ,⟨by omega,by rw[List.map_drop];exact hr⟩,by omega⟩
     ·obtain⟨j,rfl⟩:∃ j,i=j+1:=⟨i - 1,by omega⟩
      obtain⟨c,hc'⟩:∃ c,fs[j]? = some c:=⟨_,List.getElem?_eq_getElem (by omega)⟩
      have hpn:gI fs (j+1)=some c.name:=by simp[gI,hc']
      obtain⟨q,⟨k2,n2,s2,t2,l2,f2⟩⟩:=c
      have hcq:(fs.map Fld.pv)[j]? = some (.agg [.str q,.int .i64 k2,.int .i64 n2,.int .i64 s2,.str t2,.list (l2.map Val.pv),.list (f2.map Fld.pv)]):=by simp[hc',Fld.pv_mk,Val.pv_mk,ag]
      simp only[Fld.name] at hpn
      rw[hpn] at hr
      by_cases hq:nm=q
      ·subst hq
       rw[if_pos rfl] at hr
       subst hr
       simp(disch:=try exact dI) only[hcp,Int.add_sub_cancel,push_cast,seval]
       refine ab.pure hn rfl ?_
       simp(disch:=try exact dI) only[hcq,Int.add_sub_cancel,push_cast,seval]
      ·rw[if_neg (by simpa using fun e=>hq e.symm)] at hr
       cases hlt2:bf nm q with
       | true=>
         rw[if_pos (by simpa using hlt2)] at hr
         subst hr
         simp(disch:=try exact dI) only[hcp,Int.add_sub_cancel,push_cast,seval]
         refine ab.pure hn rfl ?_
         simp(disch:=try exact dI) only[hcq,Int.add_sub_cancel,hq,hlt2,push_cast,seval]
       | false=>
         rw[if_neg (by simp[hlt2]),<- hnext] at hr
         simp(disch:=try exact dI) only[hcp,Int.add_sub_cancel,push_cast,seval]
         refine ab.pure hn rfl ?_
         simp(disch:=try exact dI) only[hcq,Int.add_sub_cancel,hq,hlt2,push_cast,seval]
         exact⟨j+1+1,aI qsZ,⟨by omega,by rw[List.map_drop];exact hr⟩,by omega⟩
  ·have hie:i=fs.length:=by omega
   subst hie
   rw[List.drop_of_length_le (by simp)] at hr
   rw[show R=0 from hr]
   exact qsZ
theorem Ji (v:Val)(hk:v.kind=10):ak Tryz.prog ap 294 [v.pv] (.int .i64 (bd v)):=by
 obtain⟨k,n,s,t,l,fs⟩:=v
 simp only[Val.kind] at hk;subst hk
 rw[show bd (.mk 10 n s t l fs)=(if bz t=false then 12 else if l.length=0 then 4 else cU l.length 1 3) from rfl]
 have h:=j3 l.length 1 3
 have hn:=rC t
 change ak _ _ _ _ (.int .i64 (cU l.length 1 3)) at h
 generalize cU l.length 1 3=e at *
 refine ak.intro Pm.2 (by simp[Pm]) ?_
 cases hb:bz t with
 | false=>
   rw[hb] at hn
   rw[if_pos rfl]
   simp(disch:=try exact dI) only[Pm,Val.pv_mk,push_cast,seval]
   refine ab.pure hn rfl ?_
   exact qsZ
 | true=>
   rw[hb] at hn
   rw[if_neg (by simp)]
   by_cases hl:l.length=0
   ·have hlI:(l.length:Int)=0:=by omega
    rw[if_pos hl]
    simp(disch:=try exact dI) only[Pm,Val.pv_mk,push_cast,seval]
    refine ab.pure hn rfl ?_
    exact qsZ
   ·have hlI:¬ (l.length:Int)=0:=by omega
    rw[if_neg hl]
    simp(disch:=try exact dI) only[Pm,Val.pv_mk,push_cast,seval]
    refine ab.pure hn rfl ?_
    refine zgZ ?_
    refine ab.pure h rfl ?_
    exact qsZ
def aR (i:Nat)(q:Int×Val):Int:=
 if 4096<=i then 9 else if 8<q.1 then 23 else if aS q.2=true then 19 else if q.2.kind<1\/10<q.2.kind then 11 else if bj q.2=false then 3 else bd q.2
section
variable {i:Nat}{q:Int×Val}
theorem I3 (c1:4096<=i):aR i q=9:=if_pos c1
theorem I2 (c1:¬ 4096<=i)(c2:8<q.1):aR i q=23:=by unfold aR;rw[if_neg c1,if_pos c2]
theorem I1 (c1:¬ 4096<=i)(c2:¬ 8<q.1)(c3:aS q.2=true):aR i q=19:=by unfold aR;rw[if_neg c1,if_neg c2,if_pos c3]
theorem I0 (c1:¬ 4096<=i)(c2:¬ 8<q.1)(c3:aS q.2=false)(c4:q.2.kind<1\/10<q.2.kind):aR i q=11:=by unfold aR;rw[if_neg c1,if_neg c2,if_neg (by rw[c3];simp),if_pos c4]
theorem IZ (c1:¬ 4096<=i)(c2:¬ 8<q.1)(c3:aS q.2=false)(c4:¬ (q.2.kind<1\/10<q.2.kind))(c5:bj q.2=false):aR i q=3:=by unfold aR;rw[if_neg c1,if_neg c2,if_neg (by rw[c3];simp),if_neg c4,if_pos c5]
theorem zc (c1:¬ 4096<=i)(c2:¬ 8<q.1)(c3:aS q.2=false)(c4:¬ (q.2.kind<1\/10<q.2.kind))(c5:bj q.2=true):aR i q=bd q.2:=by unfold aR;rw[if_neg c1,if_neg c2,if_neg (by rw[c3];simp),if_neg c4,if_neg (by rw[c5];simp)]
end
def jn:Nat->List (Int×Val)->Int
 | _,[]=>0
 | i,q::r=>if aR i q=0 then jn (i+1) r else aR i q
def Jh (k:Int):Nat:=if k=1 then 282 else if k=2 then 284 else if k=3 then 285 else if k=4 then 287 else if k=5 then 289 else if k=6 then 290 else if k=7 then 291 else if k=8 then 292 else if k=9 then 293 else 294
theorem Jg (v:Val)(h:1<=v.kind/\v.kind<=10):ak Tryz.prog ap (Jh v.kind) [v.pv] (.int .i64 (bd v)):=by
 have hc:v.kind=1\/v.kind=2\/v.kind=3\/v.kind=4\/v.kind=5\/v.kind=6\/v.kind=7\/v.kind=8\/v.kind=9\/v.kind=10:=by omega
 rcases hc with h | h | h | h | h | h | h | h | h | h<;>rw[h]
 ·exact Jr v h
 ·exact Jq v h
 ·exact Jp v h
 ·exact Jo v h
 ·exact Jn v h
 ·exact Jm v h
 ·exact Jl v h
 ·exact Jk v h
 ·exact Jj v h
 ·exact Ji v h
theorem kf {n sz r o:Nat}{k:IntKind}{i:Int}(h0:0<=i)(h1:i.toNat<n):iv n sz (.ptr r o) (.pv (.int k i))=some (.ptr r (o+i.toNat*sz)):=if_pos ⟨h0,h1⟩
theorem IP (x:Val)(h:1<=x.kind/\x.kind<=10):ak Tryz.prog ap 262 [x.pv] (.bool (bj x)):=IO x h
theorem K8 {xs:List (Int×Val)}{i:Nat}{q:Int×Val}(h:xs[i]? = some q):jn i (xs.drop i)=if aR i q=0 then jn (i+1) (xs.drop (i+1)) else aR i q:=by
 have hi:i<xs.length:=(List.getElem?_eq_some_iff.1 h).1
 have he:xs[i]=q:=(List.getElem?_eq_some_iff.1 h).2
 rw[List.drop_eq_getElem_cons hi,he,jn]
theorem uC (n:Nat)(v:Val)(hd:cW n v)(hv:v.ok):ak Tryz.prog ap 233 [v.pv] (.int .i64 (jn 0 (cJ n 1 v))):=by
 have hseq:=iU n v hd hv
 have h243:=kh v
 have h242:=EG
 generalize hxs:cJ n 1 v=xs at *
 obtain⟨R,hR⟩:∃ R,R=jn 0 xs:=⟨_,rfl⟩
 rw[<- hR]
 obtain⟨k,a,s,t,l,fs⟩:=v
 simp only[Val.pv_mk,zr] at h243 h242 hseq
 refine ak.intro RP.2 (by simp[RP]) ?_
 simp(disch:=try exact dI) only[RP,Val.pv_mk,push_cast,seval]
 refine ab.pure h242 rfl ?_
 simp(disch:=try exact dI) only[AM,tr,push_cast,seval]
 refine ab.pure h243 rfl ?_
 refine zgZ ?_
 refine sB ([]) (fun i:Nat=>[]) (fun i:Nat=>[(2,.cells 3 true [.pv (.int .i64 (i:Int))])]) (fun j i=>j=i/\i<=4096/\R=jn i (xs.drop i)) (0) (hseq) ?_;intro e0 σ0 n0 h0;simp(disch:=try exact dI) only[push_cast,seval] at h0;obtain⟨rfl,rfl,rfl⟩:=h0;refine⟨?_,?_,?_,?_,?_⟩
 ·exact qsZ
 ·exact⟨rfl,by omega,by simpa using hR⟩
 ·rfl
 ·rintro j i y hy ⟨hij,hj4,hr⟩
  subst hij
  obtain⟨q,hq⟩:∃ q,xs[j]? = some q:=by
   cases h:xs[j]? with
   | none=>simp[h] at hy
   | some q=>exact⟨q,rfl⟩
  have hye:y=yg q:=by simpa[hq] using hy.symm
  subst hye
  rw[K8 hq] at hr
  have hjl:j<xs.length:=(List.getElem?_eq_some_iff.1 hq).1
  obtain⟨lv,x⟩:=q
  have h111:=ry x
  have hrule:=Jg x
  have huse:=IP x
  obtain⟨k',n',s',t',l',f'⟩:=x
  simp only[Val.pv_mk,Val.kind] at h111 hrule huse
  refine⟨rfl,?_⟩
  simp only[yg,Val.pv_mk]
  clear hy h242 h243 hseq
  by_cases c1:4096<=j
  ·have e:aR j (lv,Val.mk k' n' s' t' l' f')=9:=if_pos c1
   rw[e,if_neg (by omega)] at hr
   subst hr
   exact qsZ
  ·have hj1:¬ (4096:Int)<(j:Int)+1:=by omega
   by_cases c2:8<lv
   ·have e:aR j (lv,Val.mk k' n' s' t' l' f')=23:=I2 c1 c2
    rw[e,if_neg (by omega)] at hr
    subst hr
    exact qsZ
   ·cases c3:aS (Val.mk k' n' s' t' l' f') with
    | true=>
      have e:aR j (lv,Val.mk k' n' s' t' l' f')=19:=I1 c1 c2 c3
      rw[e,if_neg (by omega)] at hr
      subst hr
      rw[c3] at h111
      refine zgZ ?_
      refine ab.pure h111 rfl ?_
      exact qsZ
    | false=>
      rw[c3] at h111
      by_cases c4:k'<1\/10<k'
      ·have e:aR j (lv,Val.mk k' n' s' t' l' f')=11:=I0 c1 c2 c3 c4
       rw[e,if_neg (by omega)] at hr
       subst hr
       rcases c4 with c4 | c4
       ·refine zgZ ?_
        refine ab.pure h111 rfl ?_
        exact qsZ
       ·refine zgZ ?_
        refine ab.pure h111 rfl ?_
        exact qsZ
      ·have huse:=huse (by omega)
       have hrule:=hrule (by omega)
       cases c5:bj (Val.mk k' n' s' t' l' f') with
       | false=>
         have e:aR j (lv,Val.mk k' n' s' t' l' f')=3:=IZ c1 c2 c3 c4 c5
         rw[e,if_neg (by omega)] at hr
         subst hr
         rw[c5] at huse
         refine zgZ ?_
         refine ab.pure h111 rfl ?_
         refine zgZ ?_
         refine ab.pure huse rfl ?_
         exact qsZ
       | true=>
         have e:aR j (lv,Val.mk k' n' s' t' l' f')=bd (Val.mk k' n' s' t' l' f'):=zc c1 c2 c3 c4 c5
         rw[e] at hr
         rw[c5] at huse
         generalize bd (Val.mk k' n' s' t' l' f')=z at hr hrule
         have hkc:([AV.pv PV.nilf,AV.pv (PV.clo 282 [] []),AV.pv (PV.clo 284 [] []),AV.pv (PV.clo 285 [] []),AV.pv (PV.clo 287 [] []),AV.pv (PV.clo 289 [] []),AV.pv (PV.clo 290 [] []),AV.pv (PV.clo 291 [] []),AV.pv (PV.clo 292 [] []),AV.pv (PV.clo 293 [] []),AV.pv (PV.clo 294 [] [])]:List AV)[k'.toNat*1]? = some (.pv (.clo (Jh k') [] [])):=by
          have hc:k'=1\/k'=2\/k'=3\/k'=4\/k'=5\/k'=6\/k'=7\/k'=8\/k'=9\/k'=10:=by omega
          rcases hc with h | h | h | h | h | h | h | h | h | h<;>rw[h]<;>rfl
         generalize Jh k'=rf at hkc hrule
         by_cases hz:z=0
         ·rw[if_pos hz] at hr
          subst hz
          refine zgZ ?_
          refine ab.pure h111 rfl ?_
          refine zgZ ?_
          refine ab.pure huse rfl ?_
          simp(disch:=try exact dI) only[kf,hkc,push_cast,seval]
          refine ab.pure hrule rfl ?_
          refine zgZ ?_
          exact⟨j+1,aI qsZ,rfl,by omega,hr⟩
         ·rw[if_neg hz] at hr
          subst hr
          refine zgZ ?_
          refine ab.pure h111 rfl ?_
          refine zgZ ?_
          refine ab.pure huse rfl ?_
          simp(disch:=try exact dI) only[kf,hkc,push_cast,seval]
          refine ab.pure hrule rfl ?_
          exact qsZ
 ·rintro j ⟨hj,hj4,hr⟩
  simp only[List.length_map] at hj
  subst hj
  rw[List.drop_length] at hr
  rw[show R=0 from hr]
  exact qsZ
theorem I5 (n:Nat)(v:Val)(hd:cW n v)(hv:v.ok)(hs:(cJ n 1 v).length<=9223372036854775806):ak Tryz.prog ap 235 [v.pv] (.int .i64 ((cJ n 1 v).length:Int)):=by
 have hseq:=iU n v hd hv
 have h243:=kh v
 generalize hxs:cJ n 1 v=xs at *
 obtain⟨k,a,s,t,l,fs⟩:=v
 simp only[Val.pv_mk] at h243 hseq
 refine ak.intro RO.2 (by simp[RO]) ?_
 simp(disch:=try exact dI) only[RO,Val.pv_mk,push_cast,seval]
 refine ab.pure h243 rfl ?_
 refine zgZ ?_
 refine sB ([]) (fun i:Nat=>[]) (fun i:Nat=>[(0,.cells 3 true [.pv (.int .i64 (i:Int))])]) (fun j i=>j=i/\i<=xs.length) (0) (hseq) ?_;intro e0 σ0 n0 h0;simp(disch:=try exact dI) only[push_cast,seval] at h0;obtain⟨rfl,rfl,rfl⟩:=h0;refine⟨?_,?_,?_,?_,?_⟩
 ·exact qsZ
 ·exact⟨rfl,by omega⟩
 ·rfl
 ·rintro j i y hy ⟨hij,hi⟩
  subst hij
  have hjl:j<xs.length:=by
   have:=(List.getElem?_eq_some_iff.1 hy).1
   simpa using this
  obtain⟨q,hq⟩:∃ q,xs[j]? = some q:=⟨_,List.getElem?_eq_getElem hjl⟩
  have hye:y=yg q:=by simpa[hq] using hy.symm
  subst hye
  obtain⟨lv,⟨k',n',s',t',l',f'⟩⟩:=q
  refine⟨rfl,?_⟩
  simp only[yg,Val.pv_mk]
  clear hy h243 hseq
  refine zgZ ?_
  exact⟨j+1,aI qsZ,rfl,by omega⟩
 ·rintro j ⟨hj,hi⟩
  simp only[List.length_map] at hj
  subst hj
  exact qsZ
end Go.Proofs.YtbojpfpliibfbaaGreatDoor
