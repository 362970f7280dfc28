/- A part. -/
import Derived.Test.YtbaaokocnegdoaaGreatDoorEnVR1
set_option linter.unusedVariables false
set_option linter.unusedSimpArgs false
set_option maxHeartbeats 16000000
set_option maxRecDepth 100000
open Bool renaming true_and->Wb,and_false->WB,false_and->Wc
open List renaming getElem?_eq_getElem->Vg,take_of_length_le->VC,getElem?_eq_some_iff->Vh
open Int renaming add_sub_cancel->VD
namespace Go.Proofs.YtbaaokocnegdoaaGreatDoor
open Go Go.Ab
attribute [local irreducible] vc
theorem xh (e:List (Nat×AV))(σ:List (Nat×Blk))(new:Nat)(x:AX):nv e σ new (.ofStr x)=lI new (evE e x):=_root_.id rfl
theorem Cq (new:Nat){k:List UInt8}(h:k.length<=140737488355328):lI new (.pv (.str k))=some (.pv (.list (aG k)),[(new,.none)]):=by simp only[lI];rw[if_pos h]
def jV (c:UInt8):Bool:=decide (97<=c.toNat)&&decide (c.toNat<=122)
def okC (c:UInt8):Bool:=jV c||(decide (48<=c.toNat)&&decide (c.toNat<=57))||decide (c.toNat=95)
def bP (s:List UInt8):Bool:=decide (0<s.length)&&(decide (s.length<=32)&&(jV (s.headD 0)&&s.all okC))
theorem AB (s:List UInt8):(aG s).length=s.length:=by simp[aG]
theorem Fl {s:List UInt8}{i:Nat}{c:UInt8}(h:s[i]? = some c):(aG s)[i]? = some (.int .u8 (c.toNat:Int)):=by simp[aG,h]
theorem wX {s:List UInt8}{i:Nat}{c:UInt8}(h:s[i]? = some c):(s.take (i+1)).all okC=((s.take i).all okC&&okC c):=by rw[aD h];simp
theorem jO {s:List UInt8}{i:Nat}{c:UInt8}(h:s[i]? = some c)(hc:okC c=false):s.all okC=false:=by
 rw[Bool.eq_false_iff]
 intro ha
 have:=List.all_eq_true.1 ha c (List.mem_of_getElem? h)
 rw[hc] at this;cases this
theorem tA (s:List UInt8):ae Tryz.prog aq 240 [.str s] (.bool (bP s)):=by
 cases s with
 | nil=>
   rw[show bP []=false from rfl]
   refine ae.intro FN.2 (by simp[FN]) ?_
   simp(disch:=try exact dI) only[FN,push_cast,seval]
 | cons c r=>
   generalize hs:c::r=s
   have hne:¬ s=[]:=by rw[<- hs];simp
   have h0:s[0]? = some c:=by rw[<- hs];rfl
   have hh:s.headD 0=c:=by rw[<- hs];rfl
   have hlen:0<s.length:=by rw[<- hs];simp
   clear hs
   refine ae.intro FN.2 (by simp[FN]) ?_
   by_cases h32:s.length<=32
   ·by_cases ha:97<=c.toNat
    ·by_cases hz:c.toNat<=122
     ·have e:bP s=s.all okC:=by simp only[bP,hh,jV,decide_eq_true hlen,decide_eq_true h32,decide_eq_true ha,decide_eq_true hz,Wb]
      rw[e]
      simp(disch:=try exact dI) only[FN,hne,h0,am,xh,Cq,AB,push_cast,seval]
      refine ap ([]) (fun i:Nat=>[(25,.pv (.int .i64 (i:Int)))]) (fun _=>[]) (fun i=>i<=s.length/\(s.take i).all okC=true) (fun i=>s.length - i) (0) ?_;intro e0 σ0 n0 h0;simp(disch:=try exact dI) only[push_cast,seval] at h0;obtain⟨rfl,rfl,rfl⟩:=h0;refine⟨?_,?_,?_⟩
      ·exact qsZ
      ·exact⟨by omega,by simp⟩
      rintro i ⟨hi,hall⟩
      by_cases hlt:i<s.length
      ·have hltI:(i:Int)<(s.length:Int):=by omega
       obtain⟨b,hb⟩:∃ b,s[i]? = some b:=⟨_,Vg hlt⟩
       have hbp:=Fl hb
       have hbn:=b.toNat_lt
       have hsn:=wX hb
       rw[hall,Wb] at hsn
       have hc:b.toNat<48\/(48<=b.toNat/\b.toNat<=57)\/(57<b.toNat/\b.toNat<97/\b.toNat≠95)\/b.toNat=95\/(97<=b.toNat/\b.toNat<=122)\/122<b.toNat:=by omega
       rcases hc with hc | hc | hc | hc | hc | hc
       ·have hbad:s.all okC=false:=jO hb (by simp[okC,jV];omega)
        rw[hbad]
        simp(disch:=try exact dI) only[hbp,push_cast,seval]
       ·have hok:okC b=true:=by simp[okC,jV];omega
        simp(disch:=try exact dI) only[hbp,push_cast,seval]
        exact⟨i+1,aI qsZ,⟨by omega,by rw[hsn,hok]⟩,by omega⟩
       ·have hbad:s.all okC=false:=jO hb (by simp[okC,jV];omega)
        rw[hbad]
        simp(disch:=try exact dI) only[hbp,push_cast,seval]
       ·have hok:okC b=true:=by simp[okC,jV];omega
        simp(disch:=try exact dI) only[hbp,push_cast,seval]
        exact⟨i+1,aI qsZ,⟨by omega,by rw[hsn,hok]⟩,by omega⟩
       ·have hok:okC b=true:=by simp[okC,jV];omega
        simp(disch:=try exact dI) only[hbp,push_cast,seval]
        exact⟨i+1,aI qsZ,⟨by omega,by rw[hsn,hok]⟩,by omega⟩
       ·have hbad:s.all okC=false:=jO hb (by simp[okC,jV];omega)
        rw[hbad]
        simp(disch:=try exact dI) only[hbp,push_cast,seval]
      ·have he:s.take i=s:=VC (by omega)
       rw[he] at hall
       rw[hall]
       exact qsZ
     ·have e:bP s=false:=by simp only[bP,hh,jV,decide_eq_false hz,WB,Wc]
      rw[e]
      simp(disch:=try exact dI) only[FN,hne,h0,am,push_cast,seval]
    ·have e:bP s=false:=by simp only[bP,hh,jV,decide_eq_false ha,WB,Wc]
     rw[e]
     simp(disch:=try exact dI) only[FN,hne,h0,am,push_cast,seval]
   ·have e:bP s=false:=by simp[bP,h32]
    rw[e]
    simp(disch:=try exact dI) only[FN,hne,push_cast,seval]
theorem tz (s:List UInt8):ae Tryz.prog aq 249 [.str s] (.bool (bP s)):=by
 refine ae.intro RF.2 (by simp[RF]) ?_
 by_cases h1:0<s.length
 ·by_cases h32:s.length<=32
  ·have e:bP s=(jV (s.headD 0)&&s.all okC):=by simp only[bP,decide_eq_true h1,decide_eq_true h32,Wb]
   rw[e]
   have hd0:s[0]? = some (s.headD 0):=by cases s with
    | nil=>simp at h1
    | cons a b=>rfl
   simp(disch:=try exact dI) only[RF,push_cast,seval]
   refine ap ([]) (fun i:Nat=>[(3,.pv (.int .i64 (i:Int)))]) (fun _=>[]) (fun i=>i<=s.length/\(s.take i).all okC=true/\(0<i->jV (s.headD 0)=true)) (fun i=>s.length - i) (0) ?_;intro e0 σ0 n0 h0;simp(disch:=try exact dI) only[push_cast,seval] at h0;obtain⟨rfl,rfl,rfl⟩:=h0;refine⟨?_,?_,?_⟩
   ·exact qsZ
   ·exact⟨by omega,by simp,by omega⟩
   rintro i ⟨hi,hall,hl0⟩
   by_cases hlt:i<s.length
   ·have hltI:(i:Int)<(s.length:Int):=by omega
    obtain⟨b,hb⟩:∃ b,s[i]? = some b:=⟨_,Vg hlt⟩
    have hbn:=b.toNat_lt
    have hsn:=wX hb
    rw[hall,Wb] at hsn
    by_cases hlt2:97<=b.toNat/\b.toNat<=122
    ·have hok:okC b=true:=by simp[okC,jV];omega
     have hlet:0<i+1->jV (s.headD 0)=true:=by
      intro _
      by_cases hi0:i=0
      ·subst hi0
       rw[hb] at hd0
       rw[<- Option.some.inj hd0]
       simp[jV];omega
      ·exact hl0 (by omega)
     simp(disch:=try exact dI) only[hb,am,push_cast,seval]
     exact⟨i+1,aI qsZ,⟨by omega,by rw[hsn,hok],hlet⟩,by omega⟩
    ·by_cases hi0:i=0
     ·subst hi0
      have hbad:(jV (s.headD 0)&&s.all okC)=false:=by
       rw[hb] at hd0
       rw[<- Option.some.inj hd0]
       simp only[jV,Bool.and_eq_false_iff,decide_eq_false_iff_not];left;omega
      rw[hbad]
      have hc:b.toNat<97\/122<b.toNat:=by omega
      rcases hc with hc | hc
      ·simp(disch:=try exact dI) only[hb,am,push_cast,seval]
      ·simp(disch:=try exact dI) only[hb,am,push_cast,seval]
     ·have hi0I:¬ (i:Int)=0:=by omega
      have hl:=hl0 (by omega)
      have hc:b.toNat<48\/(48<=b.toNat/\b.toNat<=57)\/(57<b.toNat/\b.toNat<97/\b.toNat≠95)\/b.toNat=95\/122<b.toNat:=by omega
      rcases hc with hc | hc | hc | hc | hc
      ·have hbad:(jV (s.headD 0)&&s.all okC)=false:=by rw[jO hb (by simp[okC,jV];omega),WB]
       rw[hbad]
       simp(disch:=try exact dI) only[hb,am,push_cast,seval]
      ·have hok:okC b=true:=by simp[okC,jV];omega
       simp(disch:=try exact dI) only[hb,am,push_cast,seval]
       exact⟨i+1,aI qsZ,⟨by omega,by rw[hsn,hok],fun _=>hl⟩,by omega⟩
      ·have hbad:(jV (s.headD 0)&&s.all okC)=false:=by rw[jO hb (by simp[okC,jV];omega),WB]
       rw[hbad]
       simp(disch:=try exact dI) only[hb,am,push_cast,seval]
      ·have hok:okC b=true:=by simp[okC,jV];omega
       simp(disch:=try exact dI) only[hb,am,push_cast,seval]
       exact⟨i+1,aI qsZ,⟨by omega,by rw[hsn,hok],fun _=>hl⟩,by omega⟩
      ·have hbad:(jV (s.headD 0)&&s.all okC)=false:=by rw[jO hb (by simp[okC,jV];omega),WB]
       rw[hbad]
       simp(disch:=try exact dI) only[hb,am,push_cast,seval]
   ·have he:s.take i=s:=VC (by omega)
    rw[he] at hall
    rw[hall,hl0 (by omega)]
    exact qsZ
  ·have e:bP s=false:=by simp[bP,h32]
   rw[e]
   simp(disch:=try exact dI) only[RF,push_cast,seval]
 ·have e:bP s=false:=by simp[bP,h1]
  rw[e]
  simp(disch:=try exact dI) only[RF,push_cast,seval]
def eV (n a b:Int):Int:=if n<a\/b<n then 2 else 0
def dm (n m e:Int):Int:=if m<n then e else 0
def fo:Option (List UInt8)->List (List UInt8)->Int
 | _,[]=>0
 | p,s::r=>if bP s=false then 12 else if p=some s then 7 else if (p.any fun q=>bg s q)=true then 24 else fo (some s) r
def be:Val->Int
 | .mk k n s t l fs=>
   if k=1 then eV n 0 1
   else if k=2 then eV n (-999999999999999) 999999999999999
   else if k=3 then (if eV n (-999999999999999) 999999999999999=0 then eV s 0 12 else eV n (-999999999999999) 999999999999999)
   else if k=4 then (if dm t.length 1024 5=0 then (if Lib.validD t=true then 0 else 16) else dm t.length 1024 5)
   else if k=5 then dm t.length 1024 5
   else if k=6 then eV n (-719162) 2932896
   else if k=7 then eV n (-62135596800000) 253402300799999
   else if k=8 then dm l.length 256 9
   else if k=9 then (if dm fs.length 64 9=0 then fo none (fs.map Fld.name) else dm fs.length 64 9)
   else if k=10 then (if bP t=false then 12 else if l.length=0 then 4 else dm l.length 1 3)
   else 0
theorem LZ (v:Val)(hk:v.kind=1):ae Tryz.prog aq 268 [v.pv] (.int .i64 (be v)):=by
 obtain⟨k,n,s,t,l,fs⟩:=v
 simp only[Val.kind] at hk;subst hk
 rw[show be (.mk 1 n s t l fs)=eV n 0 1 from rfl]
 have h:=dy n 0 1
 change ae _ _ _ _ (.int .i64 (eV n 0 1)) at h
 generalize eV n 0 1=e at *
 refine ae.intro T4.2 (by simp[T4]) ?_
 simp(disch:=try exact dI) only[T4,Vf,push_cast,seval]
 refine ab.pure h rfl ?_
 exact qsZ
theorem LY (v:Val)(hk:v.kind=2):ae Tryz.prog aq 270 [v.pv] (.int .i64 (be v)):=by
 obtain⟨k,n,s,t,l,fs⟩:=v
 simp only[Val.kind] at hk;subst hk
 rw[show be (.mk 2 n s t l fs)=eV n (-999999999999999) 999999999999999 from rfl]
 have h:=dy n (-999999999999999) 999999999999999
 change ae _ _ _ _ (.int .i64 (eV n (-999999999999999) 999999999999999)) at h
 generalize eV n (-999999999999999) 999999999999999=e at *
 refine ae.intro T3.2 (by simp[T3]) ?_
 simp(disch:=try exact dI) only[T3,Vf,push_cast,seval]
 refine ab.pure h rfl ?_
 exact qsZ
def iQ:List Int->Int
 | []=>0
 | a::r=>if a=0 then iQ r else a
theorem rz:∀ {L:List Int} {i:Nat} {x:Int},L[i]? = some x->x≠0->(∀ j,j<i->∀ y,L[j]? = some y->y=0)->iQ L=x
 | [],i,x,h,_,_=>by simp at h
 | a::r,0,x,h,hx,_=>by simp at h;subst h;exact if_neg hx
 | a::r,i+1,x,h,hx,h0=>by
   have ha:=h0 0 (by omega) a rfl
   subst ha
   rw[iQ,if_pos rfl]
   exact rz (by simpa using h) hx fun j hj y hy=>h0 (j+1) (by omega) y (by simpa using hy)
theorem mB:∀ {L:List Int},(∀ (j:Nat) y,L[j]? = some y->y=0)->iQ L=0
 | [],_=>rfl
 | a::r,h=>by
   rw[iQ,if_pos (h 0 a rfl)]
   exact mB fun j y hy=>h (j+1) y (by simpa using hy)
theorem Ep (L:List Int)(hL:L.length<=1000):ae Tryz.prog aq 272 [.list (L.map fun n=>.int .i64 n)] (.int .i64 (iQ L)):=by
 generalize hr:iQ L=e
 refine ae.intro T1.2 (by simp[T1]) ?_
 simp(disch:=try exact dI) only[T1,push_cast,seval]
 refine ap ([]) (fun i:Nat=>[(7,.pv (.int .i64 (i:Int)))]) (fun _=>[]) (fun i=>i<=L.length/\(∀ j,j<i->∀ y,L[j]? = some y->y=0)) (fun i=>L.length - i) (0) ?_;intro e0 σ0 n0 h0;simp(disch:=try exact dI) only[push_cast,seval] at h0;obtain⟨rfl,rfl,rfl⟩:=h0;refine⟨?_,?_,?_⟩
 ·exact qsZ
 ·exact⟨by omega,by omega⟩
 rintro i ⟨hi,h0⟩
 by_cases hlt:i<L.length
 ·have hltI:(i:Int)<(L.length:Int):=by omega
  obtain⟨x,hx⟩:∃ x,L[i]? = some x:=⟨_,Vg hlt⟩
  have hcp:(L.map fun n=>PV.int .i64 n)[i]? = some (.int .i64 x):=by simp[hx]
  by_cases hx0:x=0
  ·subst hx0
   simp(disch:=try exact dI) only[hcp,push_cast,seval]
   exact⟨i+1,aI qsZ,⟨by omega,fun j hj y hy=>by
    rcases Nat.lt_or_ge j i with h | h
    ·exact h0 j h y hy
    ·have:j=i:=by omega
     subst this
     rw[hx] at hy;exact (Option.some.inj hy).symm⟩,by omega⟩
  ·have:=rz hx hx0 h0
   rw[this] at hr
   subst hr
   simp(disch:=try exact dI) only[hcp,push_cast,seval]
 ·have:=mB (L:=L) fun j y hy=>h0 j (by have:=(Vh.1 hy).1;omega) y hy
  rw[this] at hr
  subst hr
  exact qsZ
theorem IW (a b:Int):ae Tryz.prog aq 272 [.list [.int .i64 a,.int .i64 b]] (.int .i64 (if a=0 then b else a)):=by
 have:=Ep [a,b] (by simp)
 have e:iQ [a,b]=if a=0 then b else a:=by
  simp only[iQ]
  by_cases hb:b=0
  ·subst hb;simp
  ·simp[hb]
 rw[e] at this
 exact this
theorem LX (v:Val)(hk:v.kind=3):ae Tryz.prog aq 271 [v.pv] (.int .i64 (be v)):=by
 obtain⟨k,n,s,t,l,fs⟩:=v
 simp only[Val.kind] at hk;subst hk
 rw[show be (.mk 3 n s t l fs)=(if eV n (-999999999999999) 999999999999999=0 then eV s 0 12 else eV n (-999999999999999) 999999999999999) from rfl]
 have h:=dy n (-999999999999999) 999999999999999
 have h':=dy s 0 12
 change ae _ _ _ _ (.int .i64 (eV n (-999999999999999) 999999999999999)) at h
 change ae _ _ _ _ (.int .i64 (eV s 0 12)) at h'
 generalize eV n (-999999999999999) 999999999999999=e at *
 generalize eV s 0 12=e' at *
 have h2:=IW e e'
 generalize (if e=0 then e' else e)=e2 at *
 refine ae.intro T2.2 (by simp[T2]) ?_
 simp(disch:=try exact dI) only[T2,Vf,push_cast,seval]
 refine ak h rfl ?_
 refine zgZ ?_
 refine ab.pure h' rfl ?_
 refine zgZ ?_
 refine ab.pure h2 rfl ?_
 exact qsZ
theorem LV (v:Val)(hk:v.kind=5):ae Tryz.prog aq 275 [v.pv] (.int .i64 (be v)):=by
 obtain⟨k,n,s,t,l,fs⟩:=v
 simp only[Val.kind] at hk;subst hk
 rw[show be (.mk 5 n s t l fs)=dm t.length 1024 5 from rfl]
 have h:=lj t.length 1024 5
 change ae _ _ _ _ (.int .i64 (dm t.length 1024 5)) at h
 generalize dm t.length 1024 5=e at *
 refine ae.intro TZ.2 (by simp[TZ]) ?_
 simp(disch:=try exact dI) only[TZ,Vf,push_cast,seval]
 refine ab.pure h rfl ?_
 exact qsZ
theorem LU (v:Val)(hk:v.kind=6):ae Tryz.prog aq 276 [v.pv] (.int .i64 (be v)):=by
 obtain⟨k,n,s,t,l,fs⟩:=v
 simp only[Val.kind] at hk;subst hk
 rw[show be (.mk 6 n s t l fs)=eV n (-719162) 2932896 from rfl]
 have h:=dy n (-719162) 2932896
 change ae _ _ _ _ (.int .i64 (eV n (-719162) 2932896)) at h
 generalize eV n (-719162) 2932896=e at *
 refine ae.intro TY.2 (by simp[TY]) ?_
 simp(disch:=try exact dI) only[TY,Vf,push_cast,seval]
 refine ab.pure h rfl ?_
 exact qsZ
theorem LS (v:Val)(hk:v.kind=7):ae Tryz.prog aq 277 [v.pv] (.int .i64 (be v)):=by
 obtain⟨k,n,s,t,l,fs⟩:=v
 simp only[Val.kind] at hk;subst hk
 rw[show be (.mk 7 n s t l fs)=eV n (-62135596800000) 253402300799999 from rfl]
 have h:=dy n (-62135596800000) 253402300799999
 change ae _ _ _ _ (.int .i64 (eV n (-62135596800000) 253402300799999)) at h
 generalize eV n (-62135596800000) 253402300799999=e at *
 refine ae.intro TX.2 (by simp[TX]) ?_
 simp(disch:=try exact dI) only[TX,Vf,push_cast,seval]
 refine ab.pure h rfl ?_
 exact qsZ
theorem LR (v:Val)(hk:v.kind=8):ae Tryz.prog aq 278 [v.pv] (.int .i64 (be v)):=by
 obtain⟨k,n,s,t,l,fs⟩:=v
 simp only[Val.kind] at hk;subst hk
 rw[show be (.mk 8 n s t l fs)=dm l.length 256 9 from rfl]
 have h:=lj l.length 256 9
 change ae _ _ _ _ (.int .i64 (dm l.length 256 9)) at h
 generalize dm l.length 256 9=e at *
 refine ae.intro TW.2 (by simp[TW]) ?_
 simp(disch:=try exact dI) only[TW,Vf,push_cast,seval]
 refine ab.pure h rfl ?_
 exact qsZ
theorem LW (v:Val)(hk:v.kind=4):ae Tryz.prog aq 273 [v.pv] (.int .i64 (be v)):=by
 obtain⟨k,n,s,t,l,fs⟩:=v
 simp only[Val.kind] at hk;subst hk
 rw[show be (.mk 4 n s t l fs)=(if dm t.length 1024 5=0 then (if Lib.validD t=true then 0 else 16) else dm t.length 1024 5) from rfl]
 have h:=lj t.length 1024 5
 have hv:=dW t
 change ae _ _ _ _ (.int .i64 (dm t.length 1024 5)) at h
 generalize dm t.length 1024 5=e at *
 refine ae.intro RD.2 (by simp[RD]) ?_
 by_cases he:e=0
 ·subst he
  rw[if_pos rfl]
  cases hb:Lib.validD t with
  | true=>
    rw[hb] at hv
    rw[if_pos rfl]
    simp(disch:=try exact dI) only[RD,Vf,push_cast,seval]
    refine ab.pure h rfl ?_
    refine zgZ ?_
    refine ab.pure hv rfl ?_
    exact qsZ
  | false=>
    rw[hb] at hv
    rw[if_neg (by simp)]
    simp(disch:=try exact dI) only[RD,Vf,push_cast,seval]
    refine ab.pure h rfl ?_
    refine zgZ ?_
    refine ab.pure hv rfl ?_
    exact qsZ
 ·rw[if_neg he]
  simp(disch:=try exact dI) only[RD,Vf,push_cast,seval]
  refine ab.pure h rfl ?_
  exact qsZ
theorem l6 {fs:List (List UInt8)}{i:Nat}{s:List UInt8}(h:fs[i]? = some s)(p:Option (List UInt8)):fo p (fs.drop i)=if bP s=false then 12 else if p=some s then 7 else if (p.any fun q=>bg s q)=true then 24 else fo (some s) (fs.drop (i+1)):=by
 have hi:i<fs.length:=(Vh.1 h).1
 have he:fs[i]=s:=(Vh.1 h).2
 rw[List.drop_eq_getElem_cons hi,he,fo]
def iC (fs:List Fld)(i:Nat):Option (List UInt8):=if i=0 then none else (fs[i - 1]?).map Fld.name
theorem LQ (v:Val)(hk:v.kind=9):ae Tryz.prog aq 279 [v.pv] (.int .i64 (be v)):=by
 obtain⟨k,n,s,t,l,fs⟩:=v
 simp only[Val.kind] at hk;subst hk
 rw[show be (.mk 9 n s t l fs)=(if dm fs.length 64 9=0 then fo none (fs.map Fld.name) else dm fs.length 64 9) from rfl]
 have h:=lj fs.length 64 9
 change ae _ _ _ _ (.int .i64 (dm fs.length 64 9)) at h
 by_cases h64:(64:Int)<fs.length
 ·have e:dm fs.length 64 9=9:=if_pos h64
  rw[e] at h ⊢
  rw[if_neg (by omega)]
  refine ae.intro OF.2 (by simp[OF]) ?_
  simp(disch:=try exact dI) only[OF,Vf,push_cast,seval]
  refine ab.pure h rfl ?_
  exact qsZ
 ·have e:dm fs.length 64 9=0:=if_neg h64
  rw[e] at h ⊢
  rw[if_pos rfl]
  have hfl:fs.length<=64:=by omega
  obtain⟨R,hR⟩:∃ R,R=fo none (fs.map Fld.name):=⟨_,rfl⟩
  rw[<- hR]
  refine ae.intro OF.2 (by simp[OF]) ?_
  simp(disch:=try exact dI) only[OF,Vf,push_cast,seval]
  refine ab.pure h rfl ?_
  refine zgZ ?_
  refine ap ([]) (fun i:Nat=>[(16,.pv (.int .i64 (i:Int)))]) (fun _=>[]) (fun i=>i<=fs.length/\R=fo (iC fs i) ((fs.map Fld.name).drop i)) (fun i=>fs.length - i) (0) ?_;intro e0 σ0 n0 h0;simp(disch:=try exact dI) only[push_cast,seval] at h0;obtain⟨rfl,rfl,rfl⟩:=h0;refine⟨?_,?_,?_⟩
  ·exact qsZ
  ·exact⟨by omega,by simpa[iC] using hR⟩
  rintro i ⟨hi,hr⟩
  by_cases hlt:i<fs.length
  ·have hltI:(i:Int)<(fs.length:Int):=by omega
   obtain⟨c,hc⟩:∃ c,fs[i]? = some c:=⟨_,Vg hlt⟩
   obtain⟨nm,⟨k',n',s',t',l',f'⟩⟩:=c
   have hcp:(fs.map Fld.pv)[i]? = some (.agg [.str nm,.int .i64 k',.int .i64 n',.int .i64 s',.str t',.list (l'.map Val.pv),.list (f'.map Fld.pv)]):=by simp[hc,U3,Vf,ag]
   have hnm:(fs.map Fld.name)[i]? = some nm:=by simp[hc,Fld.name]
   have hn:=tA nm
   rw[l6 hnm] at hr
   have hnext:iC fs (i+1)=some nm:=by simp[iC,hc,Fld.name]
   cases hb:bP nm with
   | false=>
     rw[hb] at hn hr
     rw[if_pos rfl] at hr
     subst hr
     simp(disch:=try exact dI) only[hcp,push_cast,seval]
     refine ab.pure hn rfl ?_
     exact qsZ
   | true=>
     rw[hb] at hn hr
     rw[if_neg (by simp)] at hr
     by_cases hi0:i=0
     ·have hiI:¬ (0:Int)<(i:Int):=by omega
      have hpn:iC fs i=none:=if_pos hi0
      rw[hpn,if_neg (by simp),if_neg (by simp),<- hnext] at hr
      simp(disch:=try exact dI) only[hcp,push_cast,seval]
      refine ab.pure hn rfl ?_
      refine zgZ ?_
      exact⟨i+1,aI qsZ,⟨by omega,by rw[List.map_drop];exact hr⟩,by omega⟩
     ·obtain⟨j,rfl⟩:∃ j,i=j+1:=⟨i - 1,by omega⟩
      obtain⟨c,hc'⟩:∃ c,fs[j]? = some c:=⟨_,Vg (by omega)⟩
      have hpn:iC fs (j+1)=some c.name:=by simp[iC,hc']
      obtain⟨q,⟨k2,n2,s2,t2,l2,f2⟩⟩:=c
      have hcq:(fs.map Fld.pv)[j]? = some (.agg [.str q,.int .i64 k2,.int .i64 n2,.int .i64 s2,.str t2,.list (l2.map Val.pv),.list (f2.map Fld.pv)]):=by simp[hc',U3,Vf,ag]
      simp only[Fld.name] at hpn
      rw[hpn] at hr
      by_cases hq:nm=q
      ·subst hq
       rw[if_pos rfl] at hr
       subst hr
       simp(disch:=try exact dI) only[hcp,VD,push_cast,seval]
       refine ab.pure hn rfl ?_
       simp(disch:=try exact dI) only[hcq,VD,push_cast,seval]
      ·rw[if_neg (by simpa using fun e=>hq e.symm)] at hr
       cases hlt2:bg nm q with
       | true=>
         rw[if_pos (by simpa using hlt2)] at hr
         subst hr
         simp(disch:=try exact dI) only[hcp,VD,push_cast,seval]
         refine ab.pure hn rfl ?_
         simp(disch:=try exact dI) only[hcq,VD,hq,hlt2,push_cast,seval]
       | false=>
         rw[if_neg (by simp[hlt2]),<- hnext] at hr
         simp(disch:=try exact dI) only[hcp,VD,push_cast,seval]
         refine ab.pure hn rfl ?_
         simp(disch:=try exact dI) only[hcq,VD,hq,hlt2,push_cast,seval]
         exact⟨j+1+1,aI qsZ,⟨by omega,by rw[List.map_drop];exact hr⟩,by omega⟩
  ·have hie:i=fs.length:=by omega
   subst hie
   rw[List.drop_of_length_le (by simp)] at hr
   rw[show R=0 from hr]
   exact qsZ
theorem LP (v:Val)(hk:v.kind=10):ae Tryz.prog aq 280 [v.pv] (.int .i64 (be v)):=by
 obtain⟨k,n,s,t,l,fs⟩:=v
 simp only[Val.kind] at hk;subst hk
 rw[show be (.mk 10 n s t l fs)=(if bP t=false then 12 else if l.length=0 then 4 else dm l.length 1 3) from rfl]
 have h:=lj l.length 1 3
 have hn:=tA t
 change ae _ _ _ _ (.int .i64 (dm l.length 1 3)) at h
 generalize dm l.length 1 3=e at *
 refine ae.intro RC.2 (by simp[RC]) ?_
 cases hb:bP t with
 | false=>
   rw[hb] at hn
   rw[if_pos rfl]
   simp(disch:=try exact dI) only[RC,Vf,push_cast,seval]
   refine ab.pure hn rfl ?_
   exact qsZ
 | true=>
   rw[hb] at hn
   rw[if_neg (by simp)]
   by_cases hl:l.length=0
   ·have hlI:(l.length:Int)=0:=by omega
    rw[if_pos hl]
    simp(disch:=try exact dI) only[RC,Vf,push_cast,seval]
    refine ab.pure hn rfl ?_
    exact qsZ
   ·have hlI:¬ (l.length:Int)=0:=by omega
    rw[if_neg hl]
    simp(disch:=try exact dI) only[RC,Vf,push_cast,seval]
    refine ab.pure hn rfl ?_
    refine zgZ ?_
    refine ab.pure h rfl ?_
    exact qsZ
