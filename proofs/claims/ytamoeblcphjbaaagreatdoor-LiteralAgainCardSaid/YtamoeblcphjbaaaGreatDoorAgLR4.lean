/- A part of the proof for LiteralAgainCardSaid. -/
import Derived.Test.YtamoeblcphjbaaaGreatDoorAgLR2
import Derived.Test.YtamoeblcphjbaaaGreatDoorAgCore6
set_option maxRecDepth 100000
set_option linter.unusedVariables false
set_option linter.unusedSimpArgs false
-- many steps
namespace Go.Proofs.YtamoeblcphjbaaaGreatDoor
open Go Go.Ab
attribute [local irreducible] vc
theorem uo (e:List (Nat×AV))(σ:List (Nat×Blk))(new:Nat)(x:AX):js e σ new (.ofStr x)=ki new (evE e x):=_root_.id rfl
theorem yZ (new:Nat){k:List UInt8}(h:k.length≤140737488355328):ki new (.pv (.str k))=some (.pv (.list (aA k)),[(new,.none)]):=by simp only[ki];rw[if_pos h]
def w8 (c:UInt8):Bool:=decide (97≤c.toNat)&&decide (c.toNat≤122)
def okC (c:UInt8):Bool:=w8 c||(decide (48≤c.toNat)&&decide (c.toNat≤57))||decide (c.toNat=95)
def bA (s:List UInt8):Bool:=decide (0<s.length)&&(decide (s.length≤32)&&(w8 (s.headD 0)&&s.all okC))
theorem wK (s:List UInt8):(aA s).length=s.length:=by simp[aA]
theorem Cc {s:List UInt8}{i:Nat}{c:UInt8}(h:s[i]? = some c):(aA s)[i]? = some (.int .u8 (c.toNat:Int)):=by simp[aA,h]
theorem Gl {s:List UInt8}{i:Nat}{c:UInt8}(h:s[i]? = some c):(s.take (i+1)).all okC=((s.take i).all okC&&okC c):=by rw[bh h];simp
theorem rU {s:List UInt8}{i:Nat}{c:UInt8}(h:s[i]? = some c)(hc:okC c=false):s.all okC=false:=by
 rw[Bool.eq_false_iff]
 intro ha
 have:=List.all_eq_true.1 ha c (List.mem_of_getElem? h)
 rw[hc] at this;cases this
set_option maxHeartbeats 2000000 in
theorem mS (s:List UInt8):aq Tryz.prog aF 82 [.str s] (.bool (bA s)):=by
 cases s with
 | nil=>
   rw[show bA []=false from rfl]
   refine aq.intro HA (by simp[F82]) ?_
   simp(disch:=try exact dI) only[F82,push_cast,seval]
 | cons c r=>
   generalize hs:c::r=s
   have hne:¬ s=[]:=by rw[← hs];simp
   have h0:s[0]? = some c:=by rw[← hs];rfl
   have hh:s.headD 0=c:=by rw[← hs];rfl
   have hlen:0<s.length:=by rw[← hs];simp
   clear hs
   refine aq.intro HA (by simp[F82]) ?_
   by_cases h32:s.length≤32
   ·by_cases ha:97≤c.toNat
    ·by_cases hz:c.toNat≤122
     ·have e:bA s=s.all okC:=by simp only[bA,hh,w8,decide_eq_true hlen,decide_eq_true h32,decide_eq_true ha,decide_eq_true hz,Bool.true_and]
      rw[e]
      simp(disch:=try exact dI) only[F82,hne,h0,ag,uo,yZ,wK,push_cast,seval]
      refine be ([]) (fun i:Nat=>[(25,.pv (.int .i64 (i:Int)))]) (fun _=>[]) (fun i=>i≤s.length∧(s.take i).all okC=true) (fun i=>s.length - i) (0) ?_;intro e0 σ0 n0 h0;simp(disch:=try exact dI) only[push_cast,seval] at h0;obtain⟨rfl,rfl,rfl⟩:=h0;refine⟨?_,?_,?_⟩
      ·simp(disch:=try exact dI) only[push_cast,seval]
      ·exact⟨by omega,by simp⟩
      rintro i ⟨hi,hall⟩
      by_cases hlt:i<s.length
      ·have hltI:(i:Int)<(s.length:Int):=by omega
       obtain⟨b,hb⟩:∃ b,s[i]? = some b:=⟨_,List.getElem?_eq_getElem hlt⟩
       have hbp:=Cc hb
       have hbn:=b.toNat_lt
       have hsn:=Gl hb
       rw[hall,Bool.true_and] at hsn
       have hc:b.toNat<48∨(48≤b.toNat∧b.toNat≤57)∨(57<b.toNat∧b.toNat<97∧b.toNat≠95)∨b.toNat=95∨(97≤b.toNat∧b.toNat≤122)∨122<b.toNat:=by omega
       rcases hc with hc | hc | hc | hc | hc | hc
       ·have hbad:s.all okC=false:=rU hb (by simp[okC,w8];omega)
        rw[hbad]
        simp(disch:=try exact dI) only[hbp,push_cast,seval]
       ·have hok:okC b=true:=by simp[okC,w8];omega
        simp(disch:=try exact dI) only[hbp,push_cast,seval]
        exact⟨i+1,bT qsZ,⟨by omega,by rw[hsn,hok]⟩,by omega⟩
       ·have hbad:s.all okC=false:=rU hb (by simp[okC,w8];omega)
        rw[hbad]
        simp(disch:=try exact dI) only[hbp,push_cast,seval]
       ·have hok:okC b=true:=by simp[okC,w8];omega
        simp(disch:=try exact dI) only[hbp,push_cast,seval]
        exact⟨i+1,bT qsZ,⟨by omega,by rw[hsn,hok]⟩,by omega⟩
       ·have hok:okC b=true:=by simp[okC,w8];omega
        simp(disch:=try exact dI) only[hbp,push_cast,seval]
        exact⟨i+1,bT qsZ,⟨by omega,by rw[hsn,hok]⟩,by omega⟩
       ·have hbad:s.all okC=false:=rU hb (by simp[okC,w8];omega)
        rw[hbad]
        simp(disch:=try exact dI) only[hbp,push_cast,seval]
      ·have he:s.take i=s:=List.take_of_length_le (by omega)
       rw[he] at hall
       rw[hall]
       simp(disch:=try exact dI) only[push_cast,seval]
     ·have e:bA s=false:=by simp only[bA,hh,w8,decide_eq_false hz,Bool.and_false,Bool.false_and]
      rw[e]
      simp(disch:=try exact dI) only[F82,hne,h0,ag,push_cast,seval]
    ·have e:bA s=false:=by simp only[bA,hh,w8,decide_eq_false ha,Bool.and_false,Bool.false_and]
     rw[e]
     simp(disch:=try exact dI) only[F82,hne,h0,ag,push_cast,seval]
   ·have e:bA s=false:=by simp[bA,h32]
    rw[e]
    simp(disch:=try exact dI) only[F82,hne,push_cast,seval]
end Go.Proofs.YtamoeblcphjbaaaGreatDoor
-- many steps
namespace Go.Proofs.YtamoeblcphjbaaaGreatDoor
open Go Go.Ab
attribute [local irreducible] vc
def ga (n a b:Int):Int:=if n<a∨b<n then 2 else 0
def e8 (n m e:Int):Int:=if m<n then e else 0
def dJ:Option (List UInt8)→List (List UInt8)→Int
 | _,[]=>0
 | p,s::r=>if bA s=false then 12 else if p=some s then 7 else if (p.any fun q=>dz s q)=true then 24 else dJ (some s) r
def bi:Val→Int
 | .mk k n s t l fs=>
   if k=1 then ga n 0 1
   else if k=2 then ga n (-999999999999999) 999999999999999
   else if k=3 then (if ga n (-999999999999999) 999999999999999=0 then ga s 0 12 else ga n (-999999999999999) 999999999999999)
   else if k=4 then (if e8 t.length 1024 5=0 then (if Lib.validD t=true then 0 else 16) else e8 t.length 1024 5)
   else if k=5 then e8 t.length 1024 5
   else if k=6 then ga n (-719162) 2932896
   else if k=7 then ga n (-62135596800000) 253402300799999
   else if k=8 then e8 l.length 256 9
   else if k=9 then (if e8 fs.length 64 9=0 then dJ none (fs.map Fld.name) else e8 fs.length 64 9)
   else if k=10 then (if bA t=false then 12 else if l.length=0 then 4 else e8 l.length 1 3)
   else 0
theorem IA (v:Val)(hk:v.kind=1):aq Tryz.prog aF 69 [v.pv] (.int .i64 (bi v)):=by
 obtain⟨k,n,s,t,l,fs⟩:=v
 simp only[Val.kind] at hk;subst hk
 rw[show bi (.mk 1 n s t l fs)=ga n 0 1 from rfl]
 have h:=dn n 0 1
 change aq _ _ _ _ (.int .i64 (ga n 0 1)) at h
 generalize ga n 0 1=e at *
 refine aq.intro Ok (by simp[F69]) ?_
 simp(disch:=try exact dI) only[F69,Val.pv_mk,push_cast,seval]
 refine ab.pure h rfl ?_
 simp(disch:=try exact dI) only[push_cast,seval]
theorem Iz (v:Val)(hk:v.kind=2):aq Tryz.prog aF 71 [v.pv] (.int .i64 (bi v)):=by
 obtain⟨k,n,s,t,l,fs⟩:=v
 simp only[Val.kind] at hk;subst hk
 rw[show bi (.mk 2 n s t l fs)=ga n (-999999999999999) 999999999999999 from rfl]
 have h:=dn n (-999999999999999) 999999999999999
 change aq _ _ _ _ (.int .i64 (ga n (-999999999999999) 999999999999999)) at h
 generalize ga n (-999999999999999) 999999999999999=e at *
 refine aq.intro Oi (by simp[F71]) ?_
 simp(disch:=try exact dI) only[F71,Val.pv_mk,push_cast,seval]
 refine ab.pure h rfl ?_
 simp(disch:=try exact dI) only[push_cast,seval]
def gY:List Int→Int
 | []=>0
 | a::r=>if a=0 then gY r else a
theorem pp:∀ {L:List Int} {i:Nat} {x:Int},L[i]? = some x→x≠0→(∀ j,j<i→∀ y,L[j]? = some y→y=0)→gY L=x
 | [],i,x,h,_,_=>by simp at h
 | a::r,0,x,h,hx,_=>by simp at h;subst h;exact if_neg hx
 | a::r,i+1,x,h,hx,h0=>by
   have ha:=h0 0 (by omega) a rfl
   subst ha
   rw[gY,if_pos rfl]
   exact pp (by simpa using h) hx fun j hj y hy=>h0 (j+1) (by omega) y (by simpa using hy)
theorem kW:∀ {L:List Int},(∀ (j:Nat) y,L[j]? = some y→y=0)→gY L=0
 | [],_=>rfl
 | a::r,h=>by
   rw[gY,if_pos (h 0 a rfl)]
   exact kW fun j y hy=>h (j+1) y (by simpa using hy)
theorem Bf (L:List Int)(hL:L.length≤1000):aq Tryz.prog aF 73 [.list (L.map fun n=>.int .i64 n)] (.int .i64 (gY L)):=by
 generalize hr:gY L=e
 refine aq.intro Og (by simp[F73]) ?_
 simp(disch:=try exact dI) only[F73,push_cast,seval]
 refine be ([]) (fun i:Nat=>[(7,.pv (.int .i64 (i:Int)))]) (fun _=>[]) (fun i=>i≤L.length∧(∀ j,j<i→∀ y,L[j]? = some y→y=0)) (fun i=>L.length - i) (0) ?_;intro e0 σ0 n0 h0;simp(disch:=try exact dI) only[push_cast,seval] at h0;obtain⟨rfl,rfl,rfl⟩:=h0;refine⟨?_,?_,?_⟩
 ·simp(disch:=try exact dI) only[push_cast,seval]
 ·exact⟨by omega,by omega⟩
 rintro i ⟨hi,h0⟩
 by_cases hlt:i<L.length
 ·have hltI:(i:Int)<(L.length:Int):=by omega
  obtain⟨x,hx⟩:∃ x,L[i]? = some x:=⟨_,List.getElem?_eq_getElem hlt⟩
  have hcp:(L.map fun n=>PV.int .i64 n)[i]? = some (.int .i64 x):=by simp[hx]
  by_cases hx0:x=0
  ·subst hx0
   simp(disch:=try exact dI) only[hcp,push_cast,seval]
   exact⟨i+1,bT qsZ,⟨by omega,fun j hj y hy=>by
    rcases Nat.lt_or_ge j i with h | h
    ·exact h0 j h y hy
    ·have:j=i:=by omega
     subst this
     rw[hx] at hy;exact (Option.some.inj hy).symm⟩,by omega⟩
  ·have:=pp hx hx0 h0
   rw[this] at hr
   subst hr
   simp(disch:=try exact dI) only[hcp,push_cast,seval]
 ·have:=kW (L:=L) fun j y hy=>h0 j (by have:=(List.getElem?_eq_some_iff.1 hy).1;omega) y hy
  rw[this] at hr
  subst hr
  simp(disch:=try exact dI) only[push_cast,seval]
theorem FN (a b:Int):aq Tryz.prog aF 73 [.list [.int .i64 a,.int .i64 b]] (.int .i64 (if a=0 then b else a)):=by
 have:=Bf [a,b] (by simp)
 have e:gY [a,b]=if a=0 then b else a:=by
  simp only[gY]
  by_cases hb:b=0
  ·subst hb;simp
  ·simp[hb]
 rw[e] at this
 exact this
theorem Iy (v:Val)(hk:v.kind=3):aq Tryz.prog aF 72 [v.pv] (.int .i64 (bi v)):=by
 obtain⟨k,n,s,t,l,fs⟩:=v
 simp only[Val.kind] at hk;subst hk
 rw[show bi (.mk 3 n s t l fs)=(if ga n (-999999999999999) 999999999999999=0 then ga s 0 12 else ga n (-999999999999999) 999999999999999) from rfl]
 have h:=dn n (-999999999999999) 999999999999999
 have h':=dn s 0 12
 change aq _ _ _ _ (.int .i64 (ga n (-999999999999999) 999999999999999)) at h
 change aq _ _ _ _ (.int .i64 (ga s 0 12)) at h'
 generalize ga n (-999999999999999) 999999999999999=e at *
 generalize ga s 0 12=e' at *
 have h2:=FN e e'
 generalize (if e=0 then e' else e)=e2 at *
 refine aq.intro Oh (by simp[F72]) ?_
 simp(disch:=try exact dI) only[F72,Val.pv_mk,push_cast,seval]
 refine ae h rfl ?_
 simp(disch:=try exact dI) only[push_cast,seval]
 refine ab.pure h' rfl ?_
 simp(disch:=try exact dI) only[push_cast,seval]
 refine ab.pure h2 rfl ?_
 simp(disch:=try exact dI) only[push_cast,seval]
theorem Iw (v:Val)(hk:v.kind=5):aq Tryz.prog aF 77 [v.pv] (.int .i64 (bi v)):=by
 obtain⟨k,n,s,t,l,fs⟩:=v
 simp only[Val.kind] at hk;subst hk
 rw[show bi (.mk 5 n s t l fs)=e8 t.length 1024 5 from rfl]
 have h:=j3 t.length 1024 5
 change aq _ _ _ _ (.int .i64 (e8 t.length 1024 5)) at h
 generalize e8 t.length 1024 5=e at *
 refine aq.intro Od (by simp[F77]) ?_
 simp(disch:=try exact dI) only[F77,Val.pv_mk,push_cast,seval]
 refine ab.pure h rfl ?_
 simp(disch:=try exact dI) only[push_cast,seval]
theorem Iv (v:Val)(hk:v.kind=6):aq Tryz.prog aF 78 [v.pv] (.int .i64 (bi v)):=by
 obtain⟨k,n,s,t,l,fs⟩:=v
 simp only[Val.kind] at hk;subst hk
 rw[show bi (.mk 6 n s t l fs)=ga n (-719162) 2932896 from rfl]
 have h:=dn n (-719162) 2932896
 change aq _ _ _ _ (.int .i64 (ga n (-719162) 2932896)) at h
 generalize ga n (-719162) 2932896=e at *
 refine aq.intro Oc (by simp[F78]) ?_
 simp(disch:=try exact dI) only[F78,Val.pv_mk,push_cast,seval]
 refine ab.pure h rfl ?_
 simp(disch:=try exact dI) only[push_cast,seval]
theorem Iu (v:Val)(hk:v.kind=7):aq Tryz.prog aF 79 [v.pv] (.int .i64 (bi v)):=by
 obtain⟨k,n,s,t,l,fs⟩:=v
 simp only[Val.kind] at hk;subst hk
 rw[show bi (.mk 7 n s t l fs)=ga n (-62135596800000) 253402300799999 from rfl]
 have h:=dn n (-62135596800000) 253402300799999
 change aq _ _ _ _ (.int .i64 (ga n (-62135596800000) 253402300799999)) at h
 generalize ga n (-62135596800000) 253402300799999=e at *
 refine aq.intro Ob (by simp[F79]) ?_
 simp(disch:=try exact dI) only[F79,Val.pv_mk,push_cast,seval]
 refine ab.pure h rfl ?_
 simp(disch:=try exact dI) only[push_cast,seval]
theorem It (v:Val)(hk:v.kind=8):aq Tryz.prog aF 80 [v.pv] (.int .i64 (bi v)):=by
 obtain⟨k,n,s,t,l,fs⟩:=v
 simp only[Val.kind] at hk;subst hk
 rw[show bi (.mk 8 n s t l fs)=e8 l.length 256 9 from rfl]
 have h:=j3 l.length 256 9
 change aq _ _ _ _ (.int .i64 (e8 l.length 256 9)) at h
 generalize e8 l.length 256 9=e at *
 refine aq.intro Oa (by simp[F80]) ?_
 simp(disch:=try exact dI) only[F80,Val.pv_mk,push_cast,seval]
 refine ab.pure h rfl ?_
 simp(disch:=try exact dI) only[push_cast,seval]
theorem Ix (v:Val)(hk:v.kind=4):aq Tryz.prog aF 74 [v.pv] (.int .i64 (bi v)):=by
 obtain⟨k,n,s,t,l,fs⟩:=v
 simp only[Val.kind] at hk;subst hk
 rw[show bi (.mk 4 n s t l fs)=(if e8 t.length 1024 5=0 then (if Lib.validD t=true then 0 else 16) else e8 t.length 1024 5) from rfl]
 have h:=j3 t.length 1024 5
 have hv:=fL t
 change aq _ _ _ _ (.int .i64 (e8 t.length 1024 5)) at h
 generalize e8 t.length 1024 5=e at *
 refine aq.intro Of (by simp[F74]) ?_
 by_cases he:e=0
 ·subst he
  rw[if_pos rfl]
  cases hb:Lib.validD t with
  | true=>
    rw[hb] at hv
    rw[if_pos rfl]
    simp(disch:=try exact dI) only[F74,Val.pv_mk,push_cast,seval]
    refine ab.pure h rfl ?_
    simp(disch:=try exact dI) only[push_cast,seval]
    refine ab.pure hv rfl ?_
    simp(disch:=try exact dI) only[push_cast,seval]
  | false=>
    rw[hb] at hv
    rw[if_neg (by simp)]
    simp(disch:=try exact dI) only[F74,Val.pv_mk,push_cast,seval]
    refine ab.pure h rfl ?_
    simp(disch:=try exact dI) only[push_cast,seval]
    refine ab.pure hv rfl ?_
    simp(disch:=try exact dI) only[push_cast,seval]
 ·rw[if_neg he]
  simp(disch:=try exact dI) only[F74,Val.pv_mk,push_cast,seval]
  refine ab.pure h rfl ?_
  simp(disch:=try exact dI) only[push_cast,seval]
theorem ri {fs:List (List UInt8)}{i:Nat}{s:List UInt8}(h:fs[i]? = some s)(p:Option (List UInt8)):dJ p (fs.drop i)=if bA s=false then 12 else if p=some s then 7 else if (p.any fun q=>dz s q)=true then 24 else dJ (some s) (fs.drop (i+1)):=by
 have hi:i<fs.length:=(List.getElem?_eq_some_iff.1 h).1
 have he:fs[i]=s:=(List.getElem?_eq_some_iff.1 h).2
 rw[List.drop_eq_getElem_cons hi,he,dJ]
def qT (fs:List Fld)(i:Nat):Option (List UInt8):=if i=0 then none else (fs[i - 1]?).map Fld.name
set_option maxHeartbeats 2000000 in
theorem Is (v:Val)(hk:v.kind=9):aq Tryz.prog aF 81 [v.pv] (.int .i64 (bi v)):=by
 obtain⟨k,n,s,t,l,fs⟩:=v
 simp only[Val.kind] at hk;subst hk
 rw[show bi (.mk 9 n s t l fs)=(if e8 fs.length 64 9=0 then dJ none (fs.map Fld.name) else e8 fs.length 64 9) from rfl]
 have h:=j3 fs.length 64 9
 change aq _ _ _ _ (.int .i64 (e8 fs.length 64 9)) at h
 by_cases h64:(64:Int)<fs.length
 ·have e:e8 fs.length 64 9=9:=if_pos h64
  rw[e] at h ⊢
  rw[if_neg (by omega)]
  refine aq.intro HB (by simp[F81]) ?_
  simp(disch:=try exact dI) only[F81,Val.pv_mk,push_cast,seval]
  refine ab.pure h rfl ?_
  simp(disch:=try exact dI) only[push_cast,seval]
 ·have e:e8 fs.length 64 9=0:=if_neg h64
  rw[e] at h ⊢
  rw[if_pos rfl]
  have hfl:fs.length≤64:=by omega
  obtain⟨R,hR⟩:∃ R,R=dJ none (fs.map Fld.name):=⟨_,rfl⟩
  rw[← hR]
  refine aq.intro HB (by simp[F81]) ?_
  simp(disch:=try exact dI) only[F81,Val.pv_mk,push_cast,seval]
  refine ab.pure h rfl ?_
  simp(disch:=try exact dI) only[push_cast,seval]
  refine be ([]) (fun i:Nat=>[(16,.pv (.int .i64 (i:Int)))]) (fun _=>[]) (fun i=>i≤fs.length∧R=dJ (qT fs i) ((fs.map Fld.name).drop i)) (fun i=>fs.length - i) (0) ?_;intro e0 σ0 n0 h0;simp(disch:=try exact dI) only[push_cast,seval] at h0;obtain⟨rfl,rfl,rfl⟩:=h0;refine⟨?_,?_,?_⟩
  ·simp(disch:=try exact dI) only[push_cast,seval]
  ·exact⟨by omega,by simpa[qT] using hR⟩
  rintro i ⟨hi,hr⟩
  by_cases hlt:i<fs.length
  ·have hltI:(i:Int)<(fs.length:Int):=by omega
   obtain⟨c,hc⟩:∃ c,fs[i]? = some c:=⟨_,List.getElem?_eq_getElem hlt⟩
   obtain⟨nm,⟨k',n',s',t',l',f'⟩⟩:=c
   have hcp:(fs.map Fld.pv)[i]? = some (.agg [.str nm,.int .i64 k',.int .i64 n',.int .i64 s',.str t',.list (l'.map Val.pv),.list (f'.map Fld.pv)]):=by simp[hc,Fld.pv_mk,Val.pv_mk,cZ]
   have hnm:(fs.map Fld.name)[i]? = some nm:=by simp[hc,Fld.name]
   have hn:=mS nm
   rw[ri hnm] at hr
   have hnext:qT fs (i+1)=some nm:=by simp[qT,hc,Fld.name]
   cases hb:bA nm with
   | false=>
     rw[hb] at hn hr
     rw[if_pos rfl] at hr
     subst hr
     simp(disch:=try exact dI) only[hcp,push_cast,seval]
     refine ab.pure hn rfl ?_
     simp(disch:=try exact dI) only[push_cast,seval]
   | true=>
     rw[hb] at hn hr
     rw[if_neg (by simp)] at hr
     by_cases hi0:i=0
     ·have hiI:¬ (0:Int)<(i:Int):=by omega
      have hpn:qT fs i=none:=if_pos hi0
      rw[hpn,if_neg (by simp),if_neg (by simp),← hnext] at hr
      simp(disch:=try exact dI) only[hcp,push_cast,seval]
      refine ab.pure hn rfl ?_
      simp(disch:=try exact dI) only[push_cast,seval]
      exact⟨i+1,bT qsZ,⟨by omega,by rw[List.map_drop];exact hr⟩,by omega⟩
     ·obtain⟨j,rfl⟩:∃ j,i=j+1:=⟨i - 1,by omega⟩
      obtain⟨c,hc'⟩:∃ c,fs[j]? = some c:=⟨_,List.getElem?_eq_getElem (by omega)⟩
      have hpn:qT fs (j+1)=some c.name:=by simp[qT,hc']
      obtain⟨q,⟨k2,n2,s2,t2,l2,f2⟩⟩:=c
      have hcq:(fs.map Fld.pv)[j]? = some (.agg [.str q,.int .i64 k2,.int .i64 n2,.int .i64 s2,.str t2,.list (l2.map Val.pv),.list (f2.map Fld.pv)]):=by simp[hc',Fld.pv_mk,Val.pv_mk,cZ]
      simp only[Fld.name] at hpn
      rw[hpn] at hr
      by_cases hq:nm=q
      ·subst hq
       rw[if_pos rfl] at hr
       subst hr
       simp(disch:=try exact dI) only[hcp,Int.add_sub_cancel,push_cast,seval]
       refine ab.pure hn rfl ?_
       simp(disch:=try exact dI) only[hcq,Int.add_sub_cancel,push_cast,seval]
      ·rw[if_neg (by simpa using fun e=>hq e.symm)] at hr
       cases hlt2:dz nm q with
       | true=>
         rw[if_pos (by simpa using hlt2)] at hr
         subst hr
         simp(disch:=try exact dI) only[hcp,Int.add_sub_cancel,push_cast,seval]
         refine ab.pure hn rfl ?_
         simp(disch:=try exact dI) only[hcq,Int.add_sub_cancel,hq,hlt2,push_cast,seval]
       | false=>
         rw[if_neg (by simp[hlt2]),← hnext] at hr
         simp(disch:=try exact dI) only[hcp,Int.add_sub_cancel,push_cast,seval]
         refine ab.pure hn rfl ?_
         simp(disch:=try exact dI) only[hcq,Int.add_sub_cancel,hq,hlt2,push_cast,seval]
         exact⟨j+1+1,bT qsZ,⟨by omega,by rw[List.map_drop];exact hr⟩,by omega⟩
  ·have hie:i=fs.length:=by omega
   subst hie
   rw[List.drop_of_length_le (by simp)] at hr
   rw[show R=0 from hr]
   simp(disch:=try exact dI) only[push_cast,seval]
theorem Ir (v:Val)(hk:v.kind=10):aq Tryz.prog aF 83 [v.pv] (.int .i64 (bi v)):=by
 obtain⟨k,n,s,t,l,fs⟩:=v
 simp only[Val.kind] at hk;subst hk
 rw[show bi (.mk 10 n s t l fs)=(if bA t=false then 12 else if l.length=0 then 4 else e8 l.length 1 3) from rfl]
 have h:=j3 l.length 1 3
 have hn:=mS t
 change aq _ _ _ _ (.int .i64 (e8 l.length 1 3)) at h
 generalize e8 l.length 1 3=e at *
 refine aq.intro N8 (by simp[F83]) ?_
 cases hb:bA t with
 | false=>
   rw[hb] at hn
   rw[if_pos rfl]
   simp(disch:=try exact dI) only[F83,Val.pv_mk,push_cast,seval]
   refine ab.pure hn rfl ?_
   simp(disch:=try exact dI) only[push_cast,seval]
 | true=>
   rw[hb] at hn
   rw[if_neg (by simp)]
   by_cases hl:l.length=0
   ·have hlI:(l.length:Int)=0:=by omega
    rw[if_pos hl]
    simp(disch:=try exact dI) only[F83,Val.pv_mk,push_cast,seval]
    refine ab.pure hn rfl ?_
    simp(disch:=try exact dI) only[push_cast,seval]
   ·have hlI:¬ (l.length:Int)=0:=by omega
    rw[if_neg hl]
    simp(disch:=try exact dI) only[F83,Val.pv_mk,push_cast,seval]
    refine ab.pure hn rfl ?_
    simp(disch:=try exact dI) only[push_cast,seval]
    refine ab.pure h rfl ?_
    simp(disch:=try exact dI) only[push_cast,seval]
end Go.Proofs.YtamoeblcphjbaaaGreatDoor
