/- A part of the proof. -/
import Derived.Test.YtamoeblcphjbaaaGreatDoorPaLR1
set_option maxHeartbeats 16000000
set_option maxRecDepth 100000
set_option linter.unusedVariables false
set_option linter.unusedSimpArgs false
namespace Go.Proofs.YtamoeblcphjbaaaGreatDoor
open Go Go.Ab
attribute [local irreducible] vc
theorem rc (v:Val):au Tryz.prog aM 39 [v.pv] (.clo 84 [] [.eptr [v.pv] 0 0]):=by
 obtain⟨k,n,s,t,l,fs⟩:=v
 refine au.intro PJ (by simp[F39]) ?_
 simp(disch:=try exact dI) only[F39,Val.pv_mk,push_cast,seval]
def yQ:PV:=.agg [.nilf,.clo 69 [] [],.clo 71 [] [],.clo 72 [] [],.clo 74 [] [],.clo 77 [] [],.clo 78 [] [],.clo 79 [] [],.clo 80 [] [],.clo 81 [] [],.clo 83 [] []]
theorem Ak (f:Nat)(a b:List PV):PV.one (.clo f a b)=true:=rfl
theorem tD:PV.one .nilf=true:=rfl
theorem D8:au Tryz.prog aM 38 [] yQ:=by
 refine au.intro PK (by simp[F38]) ?_
 simp(disch:=try exact dI) only[F38,yQ,Ak,tD,push_cast,seval]
theorem dr (n a b:Int):au Tryz.prog aM 70 [.int .i64 n,.int .i64 a,.int .i64 b] (.int .i64 (if n<a∨b<n then 2 else 0)):=by
 refine au.intro Pz (by simp[F70]) ?_
 by_cases h1:n<a
 ·rw[if_pos (.inl h1)]
  simp(disch:=try exact dI) only[F70,push_cast,seval]
 ·by_cases h2:b<n
  ·rw[if_pos (.inr h2)]
   simp(disch:=try exact dI) only[F70,push_cast,seval]
  ·rw[if_neg (by omega)]
   simp(disch:=try exact dI) only[F70,push_cast,seval]
theorem j1 (n m e:Int):au Tryz.prog aM 75 [.int .i64 n,.int .i64 m,.int .i64 e] (.int .i64 (if m<n then e else 0)):=by
 refine au.intro Pu (by simp[F75]) ?_
 by_cases h1:m<n
 ·rw[if_pos h1]
  simp(disch:=try exact dI) only[F75,push_cast,seval]
 ·rw[if_neg h1]
  simp(disch:=try exact dI) only[F75,push_cast,seval]
def dh:Val→Bool
 | .mk k n s t l fs=>decide (k=0)&&(decide (n=0)&&(decide (s=0)&&(decide (t=[])&&(decide (l.length=0)&&decide (fs.length=0)))))
def aE:Val→Bool
 | .mk k n s t l fs=>(decide (k=1∨k=2∨k=6∨k=7∨k=3)||decide (n=0))&&((decide (k=3)||decide (s=0))&&((decide (k=4∨k=5∨k=10)||decide (t=[]))&&((decide (k=8∨k=10)||decide (l.length=0))&&(decide (k=9)||decide (fs.length=0)))))
theorem rr (v:Val):au Tryz.prog aM 16 [v.pv] (.bool (dh v)):=by
 obtain⟨k,n,s,t,l,fs⟩:=v
 refine au.intro PX (by simp[F16]) ?_
 by_cases hk:k=0
 ·by_cases hn:n=0
  ·by_cases hs:s=0
   ·by_cases ht:t=[]
    ·by_cases hl:l.length=0
     ·have hlI:(l.length:Int)=0:=by omega
      by_cases hf:fs.length=0
      ·have hfI:(fs.length:Int)=0:=by omega
       have e:dh (.mk k n s t l fs)=true:=by simp[dh,hk,hn,hs,ht,hl,hf]
       rw[e]
       simp(disch:=try exact dI) only[F16,Val.pv_mk,hk,hn,hs,ht,hl,hf,push_cast,seval]
      ·have hfI:¬ (fs.length:Int)=0:=by omega
       have e:dh (.mk k n s t l fs)=false:=by simp[dh,hk,hn,hs,ht,hl,hf]
       rw[e]
       simp(disch:=try exact dI) only[F16,Val.pv_mk,hk,hn,hs,ht,hl,hf,push_cast,seval]
     ·have hlI:¬ (l.length:Int)=0:=by omega
      have e:dh (.mk k n s t l fs)=false:=by simp[dh,hk,hn,hs,ht,hl]
      rw[e]
      simp(disch:=try exact dI) only[F16,Val.pv_mk,hk,hn,hs,ht,hl,push_cast,seval]
    ·have e:dh (.mk k n s t l fs)=false:=by simp[dh,hk,hn,hs,ht]
     rw[e]
     simp(disch:=try exact dI) only[F16,Val.pv_mk,hk,hn,hs,ht,push_cast,seval]
   ·have e:dh (.mk k n s t l fs)=false:=by simp[dh,hk,hn,hs]
    rw[e]
    simp(disch:=try exact dI) only[F16,Val.pv_mk,hk,hn,hs,push_cast,seval]
  ·have e:dh (.mk k n s t l fs)=false:=by simp[dh,hk,hn]
   rw[e]
   simp(disch:=try exact dI) only[F16,Val.pv_mk,hk,hn,push_cast,seval]
 ·have e:dh (.mk k n s t l fs)=false:=by simp[dh,hk]
  rw[e]
  simp(disch:=try exact dI) only[F16,Val.pv_mk,hk,push_cast,seval]
theorem x9 (n s:Int)(t:List UInt8)(l:List Val)(fs:List Fld):au Tryz.prog aM 40 [(Val.mk 1 n s t l fs).pv] (.bool (aE (.mk 1 n s t l fs))):=by
 refine au.intro fY (by simp[F40]) ?_
 by_cases hs:s=0
 ·by_cases ht:t=[]
  ·by_cases hl:l.length=0
   ·have hlI:(l.length:Int)=0:=by omega
    by_cases hf:fs.length=0
    ·have hfI:(fs.length:Int)=0:=by omega
     have e:aE (.mk 1 n s t l fs)=true:=by simp[aE,hs,ht,hl,hf]
     rw[e]
     simp(disch:=try exact dI) only[F40,Val.pv_mk,hs,ht,hl,hf,push_cast,seval]
    ·have hfI:¬ (fs.length:Int)=0:=by omega
     have e:aE (.mk 1 n s t l fs)=false:=by simp[aE,hs,ht,hl,hf]
     rw[e]
     simp(disch:=try exact dI) only[F40,Val.pv_mk,hs,ht,hl,hf,push_cast,seval]
   ·have hlI:¬ (l.length:Int)=0:=by omega
    have e:aE (.mk 1 n s t l fs)=false:=by simp[aE,hs,ht,hl]
    rw[e]
    simp(disch:=try exact dI) only[F40,Val.pv_mk,hs,ht,hl,push_cast,seval]
  ·have e:aE (.mk 1 n s t l fs)=false:=by simp[aE,hs,ht]
   rw[e]
   simp(disch:=try exact dI) only[F40,Val.pv_mk,hs,ht,push_cast,seval]
 ·have e:aE (.mk 1 n s t l fs)=false:=by simp[aE,hs]
  rw[e]
  simp(disch:=try exact dI) only[F40,Val.pv_mk,hs,push_cast,seval]
theorem x8 (n s:Int)(t:List UInt8)(l:List Val)(fs:List Fld):au Tryz.prog aM 40 [(Val.mk 2 n s t l fs).pv] (.bool (aE (.mk 2 n s t l fs))):=by
 refine au.intro fY (by simp[F40]) ?_
 by_cases hs:s=0
 ·by_cases ht:t=[]
  ·by_cases hl:l.length=0
   ·have hlI:(l.length:Int)=0:=by omega
    by_cases hf:fs.length=0
    ·have hfI:(fs.length:Int)=0:=by omega
     have e:aE (.mk 2 n s t l fs)=true:=by simp[aE,hs,ht,hl,hf]
     rw[e]
     simp(disch:=try exact dI) only[F40,Val.pv_mk,hs,ht,hl,hf,push_cast,seval]
    ·have hfI:¬ (fs.length:Int)=0:=by omega
     have e:aE (.mk 2 n s t l fs)=false:=by simp[aE,hs,ht,hl,hf]
     rw[e]
     simp(disch:=try exact dI) only[F40,Val.pv_mk,hs,ht,hl,hf,push_cast,seval]
   ·have hlI:¬ (l.length:Int)=0:=by omega
    have e:aE (.mk 2 n s t l fs)=false:=by simp[aE,hs,ht,hl]
    rw[e]
    simp(disch:=try exact dI) only[F40,Val.pv_mk,hs,ht,hl,push_cast,seval]
  ·have e:aE (.mk 2 n s t l fs)=false:=by simp[aE,hs,ht]
   rw[e]
   simp(disch:=try exact dI) only[F40,Val.pv_mk,hs,ht,push_cast,seval]
 ·have e:aE (.mk 2 n s t l fs)=false:=by simp[aE,hs]
  rw[e]
  simp(disch:=try exact dI) only[F40,Val.pv_mk,hs,push_cast,seval]
theorem x7 (n s:Int)(t:List UInt8)(l:List Val)(fs:List Fld):au Tryz.prog aM 40 [(Val.mk 3 n s t l fs).pv] (.bool (aE (.mk 3 n s t l fs))):=by
 refine au.intro fY (by simp[F40]) ?_
 by_cases ht:t=[]
 ·by_cases hl:l.length=0
  ·have hlI:(l.length:Int)=0:=by omega
   by_cases hf:fs.length=0
   ·have hfI:(fs.length:Int)=0:=by omega
    have e:aE (.mk 3 n s t l fs)=true:=by simp[aE,ht,hl,hf]
    rw[e]
    simp(disch:=try exact dI) only[F40,Val.pv_mk,ht,hl,hf,push_cast,seval]
   ·have hfI:¬ (fs.length:Int)=0:=by omega
    have e:aE (.mk 3 n s t l fs)=false:=by simp[aE,ht,hl,hf]
    rw[e]
    simp(disch:=try exact dI) only[F40,Val.pv_mk,ht,hl,hf,push_cast,seval]
  ·have hlI:¬ (l.length:Int)=0:=by omega
   have e:aE (.mk 3 n s t l fs)=false:=by simp[aE,ht,hl]
   rw[e]
   simp(disch:=try exact dI) only[F40,Val.pv_mk,ht,hl,push_cast,seval]
 ·have e:aE (.mk 3 n s t l fs)=false:=by simp[aE,ht]
  rw[e]
  simp(disch:=try exact dI) only[F40,Val.pv_mk,ht,push_cast,seval]
theorem x6 (n s:Int)(t:List UInt8)(l:List Val)(fs:List Fld):au Tryz.prog aM 40 [(Val.mk 4 n s t l fs).pv] (.bool (aE (.mk 4 n s t l fs))):=by
 refine au.intro fY (by simp[F40]) ?_
 by_cases hn:n=0
 ·by_cases hs:s=0
  ·by_cases hl:l.length=0
   ·have hlI:(l.length:Int)=0:=by omega
    by_cases hf:fs.length=0
    ·have hfI:(fs.length:Int)=0:=by omega
     have e:aE (.mk 4 n s t l fs)=true:=by simp[aE,hn,hs,hl,hf]
     rw[e]
     simp(disch:=try exact dI) only[F40,Val.pv_mk,hn,hs,hl,hf,push_cast,seval]
    ·have hfI:¬ (fs.length:Int)=0:=by omega
     have e:aE (.mk 4 n s t l fs)=false:=by simp[aE,hn,hs,hl,hf]
     rw[e]
     simp(disch:=try exact dI) only[F40,Val.pv_mk,hn,hs,hl,hf,push_cast,seval]
   ·have hlI:¬ (l.length:Int)=0:=by omega
    have e:aE (.mk 4 n s t l fs)=false:=by simp[aE,hn,hs,hl]
    rw[e]
    simp(disch:=try exact dI) only[F40,Val.pv_mk,hn,hs,hl,push_cast,seval]
  ·have e:aE (.mk 4 n s t l fs)=false:=by simp[aE,hn,hs]
   rw[e]
   simp(disch:=try exact dI) only[F40,Val.pv_mk,hn,hs,push_cast,seval]
 ·have e:aE (.mk 4 n s t l fs)=false:=by simp[aE,hn]
  rw[e]
  simp(disch:=try exact dI) only[F40,Val.pv_mk,hn,push_cast,seval]
theorem x5 (n s:Int)(t:List UInt8)(l:List Val)(fs:List Fld):au Tryz.prog aM 40 [(Val.mk 5 n s t l fs).pv] (.bool (aE (.mk 5 n s t l fs))):=by
 refine au.intro fY (by simp[F40]) ?_
 by_cases hn:n=0
 ·by_cases hs:s=0
  ·by_cases hl:l.length=0
   ·have hlI:(l.length:Int)=0:=by omega
    by_cases hf:fs.length=0
    ·have hfI:(fs.length:Int)=0:=by omega
     have e:aE (.mk 5 n s t l fs)=true:=by simp[aE,hn,hs,hl,hf]
     rw[e]
     simp(disch:=try exact dI) only[F40,Val.pv_mk,hn,hs,hl,hf,push_cast,seval]
    ·have hfI:¬ (fs.length:Int)=0:=by omega
     have e:aE (.mk 5 n s t l fs)=false:=by simp[aE,hn,hs,hl,hf]
     rw[e]
     simp(disch:=try exact dI) only[F40,Val.pv_mk,hn,hs,hl,hf,push_cast,seval]
   ·have hlI:¬ (l.length:Int)=0:=by omega
    have e:aE (.mk 5 n s t l fs)=false:=by simp[aE,hn,hs,hl]
    rw[e]
    simp(disch:=try exact dI) only[F40,Val.pv_mk,hn,hs,hl,push_cast,seval]
  ·have e:aE (.mk 5 n s t l fs)=false:=by simp[aE,hn,hs]
   rw[e]
   simp(disch:=try exact dI) only[F40,Val.pv_mk,hn,hs,push_cast,seval]
 ·have e:aE (.mk 5 n s t l fs)=false:=by simp[aE,hn]
  rw[e]
  simp(disch:=try exact dI) only[F40,Val.pv_mk,hn,push_cast,seval]
theorem x4 (n s:Int)(t:List UInt8)(l:List Val)(fs:List Fld):au Tryz.prog aM 40 [(Val.mk 6 n s t l fs).pv] (.bool (aE (.mk 6 n s t l fs))):=by
 refine au.intro fY (by simp[F40]) ?_
 by_cases hs:s=0
 ·by_cases ht:t=[]
  ·by_cases hl:l.length=0
   ·have hlI:(l.length:Int)=0:=by omega
    by_cases hf:fs.length=0
    ·have hfI:(fs.length:Int)=0:=by omega
     have e:aE (.mk 6 n s t l fs)=true:=by simp[aE,hs,ht,hl,hf]
     rw[e]
     simp(disch:=try exact dI) only[F40,Val.pv_mk,hs,ht,hl,hf,push_cast,seval]
    ·have hfI:¬ (fs.length:Int)=0:=by omega
     have e:aE (.mk 6 n s t l fs)=false:=by simp[aE,hs,ht,hl,hf]
     rw[e]
     simp(disch:=try exact dI) only[F40,Val.pv_mk,hs,ht,hl,hf,push_cast,seval]
   ·have hlI:¬ (l.length:Int)=0:=by omega
    have e:aE (.mk 6 n s t l fs)=false:=by simp[aE,hs,ht,hl]
    rw[e]
    simp(disch:=try exact dI) only[F40,Val.pv_mk,hs,ht,hl,push_cast,seval]
  ·have e:aE (.mk 6 n s t l fs)=false:=by simp[aE,hs,ht]
   rw[e]
   simp(disch:=try exact dI) only[F40,Val.pv_mk,hs,ht,push_cast,seval]
 ·have e:aE (.mk 6 n s t l fs)=false:=by simp[aE,hs]
  rw[e]
  simp(disch:=try exact dI) only[F40,Val.pv_mk,hs,push_cast,seval]
theorem xZ (n s:Int)(t:List UInt8)(l:List Val)(fs:List Fld):au Tryz.prog aM 40 [(Val.mk 7 n s t l fs).pv] (.bool (aE (.mk 7 n s t l fs))):=by
 refine au.intro fY (by simp[F40]) ?_
 by_cases hs:s=0
 ·by_cases ht:t=[]
  ·by_cases hl:l.length=0
   ·have hlI:(l.length:Int)=0:=by omega
    by_cases hf:fs.length=0
    ·have hfI:(fs.length:Int)=0:=by omega
     have e:aE (.mk 7 n s t l fs)=true:=by simp[aE,hs,ht,hl,hf]
     rw[e]
     simp(disch:=try exact dI) only[F40,Val.pv_mk,hs,ht,hl,hf,push_cast,seval]
    ·have hfI:¬ (fs.length:Int)=0:=by omega
     have e:aE (.mk 7 n s t l fs)=false:=by simp[aE,hs,ht,hl,hf]
     rw[e]
     simp(disch:=try exact dI) only[F40,Val.pv_mk,hs,ht,hl,hf,push_cast,seval]
   ·have hlI:¬ (l.length:Int)=0:=by omega
    have e:aE (.mk 7 n s t l fs)=false:=by simp[aE,hs,ht,hl]
    rw[e]
    simp(disch:=try exact dI) only[F40,Val.pv_mk,hs,ht,hl,push_cast,seval]
  ·have e:aE (.mk 7 n s t l fs)=false:=by simp[aE,hs,ht]
   rw[e]
   simp(disch:=try exact dI) only[F40,Val.pv_mk,hs,ht,push_cast,seval]
 ·have e:aE (.mk 7 n s t l fs)=false:=by simp[aE,hs]
  rw[e]
  simp(disch:=try exact dI) only[F40,Val.pv_mk,hs,push_cast,seval]
theorem xY (n s:Int)(t:List UInt8)(l:List Val)(fs:List Fld):au Tryz.prog aM 40 [(Val.mk 8 n s t l fs).pv] (.bool (aE (.mk 8 n s t l fs))):=by
 refine au.intro fY (by simp[F40]) ?_
 by_cases hn:n=0
 ·by_cases hs:s=0
  ·by_cases ht:t=[]
   ·by_cases hf:fs.length=0
    ·have hfI:(fs.length:Int)=0:=by omega
     have e:aE (.mk 8 n s t l fs)=true:=by simp[aE,hn,hs,ht,hf]
     rw[e]
     simp(disch:=try exact dI) only[F40,Val.pv_mk,hn,hs,ht,hf,push_cast,seval]
    ·have hfI:¬ (fs.length:Int)=0:=by omega
     have e:aE (.mk 8 n s t l fs)=false:=by simp[aE,hn,hs,ht,hf]
     rw[e]
     simp(disch:=try exact dI) only[F40,Val.pv_mk,hn,hs,ht,hf,push_cast,seval]
   ·have e:aE (.mk 8 n s t l fs)=false:=by simp[aE,hn,hs,ht]
    rw[e]
    simp(disch:=try exact dI) only[F40,Val.pv_mk,hn,hs,ht,push_cast,seval]
  ·have e:aE (.mk 8 n s t l fs)=false:=by simp[aE,hn,hs]
   rw[e]
   simp(disch:=try exact dI) only[F40,Val.pv_mk,hn,hs,push_cast,seval]
 ·have e:aE (.mk 8 n s t l fs)=false:=by simp[aE,hn]
  rw[e]
  simp(disch:=try exact dI) only[F40,Val.pv_mk,hn,push_cast,seval]
theorem xX (n s:Int)(t:List UInt8)(l:List Val)(fs:List Fld):au Tryz.prog aM 40 [(Val.mk 9 n s t l fs).pv] (.bool (aE (.mk 9 n s t l fs))):=by
 refine au.intro fY (by simp[F40]) ?_
 by_cases hn:n=0
 ·by_cases hs:s=0
  ·by_cases ht:t=[]
   ·by_cases hl:l.length=0
    ·have hlI:(l.length:Int)=0:=by omega
     have e:aE (.mk 9 n s t l fs)=true:=by simp[aE,hn,hs,ht,hl]
     rw[e]
     simp(disch:=try exact dI) only[F40,Val.pv_mk,hn,hs,ht,hl,push_cast,seval]
    ·have hlI:¬ (l.length:Int)=0:=by omega
     have e:aE (.mk 9 n s t l fs)=false:=by simp[aE,hn,hs,ht,hl]
     rw[e]
     simp(disch:=try exact dI) only[F40,Val.pv_mk,hn,hs,ht,hl,push_cast,seval]
   ·have e:aE (.mk 9 n s t l fs)=false:=by simp[aE,hn,hs,ht]
    rw[e]
    simp(disch:=try exact dI) only[F40,Val.pv_mk,hn,hs,ht,push_cast,seval]
  ·have e:aE (.mk 9 n s t l fs)=false:=by simp[aE,hn,hs]
   rw[e]
   simp(disch:=try exact dI) only[F40,Val.pv_mk,hn,hs,push_cast,seval]
 ·have e:aE (.mk 9 n s t l fs)=false:=by simp[aE,hn]
  rw[e]
  simp(disch:=try exact dI) only[F40,Val.pv_mk,hn,push_cast,seval]
theorem vf (n s:Int)(t:List UInt8)(l:List Val)(fs:List Fld):au Tryz.prog aM 40 [(Val.mk 10 n s t l fs).pv] (.bool (aE (.mk 10 n s t l fs))):=by
 refine au.intro fY (by simp[F40]) ?_
 by_cases hn:n=0
 ·by_cases hs:s=0
  ·by_cases hf:fs.length=0
   ·have hfI:(fs.length:Int)=0:=by omega
    have e:aE (.mk 10 n s t l fs)=true:=by simp[aE,hn,hs,hf]
    rw[e]
    simp(disch:=try exact dI) only[F40,Val.pv_mk,hn,hs,hf,push_cast,seval]
   ·have hfI:¬ (fs.length:Int)=0:=by omega
    have e:aE (.mk 10 n s t l fs)=false:=by simp[aE,hn,hs,hf]
    rw[e]
    simp(disch:=try exact dI) only[F40,Val.pv_mk,hn,hs,hf,push_cast,seval]
  ·have e:aE (.mk 10 n s t l fs)=false:=by simp[aE,hn,hs]
   rw[e]
   simp(disch:=try exact dI) only[F40,Val.pv_mk,hn,hs,push_cast,seval]
 ·have e:aE (.mk 10 n s t l fs)=false:=by simp[aE,hn]
  rw[e]
  simp(disch:=try exact dI) only[F40,Val.pv_mk,hn,push_cast,seval]
theorem HV (v:Val)(hk:1≤v.kind∧v.kind≤10):au Tryz.prog aM 40 [v.pv] (.bool (aE v)):=by
 obtain⟨k,n,s,t,l,fs⟩:=v
 simp only[Val.kind] at hk
 have hc:k=1∨k=2∨k=3∨k=4∨k=5∨k=6∨k=7∨k=8∨k=9∨k=10:=by omega
 rcases hc with rfl | rfl | rfl | rfl | rfl | rfl | rfl | rfl | rfl | rfl
 ·exact x9 n s t l fs
 ·exact x8 n s t l fs
 ·exact x7 n s t l fs
 ·exact x6 n s t l fs
 ·exact x5 n s t l fs
 ·exact x4 n s t l fs
 ·exact xZ n s t l fs
 ·exact xY n s t l fs
 ·exact xX n s t l fs
 ·exact vf n s t l fs
end Go.Proofs.YtamoeblcphjbaaaGreatDoor
-- many steps
namespace Go.Proofs.YtamoeblcphjbaaaGreatDoor
open Go Go.Ab
attribute [local irreducible] vc
theorem lI (e:List (Nat×AV))(σ:List (Nat×Blk))(new:Nat)(x:AX):jl e σ new (.ofStr x)=j9 new (evE e x):=_root_.id rfl
theorem oH (new:Nat){k:List UInt8}(h:k.length≤140737488355328):j9 new (.pv (.str k))=some (.pv (.list (az k)),[(new,.none)]):=by simp only[j9];rw[if_pos h]
def lr (c:UInt8):Bool:=decide (97≤c.toNat)&&decide (c.toNat≤122)
def okC (c:UInt8):Bool:=lr c||(decide (48≤c.toNat)&&decide (c.toNat≤57))||decide (c.toNat=95)
def bC (s:List UInt8):Bool:=decide (0<s.length)&&(decide (s.length≤32)&&(lr (s.headD 0)&&s.all okC))
theorem xg (s:List UInt8):(az s).length=s.length:=by simp[az]
theorem pV {s:List UInt8}{i:Nat}{c:UInt8}(h:s[i]? = some c):(az s)[i]? = some (.int .u8 (c.toNat:Int)):=by simp[az,h]
theorem uO {s:List UInt8}{i:Nat}{c:UInt8}(h:s[i]? = some c):(s.take (i+1)).all okC=((s.take i).all okC&&okC c):=by rw[bA h];simp
theorem nL {s:List UInt8}{i:Nat}{c:UInt8}(h:s[i]? = some c)(hc:okC c=false):s.all okC=false:=by
 rw[Bool.eq_false_iff]
 intro ha
 have:=List.all_eq_true.1 ha c (List.mem_of_getElem? h)
 rw[hc] at this;cases this
theorem m7 (s:List UInt8):au Tryz.prog aM 82 [.str s] (.bool (bC s)):=by
 cases s with
 | nil=>
   rw[show bC []=false from rfl]
   refine au.intro HD (by simp[F82]) ?_
   simp(disch:=try exact dI) only[F82,push_cast,seval]
 | cons c r=>
   generalize hs:c::r=s
   have hne:¬ s=[]:=by rw[← hs];simp
   have h0:s[0]? = some c:=by rw[← hs];rfl
   have hh:s.headD 0=c:=by rw[← hs];rfl
   have hlen:0<s.length:=by rw[← hs];simp
   clear hs
   refine au.intro HD (by simp[F82]) ?_
   by_cases h32:s.length≤32
   ·by_cases ha:97≤c.toNat
    ·by_cases hz:c.toNat≤122
     ·have e:bC s=s.all okC:=by simp only[bC,hh,lr,decide_eq_true hlen,decide_eq_true h32,decide_eq_true ha,decide_eq_true hz,Bool.true_and]
      rw[e]
      simp(disch:=try exact dI) only[F82,hne,h0,ae,lI,oH,xg,push_cast,seval]
      refine bf ([]) (fun i:Nat=>[(25,.pv (.int .i64 (i:Int)))]) (fun _=>[]) (fun i=>i≤s.length∧(s.take i).all okC=true) (fun i=>s.length - i) (0) ?_;intro e0 σ0 n0 h0;simp(disch:=try exact dI) only[push_cast,seval] at h0;obtain⟨rfl,rfl,rfl⟩:=h0;refine⟨?_,?_,?_⟩
      ·exact qsZ
      ·exact⟨by omega,by simp⟩
      rintro i ⟨hi,hall⟩
      by_cases hlt:i<s.length
      ·have hltI:(i:Int)<(s.length:Int):=by omega
       obtain⟨b,hb⟩:∃ b,s[i]? = some b:=⟨_,List.getElem?_eq_getElem hlt⟩
       have hbp:=pV hb
       have hbn:=b.toNat_lt
       have hsn:=uO hb
       rw[hall,Bool.true_and] at hsn
       have hc:b.toNat<48∨(48≤b.toNat∧b.toNat≤57)∨(57<b.toNat∧b.toNat<97∧b.toNat≠95)∨b.toNat=95∨(97≤b.toNat∧b.toNat≤122)∨122<b.toNat:=by omega
       rcases hc with hc | hc | hc | hc | hc | hc
       ·have hbad:s.all okC=false:=nL hb (by simp[okC,lr];omega)
        rw[hbad]
        simp(disch:=try exact dI) only[hbp,push_cast,seval]
       ·have hok:okC b=true:=by simp[okC,lr];omega
        simp(disch:=try exact dI) only[hbp,push_cast,seval]
        exact⟨i+1,bz qsZ,⟨by omega,by rw[hsn,hok]⟩,by omega⟩
       ·have hbad:s.all okC=false:=nL hb (by simp[okC,lr];omega)
        rw[hbad]
        simp(disch:=try exact dI) only[hbp,push_cast,seval]
       ·have hok:okC b=true:=by simp[okC,lr];omega
        simp(disch:=try exact dI) only[hbp,push_cast,seval]
        exact⟨i+1,bz qsZ,⟨by omega,by rw[hsn,hok]⟩,by omega⟩
       ·have hok:okC b=true:=by simp[okC,lr];omega
        simp(disch:=try exact dI) only[hbp,push_cast,seval]
        exact⟨i+1,bz qsZ,⟨by omega,by rw[hsn,hok]⟩,by omega⟩
       ·have hbad:s.all okC=false:=nL hb (by simp[okC,lr];omega)
        rw[hbad]
        simp(disch:=try exact dI) only[hbp,push_cast,seval]
      ·have he:s.take i=s:=List.take_of_length_le (by omega)
       rw[he] at hall
       rw[hall]
       exact qsZ
     ·have e:bC s=false:=by simp only[bC,hh,lr,decide_eq_false hz,Bool.and_false,Bool.false_and]
      rw[e]
      simp(disch:=try exact dI) only[F82,hne,h0,ae,push_cast,seval]
    ·have e:bC s=false:=by simp only[bC,hh,lr,decide_eq_false ha,Bool.and_false,Bool.false_and]
     rw[e]
     simp(disch:=try exact dI) only[F82,hne,h0,ae,push_cast,seval]
   ·have e:bC s=false:=by simp[bC,h32]
    rw[e]
    simp(disch:=try exact dI) only[F82,hne,push_cast,seval]
end Go.Proofs.YtamoeblcphjbaaaGreatDoor
