/- A part of the proof. -/
import Derived.Test.YtbojpfpliibfbaaGreatDoorRtRR0
set_option maxHeartbeats 16000000
set_option maxRecDepth 100000
set_option linter.unusedVariables false
set_option linter.unusedSimpArgs false
namespace Go.Proofs.YtbojpfpliibfbaaGreatDoor
open Go Go.Ab
attribute [local irreducible] vc
theorem jB (v:Val):ag Tryz.prog au 261 [v.pv] (.clo 295 [] [.eptr [v.pv] 0 0]):=by
 obtain⟨k,n,s,t,l,fs⟩:=v
 refine ag.intro Qc.2 (by simp[Qc]) ?_
 simp(disch:=try exact dI) only[Qc,Val.pv_mk,push_cast,seval]
def ya:PV:=.agg [.nilf,.clo 282 [] [],.clo 284 [] [],.clo 285 [] [],.clo 287 [] [],.clo 289 [] [],.clo 290 [] [],.clo 291 [] [],.clo 292 [] [],.clo 293 [] [],.clo 294 [] []]
theorem zw (f:Nat)(a b:List PV):PV.one (.clo f a b)=true:=rfl
theorem rZ:PV.one .nilf=true:=rfl
theorem Dx:ag Tryz.prog au 260 [] ya:=by
 refine ag.intro Qd.2 (by simp[Qd]) ?_
 simp(disch:=try exact dI) only[Qd,ya,zw,rZ,push_cast,seval]
theorem cE (n a b:Int):ag Tryz.prog au 283 [.int .i64 n,.int .i64 a,.int .i64 b] (.int .i64 (if n<a\/b<n then 2 else 0)):=by
 refine ag.intro NU.2 (by simp[NU]) ?_
 by_cases h1:n<a
 ·rw[if_pos (.inl h1)]
  simp(disch:=try exact dI) only[NU,push_cast,seval]
 ·by_cases h2:b<n
  ·rw[if_pos (.inr h2)]
   simp(disch:=try exact dI) only[NU,push_cast,seval]
  ·rw[if_neg (by omega)]
   simp(disch:=try exact dI) only[NU,push_cast,seval]
theorem jp (n m e:Int):ag Tryz.prog au 288 [.int .i64 n,.int .i64 m,.int .i64 e] (.int .i64 (if m<n then e else 0)):=by
 refine ag.intro Oi.2 (by simp[Oi]) ?_
 by_cases h1:m<n
 ·rw[if_pos h1]
  simp(disch:=try exact dI) only[Oi,push_cast,seval]
 ·rw[if_neg h1]
  simp(disch:=try exact dI) only[Oi,push_cast,seval]
def bK:Val->Bool
 | .mk k n s t l fs=>decide (k=0)&&(decide (n=0)&&(decide (s=0)&&(decide (t=[])&&(decide (l.length=0)&&decide (fs.length=0)))))
def aD:Val->Bool
 | .mk k n s t l fs=>(decide (k=1\/k=2\/k=6\/k=7\/k=3)||decide (n=0))&&((decide (k=3)||decide (s=0))&&((decide (k=4\/k=5\/k=10)||decide (t=[]))&&((decide (k=8\/k=10)||decide (l.length=0))&&(decide (k=9)||decide (fs.length=0)))))
theorem ql (v:Val):ag Tryz.prog au 110 [v.pv] (.bool (bK v)):=by
 obtain⟨k,n,s,t,l,fs⟩:=v
 refine ag.intro F8.2 (by simp[F8]) ?_
 by_cases hk:k=0
 ·by_cases hn:n=0
  ·by_cases hs:s=0
   ·by_cases ht:t=[]
    ·by_cases hl:l.length=0
     ·have hlI:(l.length:Int)=0:=by omega
      by_cases hf:fs.length=0
      ·have hfI:(fs.length:Int)=0:=by omega
       have e:bK (.mk k n s t l fs)=true:=by simp[bK,hk,hn,hs,ht,hl,hf]
       rw[e]
       simp(disch:=try exact dI) only[F8,Val.pv_mk,hk,hn,hs,ht,hl,hf,push_cast,seval]
      ·have hfI:¬ (fs.length:Int)=0:=by omega
       have e:bK (.mk k n s t l fs)=false:=by simp[bK,hk,hn,hs,ht,hl,hf]
       rw[e]
       simp(disch:=try exact dI) only[F8,Val.pv_mk,hk,hn,hs,ht,hl,hf,push_cast,seval]
     ·have hlI:¬ (l.length:Int)=0:=by omega
      have e:bK (.mk k n s t l fs)=false:=by simp[bK,hk,hn,hs,ht,hl]
      rw[e]
      simp(disch:=try exact dI) only[F8,Val.pv_mk,hk,hn,hs,ht,hl,push_cast,seval]
    ·have e:bK (.mk k n s t l fs)=false:=by simp[bK,hk,hn,hs,ht]
     rw[e]
     simp(disch:=try exact dI) only[F8,Val.pv_mk,hk,hn,hs,ht,push_cast,seval]
   ·have e:bK (.mk k n s t l fs)=false:=by simp[bK,hk,hn,hs]
    rw[e]
    simp(disch:=try exact dI) only[F8,Val.pv_mk,hk,hn,hs,push_cast,seval]
  ·have e:bK (.mk k n s t l fs)=false:=by simp[bK,hk,hn]
   rw[e]
   simp(disch:=try exact dI) only[F8,Val.pv_mk,hk,hn,push_cast,seval]
 ·have e:bK (.mk k n s t l fs)=false:=by simp[bK,hk]
  rw[e]
  simp(disch:=try exact dI) only[F8,Val.pv_mk,hk,push_cast,seval]
theorem xx (n s:Int)(t:List UInt8)(l:List Val)(fs:List Fld):ag Tryz.prog au 262 [(Val.mk 1 n s t l fs).pv] (.bool (aD (.mk 1 n s t l fs))):=by
 refine ag.intro bw.2 (by simp[bw]) ?_
 by_cases hs:s=0
 ·by_cases ht:t=[]
  ·by_cases hl:l.length=0
   ·have hlI:(l.length:Int)=0:=by omega
    by_cases hf:fs.length=0
    ·have hfI:(fs.length:Int)=0:=by omega
     have e:aD (.mk 1 n s t l fs)=true:=by simp[aD,hs,ht,hl,hf]
     rw[e]
     simp(disch:=try exact dI) only[bw,Val.pv_mk,hs,ht,hl,hf,push_cast,seval]
    ·have hfI:¬ (fs.length:Int)=0:=by omega
     have e:aD (.mk 1 n s t l fs)=false:=by simp[aD,hs,ht,hl,hf]
     rw[e]
     simp(disch:=try exact dI) only[bw,Val.pv_mk,hs,ht,hl,hf,push_cast,seval]
   ·have hlI:¬ (l.length:Int)=0:=by omega
    have e:aD (.mk 1 n s t l fs)=false:=by simp[aD,hs,ht,hl]
    rw[e]
    simp(disch:=try exact dI) only[bw,Val.pv_mk,hs,ht,hl,push_cast,seval]
  ·have e:aD (.mk 1 n s t l fs)=false:=by simp[aD,hs,ht]
   rw[e]
   simp(disch:=try exact dI) only[bw,Val.pv_mk,hs,ht,push_cast,seval]
 ·have e:aD (.mk 1 n s t l fs)=false:=by simp[aD,hs]
  rw[e]
  simp(disch:=try exact dI) only[bw,Val.pv_mk,hs,push_cast,seval]
theorem xw (n s:Int)(t:List UInt8)(l:List Val)(fs:List Fld):ag Tryz.prog au 262 [(Val.mk 2 n s t l fs).pv] (.bool (aD (.mk 2 n s t l fs))):=by
 refine ag.intro bw.2 (by simp[bw]) ?_
 by_cases hs:s=0
 ·by_cases ht:t=[]
  ·by_cases hl:l.length=0
   ·have hlI:(l.length:Int)=0:=by omega
    by_cases hf:fs.length=0
    ·have hfI:(fs.length:Int)=0:=by omega
     have e:aD (.mk 2 n s t l fs)=true:=by simp[aD,hs,ht,hl,hf]
     rw[e]
     simp(disch:=try exact dI) only[bw,Val.pv_mk,hs,ht,hl,hf,push_cast,seval]
    ·have hfI:¬ (fs.length:Int)=0:=by omega
     have e:aD (.mk 2 n s t l fs)=false:=by simp[aD,hs,ht,hl,hf]
     rw[e]
     simp(disch:=try exact dI) only[bw,Val.pv_mk,hs,ht,hl,hf,push_cast,seval]
   ·have hlI:¬ (l.length:Int)=0:=by omega
    have e:aD (.mk 2 n s t l fs)=false:=by simp[aD,hs,ht,hl]
    rw[e]
    simp(disch:=try exact dI) only[bw,Val.pv_mk,hs,ht,hl,push_cast,seval]
  ·have e:aD (.mk 2 n s t l fs)=false:=by simp[aD,hs,ht]
   rw[e]
   simp(disch:=try exact dI) only[bw,Val.pv_mk,hs,ht,push_cast,seval]
 ·have e:aD (.mk 2 n s t l fs)=false:=by simp[aD,hs]
  rw[e]
  simp(disch:=try exact dI) only[bw,Val.pv_mk,hs,push_cast,seval]
theorem xv (n s:Int)(t:List UInt8)(l:List Val)(fs:List Fld):ag Tryz.prog au 262 [(Val.mk 3 n s t l fs).pv] (.bool (aD (.mk 3 n s t l fs))):=by
 refine ag.intro bw.2 (by simp[bw]) ?_
 by_cases ht:t=[]
 ·by_cases hl:l.length=0
  ·have hlI:(l.length:Int)=0:=by omega
   by_cases hf:fs.length=0
   ·have hfI:(fs.length:Int)=0:=by omega
    have e:aD (.mk 3 n s t l fs)=true:=by simp[aD,ht,hl,hf]
    rw[e]
    simp(disch:=try exact dI) only[bw,Val.pv_mk,ht,hl,hf,push_cast,seval]
   ·have hfI:¬ (fs.length:Int)=0:=by omega
    have e:aD (.mk 3 n s t l fs)=false:=by simp[aD,ht,hl,hf]
    rw[e]
    simp(disch:=try exact dI) only[bw,Val.pv_mk,ht,hl,hf,push_cast,seval]
  ·have hlI:¬ (l.length:Int)=0:=by omega
   have e:aD (.mk 3 n s t l fs)=false:=by simp[aD,ht,hl]
   rw[e]
   simp(disch:=try exact dI) only[bw,Val.pv_mk,ht,hl,push_cast,seval]
 ·have e:aD (.mk 3 n s t l fs)=false:=by simp[aD,ht]
  rw[e]
  simp(disch:=try exact dI) only[bw,Val.pv_mk,ht,push_cast,seval]
theorem xu (n s:Int)(t:List UInt8)(l:List Val)(fs:List Fld):ag Tryz.prog au 262 [(Val.mk 4 n s t l fs).pv] (.bool (aD (.mk 4 n s t l fs))):=by
 refine ag.intro bw.2 (by simp[bw]) ?_
 by_cases hn:n=0
 ·by_cases hs:s=0
  ·by_cases hl:l.length=0
   ·have hlI:(l.length:Int)=0:=by omega
    by_cases hf:fs.length=0
    ·have hfI:(fs.length:Int)=0:=by omega
     have e:aD (.mk 4 n s t l fs)=true:=by simp[aD,hn,hs,hl,hf]
     rw[e]
     simp(disch:=try exact dI) only[bw,Val.pv_mk,hn,hs,hl,hf,push_cast,seval]
    ·have hfI:¬ (fs.length:Int)=0:=by omega
     have e:aD (.mk 4 n s t l fs)=false:=by simp[aD,hn,hs,hl,hf]
     rw[e]
     simp(disch:=try exact dI) only[bw,Val.pv_mk,hn,hs,hl,hf,push_cast,seval]
   ·have hlI:¬ (l.length:Int)=0:=by omega
    have e:aD (.mk 4 n s t l fs)=false:=by simp[aD,hn,hs,hl]
    rw[e]
    simp(disch:=try exact dI) only[bw,Val.pv_mk,hn,hs,hl,push_cast,seval]
  ·have e:aD (.mk 4 n s t l fs)=false:=by simp[aD,hn,hs]
   rw[e]
   simp(disch:=try exact dI) only[bw,Val.pv_mk,hn,hs,push_cast,seval]
 ·have e:aD (.mk 4 n s t l fs)=false:=by simp[aD,hn]
  rw[e]
  simp(disch:=try exact dI) only[bw,Val.pv_mk,hn,push_cast,seval]
theorem xr (n s:Int)(t:List UInt8)(l:List Val)(fs:List Fld):ag Tryz.prog au 262 [(Val.mk 5 n s t l fs).pv] (.bool (aD (.mk 5 n s t l fs))):=by
 refine ag.intro bw.2 (by simp[bw]) ?_
 by_cases hn:n=0
 ·by_cases hs:s=0
  ·by_cases hl:l.length=0
   ·have hlI:(l.length:Int)=0:=by omega
    by_cases hf:fs.length=0
    ·have hfI:(fs.length:Int)=0:=by omega
     have e:aD (.mk 5 n s t l fs)=true:=by simp[aD,hn,hs,hl,hf]
     rw[e]
     simp(disch:=try exact dI) only[bw,Val.pv_mk,hn,hs,hl,hf,push_cast,seval]
    ·have hfI:¬ (fs.length:Int)=0:=by omega
     have e:aD (.mk 5 n s t l fs)=false:=by simp[aD,hn,hs,hl,hf]
     rw[e]
     simp(disch:=try exact dI) only[bw,Val.pv_mk,hn,hs,hl,hf,push_cast,seval]
   ·have hlI:¬ (l.length:Int)=0:=by omega
    have e:aD (.mk 5 n s t l fs)=false:=by simp[aD,hn,hs,hl]
    rw[e]
    simp(disch:=try exact dI) only[bw,Val.pv_mk,hn,hs,hl,push_cast,seval]
  ·have e:aD (.mk 5 n s t l fs)=false:=by simp[aD,hn,hs]
   rw[e]
   simp(disch:=try exact dI) only[bw,Val.pv_mk,hn,hs,push_cast,seval]
 ·have e:aD (.mk 5 n s t l fs)=false:=by simp[aD,hn]
  rw[e]
  simp(disch:=try exact dI) only[bw,Val.pv_mk,hn,push_cast,seval]
theorem xq (n s:Int)(t:List UInt8)(l:List Val)(fs:List Fld):ag Tryz.prog au 262 [(Val.mk 6 n s t l fs).pv] (.bool (aD (.mk 6 n s t l fs))):=by
 refine ag.intro bw.2 (by simp[bw]) ?_
 by_cases hs:s=0
 ·by_cases ht:t=[]
  ·by_cases hl:l.length=0
   ·have hlI:(l.length:Int)=0:=by omega
    by_cases hf:fs.length=0
    ·have hfI:(fs.length:Int)=0:=by omega
     have e:aD (.mk 6 n s t l fs)=true:=by simp[aD,hs,ht,hl,hf]
     rw[e]
     simp(disch:=try exact dI) only[bw,Val.pv_mk,hs,ht,hl,hf,push_cast,seval]
    ·have hfI:¬ (fs.length:Int)=0:=by omega
     have e:aD (.mk 6 n s t l fs)=false:=by simp[aD,hs,ht,hl,hf]
     rw[e]
     simp(disch:=try exact dI) only[bw,Val.pv_mk,hs,ht,hl,hf,push_cast,seval]
   ·have hlI:¬ (l.length:Int)=0:=by omega
    have e:aD (.mk 6 n s t l fs)=false:=by simp[aD,hs,ht,hl]
    rw[e]
    simp(disch:=try exact dI) only[bw,Val.pv_mk,hs,ht,hl,push_cast,seval]
  ·have e:aD (.mk 6 n s t l fs)=false:=by simp[aD,hs,ht]
   rw[e]
   simp(disch:=try exact dI) only[bw,Val.pv_mk,hs,ht,push_cast,seval]
 ·have e:aD (.mk 6 n s t l fs)=false:=by simp[aD,hs]
  rw[e]
  simp(disch:=try exact dI) only[bw,Val.pv_mk,hs,push_cast,seval]
theorem xp (n s:Int)(t:List UInt8)(l:List Val)(fs:List Fld):ag Tryz.prog au 262 [(Val.mk 7 n s t l fs).pv] (.bool (aD (.mk 7 n s t l fs))):=by
 refine ag.intro bw.2 (by simp[bw]) ?_
 by_cases hs:s=0
 ·by_cases ht:t=[]
  ·by_cases hl:l.length=0
   ·have hlI:(l.length:Int)=0:=by omega
    by_cases hf:fs.length=0
    ·have hfI:(fs.length:Int)=0:=by omega
     have e:aD (.mk 7 n s t l fs)=true:=by simp[aD,hs,ht,hl,hf]
     rw[e]
     simp(disch:=try exact dI) only[bw,Val.pv_mk,hs,ht,hl,hf,push_cast,seval]
    ·have hfI:¬ (fs.length:Int)=0:=by omega
     have e:aD (.mk 7 n s t l fs)=false:=by simp[aD,hs,ht,hl,hf]
     rw[e]
     simp(disch:=try exact dI) only[bw,Val.pv_mk,hs,ht,hl,hf,push_cast,seval]
   ·have hlI:¬ (l.length:Int)=0:=by omega
    have e:aD (.mk 7 n s t l fs)=false:=by simp[aD,hs,ht,hl]
    rw[e]
    simp(disch:=try exact dI) only[bw,Val.pv_mk,hs,ht,hl,push_cast,seval]
  ·have e:aD (.mk 7 n s t l fs)=false:=by simp[aD,hs,ht]
   rw[e]
   simp(disch:=try exact dI) only[bw,Val.pv_mk,hs,ht,push_cast,seval]
 ·have e:aD (.mk 7 n s t l fs)=false:=by simp[aD,hs]
  rw[e]
  simp(disch:=try exact dI) only[bw,Val.pv_mk,hs,push_cast,seval]
theorem xo (n s:Int)(t:List UInt8)(l:List Val)(fs:List Fld):ag Tryz.prog au 262 [(Val.mk 8 n s t l fs).pv] (.bool (aD (.mk 8 n s t l fs))):=by
 refine ag.intro bw.2 (by simp[bw]) ?_
 by_cases hn:n=0
 ·by_cases hs:s=0
  ·by_cases ht:t=[]
   ·by_cases hf:fs.length=0
    ·have hfI:(fs.length:Int)=0:=by omega
     have e:aD (.mk 8 n s t l fs)=true:=by simp[aD,hn,hs,ht,hf]
     rw[e]
     simp(disch:=try exact dI) only[bw,Val.pv_mk,hn,hs,ht,hf,push_cast,seval]
    ·have hfI:¬ (fs.length:Int)=0:=by omega
     have e:aD (.mk 8 n s t l fs)=false:=by simp[aD,hn,hs,ht,hf]
     rw[e]
     simp(disch:=try exact dI) only[bw,Val.pv_mk,hn,hs,ht,hf,push_cast,seval]
   ·have e:aD (.mk 8 n s t l fs)=false:=by simp[aD,hn,hs,ht]
    rw[e]
    simp(disch:=try exact dI) only[bw,Val.pv_mk,hn,hs,ht,push_cast,seval]
  ·have e:aD (.mk 8 n s t l fs)=false:=by simp[aD,hn,hs]
   rw[e]
   simp(disch:=try exact dI) only[bw,Val.pv_mk,hn,hs,push_cast,seval]
 ·have e:aD (.mk 8 n s t l fs)=false:=by simp[aD,hn]
  rw[e]
  simp(disch:=try exact dI) only[bw,Val.pv_mk,hn,push_cast,seval]
theorem xm (n s:Int)(t:List UInt8)(l:List Val)(fs:List Fld):ag Tryz.prog au 262 [(Val.mk 9 n s t l fs).pv] (.bool (aD (.mk 9 n s t l fs))):=by
 refine ag.intro bw.2 (by simp[bw]) ?_
 by_cases hn:n=0
 ·by_cases hs:s=0
  ·by_cases ht:t=[]
   ·by_cases hl:l.length=0
    ·have hlI:(l.length:Int)=0:=by omega
     have e:aD (.mk 9 n s t l fs)=true:=by simp[aD,hn,hs,ht,hl]
     rw[e]
     simp(disch:=try exact dI) only[bw,Val.pv_mk,hn,hs,ht,hl,push_cast,seval]
    ·have hlI:¬ (l.length:Int)=0:=by omega
     have e:aD (.mk 9 n s t l fs)=false:=by simp[aD,hn,hs,ht,hl]
     rw[e]
     simp(disch:=try exact dI) only[bw,Val.pv_mk,hn,hs,ht,hl,push_cast,seval]
   ·have e:aD (.mk 9 n s t l fs)=false:=by simp[aD,hn,hs,ht]
    rw[e]
    simp(disch:=try exact dI) only[bw,Val.pv_mk,hn,hs,ht,push_cast,seval]
  ·have e:aD (.mk 9 n s t l fs)=false:=by simp[aD,hn,hs]
   rw[e]
   simp(disch:=try exact dI) only[bw,Val.pv_mk,hn,hs,push_cast,seval]
 ·have e:aD (.mk 9 n s t l fs)=false:=by simp[aD,hn]
  rw[e]
  simp(disch:=try exact dI) only[bw,Val.pv_mk,hn,push_cast,seval]
theorem tz (n s:Int)(t:List UInt8)(l:List Val)(fs:List Fld):ag Tryz.prog au 262 [(Val.mk 10 n s t l fs).pv] (.bool (aD (.mk 10 n s t l fs))):=by
 refine ag.intro bw.2 (by simp[bw]) ?_
 by_cases hn:n=0
 ·by_cases hs:s=0
  ·by_cases hf:fs.length=0
   ·have hfI:(fs.length:Int)=0:=by omega
    have e:aD (.mk 10 n s t l fs)=true:=by simp[aD,hn,hs,hf]
    rw[e]
    simp(disch:=try exact dI) only[bw,Val.pv_mk,hn,hs,hf,push_cast,seval]
   ·have hfI:¬ (fs.length:Int)=0:=by omega
    have e:aD (.mk 10 n s t l fs)=false:=by simp[aD,hn,hs,hf]
    rw[e]
    simp(disch:=try exact dI) only[bw,Val.pv_mk,hn,hs,hf,push_cast,seval]
  ·have e:aD (.mk 10 n s t l fs)=false:=by simp[aD,hn,hs]
   rw[e]
   simp(disch:=try exact dI) only[bw,Val.pv_mk,hn,hs,push_cast,seval]
 ·have e:aD (.mk 10 n s t l fs)=false:=by simp[aD,hn]
  rw[e]
  simp(disch:=try exact dI) only[bw,Val.pv_mk,hn,push_cast,seval]
theorem Hv (v:Val)(hk:1<=v.kind/\v.kind<=10):ag Tryz.prog au 262 [v.pv] (.bool (aD v)):=by
 obtain⟨k,n,s,t,l,fs⟩:=v
 simp only[Val.kind] at hk
 have hc:k=1\/k=2\/k=3\/k=4\/k=5\/k=6\/k=7\/k=8\/k=9\/k=10:=by omega
 rcases hc with rfl | rfl | rfl | rfl | rfl | rfl | rfl | rfl | rfl | rfl
 ·exact xx n s t l fs
 ·exact xw n s t l fs
 ·exact xv n s t l fs
 ·exact xu n s t l fs
 ·exact xr n s t l fs
 ·exact xq n s t l fs
 ·exact xp n s t l fs
 ·exact xo n s t l fs
 ·exact xm n s t l fs
 ·exact tz n s t l fs
theorem tp (e:List (Nat×AV))(σ:List (Nat×Blk))(new:Nat)(x:AX):kN e σ new (.ofStr x)=dA new (evE e x):=_root_.id rfl
theorem yF (new:Nat){k:List UInt8}(h:k.length<=140737488355328):dA new (.pv (.str k))=some (.pv (.list (aA k)),[(new,.none)]):=by simp only[dA];rw[if_pos h]
def Al (c:UInt8):Bool:=decide (97<=c.toNat)&&decide (c.toNat<=122)
def okC (c:UInt8):Bool:=Al c||(decide (48<=c.toNat)&&decide (c.toNat<=57))||decide (c.toNat=95)
def cy (s:List UInt8):Bool:=decide (0<s.length)&&(decide (s.length<=32)&&(Al (s.headD 0)&&s.all okC))
theorem wl (s:List UInt8):(aA s).length=s.length:=by simp[aA]
theorem Cc {s:List UInt8}{i:Nat}{c:UInt8}(h:s[i]? = some c):(aA s)[i]? = some (.int .u8 (c.toNat:Int)):=by simp[aA,h]
theorem FQ {s:List UInt8}{i:Nat}{c:UInt8}(h:s[i]? = some c):(s.take (i+1)).all okC=((s.take i).all okC&&okC c):=by rw[aL h];simp
theorem q8 {s:List UInt8}{i:Nat}{c:UInt8}(h:s[i]? = some c)(hc:okC c=false):s.all okC=false:=by
 rw[Bool.eq_false_iff]
 intro ha
 have:=List.all_eq_true.1 ha c (List.mem_of_getElem? h)
 rw[hc] at this;cases this
theorem qp (s:List UInt8):ag Tryz.prog au 258 [.str s] (.bool (cy s)):=by
 cases s with
 | nil=>
   rw[show cy []=false from rfl]
   refine ag.intro F4.2 (by simp[F4]) ?_
   simp(disch:=try exact dI) only[F4,push_cast,seval]
 | cons c r=>
   generalize hs:c::r=s
   have hne:¬ s=[]:=by rw[<- hs];simp
   have h0:s[0]? = some c:=by rw[<- hs];rfl
   have hh:s.headD 0=c:=by rw[<- hs];rfl
   have hlen:0<s.length:=by rw[<- hs];simp
   clear hs
   refine ag.intro F4.2 (by simp[F4]) ?_
   by_cases h32:s.length<=32
   ·by_cases ha:97<=c.toNat
    ·by_cases hz:c.toNat<=122
     ·have e:cy s=s.all okC:=by simp only[cy,hh,Al,decide_eq_true hlen,decide_eq_true h32,decide_eq_true ha,decide_eq_true hz,Bool.true_and]
      rw[e]
      simp(disch:=try exact dI) only[F4,hne,h0,aR,tp,yF,wl,push_cast,seval]
      refine aC ([]) (fun i:Nat=>[(25,.pv (.int .i64 (i:Int)))]) (fun _=>[]) (fun i=>i<=s.length/\(s.take i).all okC=true) (fun i=>s.length - i) (0) ?_;intro e0 σ0 n0 h0;simp(disch:=try exact dI) only[push_cast,seval] at h0;obtain⟨rfl,rfl,rfl⟩:=h0;refine⟨?_,?_,?_⟩
      ·exact qsZ
      ·exact⟨by omega,by simp⟩
      rintro i ⟨hi,hall⟩
      by_cases hlt:i<s.length
      ·have hltI:(i:Int)<(s.length:Int):=by omega
       obtain⟨b,hb⟩:∃ b,s[i]? = some b:=⟨_,List.getElem?_eq_getElem hlt⟩
       have hbp:=Cc hb
       have hbn:=b.toNat_lt
       have hsn:=FQ hb
       rw[hall,Bool.true_and] at hsn
       have hc:b.toNat<48\/(48<=b.toNat/\b.toNat<=57)\/(57<b.toNat/\b.toNat<97/\b.toNat≠95)\/b.toNat=95\/(97<=b.toNat/\b.toNat<=122)\/122<b.toNat:=by omega
       rcases hc with hc | hc | hc | hc | hc | hc
       ·have hbad:s.all okC=false:=q8 hb (by simp[okC,Al];omega)
        rw[hbad]
        simp(disch:=try exact dI) only[hbp,push_cast,seval]
       ·have hok:okC b=true:=by simp[okC,Al];omega
        simp(disch:=try exact dI) only[hbp,push_cast,seval]
        exact⟨i+1,aX qsZ,⟨by omega,by rw[hsn,hok]⟩,by omega⟩
       ·have hbad:s.all okC=false:=q8 hb (by simp[okC,Al];omega)
        rw[hbad]
        simp(disch:=try exact dI) only[hbp,push_cast,seval]
       ·have hok:okC b=true:=by simp[okC,Al];omega
        simp(disch:=try exact dI) only[hbp,push_cast,seval]
        exact⟨i+1,aX qsZ,⟨by omega,by rw[hsn,hok]⟩,by omega⟩
       ·have hok:okC b=true:=by simp[okC,Al];omega
        simp(disch:=try exact dI) only[hbp,push_cast,seval]
        exact⟨i+1,aX qsZ,⟨by omega,by rw[hsn,hok]⟩,by omega⟩
       ·have hbad:s.all okC=false:=q8 hb (by simp[okC,Al];omega)
        rw[hbad]
        simp(disch:=try exact dI) only[hbp,push_cast,seval]
      ·have he:s.take i=s:=List.take_of_length_le (by omega)
       rw[he] at hall
       rw[hall]
       exact qsZ
     ·have e:cy s=false:=by simp only[cy,hh,Al,decide_eq_false hz,Bool.and_false,Bool.false_and]
      rw[e]
      simp(disch:=try exact dI) only[F4,hne,h0,aR,push_cast,seval]
    ·have e:cy s=false:=by simp only[cy,hh,Al,decide_eq_false ha,Bool.and_false,Bool.false_and]
     rw[e]
     simp(disch:=try exact dI) only[F4,hne,h0,aR,push_cast,seval]
   ·have e:cy s=false:=by simp[cy,h32]
    rw[e]
    simp(disch:=try exact dI) only[F4,hne,push_cast,seval]
end Go.Proofs.YtbojpfpliibfbaaGreatDoor
