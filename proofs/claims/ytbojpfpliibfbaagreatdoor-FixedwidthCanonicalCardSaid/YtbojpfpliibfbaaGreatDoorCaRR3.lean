/- A part of the proof. -/
import Derived.Test.YtbojpfpliibfbaaGreatDoorCaRR0
set_option maxHeartbeats 16000000
set_option maxRecDepth 100000
set_option linter.unusedVariables false
set_option linter.unusedSimpArgs false
namespace Go.Proofs.YtbojpfpliibfbaaGreatDoor
open Go Go.Ab
attribute [local irreducible] vc
theorem j2 (v:Val):ag Tryz.prog au 261 [v.pv] (.clo 295 [] [.eptr [v.pv] 0 0]):=by
 obtain⟨k,n,s,t,l,fs⟩:=v
 refine ag.intro Rl.2 (by simp[Rl]) ?_
 simp(disch:=try exact dI) only[Rl,Val.pv_mk,push_cast,seval]
def za:PV:=.agg [.nilf,.clo 282 [] [],.clo 284 [] [],.clo 285 [] [],.clo 287 [] [],.clo 289 [] [],.clo 290 [] [],.clo 291 [] [],.clo 292 [] [],.clo 293 [] [],.clo 294 [] []]
theorem Ay (f:Nat)(a b:List PV):PV.one (.clo f a b)=true:=rfl
theorem sU:PV.one .nilf=true:=rfl
theorem Ew:ag Tryz.prog au 260 [] za:=by
 refine ag.intro Rm.2 (by simp[Rm]) ?_
 simp(disch:=try exact dI) only[Rm,za,Ay,sU,push_cast,seval]
theorem cQ (n a b:Int):ag Tryz.prog au 283 [.int .i64 n,.int .i64 a,.int .i64 b] (.int .i64 (if n<a\/b<n then 2 else 0)):=by
 refine ag.intro O5.2 (by simp[O5]) ?_
 by_cases h1:n<a
 ·rw[if_pos (.inl h1)]
  simp(disch:=try exact dI) only[O5,push_cast,seval]
 ·by_cases h2:b<n
  ·rw[if_pos (.inr h2)]
   simp(disch:=try exact dI) only[O5,push_cast,seval]
  ·rw[if_neg (by omega)]
   simp(disch:=try exact dI) only[O5,push_cast,seval]
theorem jR (n m e:Int):ag Tryz.prog au 288 [.int .i64 n,.int .i64 m,.int .i64 e] (.int .i64 (if m<n then e else 0)):=by
 refine ag.intro Py.2 (by simp[Py]) ?_
 by_cases h1:m<n
 ·rw[if_pos h1]
  simp(disch:=try exact dI) only[Py,push_cast,seval]
 ·rw[if_neg h1]
  simp(disch:=try exact dI) only[Py,push_cast,seval]
def ba:Val->Bool
 | .mk k n s t l fs=>decide (k=0)&&(decide (n=0)&&(decide (s=0)&&(decide (t=[])&&(decide (l.length=0)&&decide (fs.length=0)))))
def aD:Val->Bool
 | .mk k n s t l fs=>(decide (k=1\/k=2\/k=6\/k=7\/k=3)||decide (n=0))&&((decide (k=3)||decide (s=0))&&((decide (k=4\/k=5\/k=10)||decide (t=[]))&&((decide (k=8\/k=10)||decide (l.length=0))&&(decide (k=9)||decide (fs.length=0)))))
theorem qW (v:Val):ag Tryz.prog au 110 [v.pv] (.bool (ba v)):=by
 obtain⟨k,n,s,t,l,fs⟩:=v
 refine ag.intro Hc.2 (by simp[Hc]) ?_
 by_cases hk:k=0
 ·by_cases hn:n=0
  ·by_cases hs:s=0
   ·by_cases ht:t=[]
    ·by_cases hl:l.length=0
     ·have hlI:(l.length:Int)=0:=by omega
      by_cases hf:fs.length=0
      ·have hfI:(fs.length:Int)=0:=by omega
       have e:ba (.mk k n s t l fs)=true:=by simp[ba,hk,hn,hs,ht,hl,hf]
       rw[e]
       simp(disch:=try exact dI) only[Hc,Val.pv_mk,hk,hn,hs,ht,hl,hf,push_cast,seval]
      ·have hfI:¬ (fs.length:Int)=0:=by omega
       have e:ba (.mk k n s t l fs)=false:=by simp[ba,hk,hn,hs,ht,hl,hf]
       rw[e]
       simp(disch:=try exact dI) only[Hc,Val.pv_mk,hk,hn,hs,ht,hl,hf,push_cast,seval]
     ·have hlI:¬ (l.length:Int)=0:=by omega
      have e:ba (.mk k n s t l fs)=false:=by simp[ba,hk,hn,hs,ht,hl]
      rw[e]
      simp(disch:=try exact dI) only[Hc,Val.pv_mk,hk,hn,hs,ht,hl,push_cast,seval]
    ·have e:ba (.mk k n s t l fs)=false:=by simp[ba,hk,hn,hs,ht]
     rw[e]
     simp(disch:=try exact dI) only[Hc,Val.pv_mk,hk,hn,hs,ht,push_cast,seval]
   ·have e:ba (.mk k n s t l fs)=false:=by simp[ba,hk,hn,hs]
    rw[e]
    simp(disch:=try exact dI) only[Hc,Val.pv_mk,hk,hn,hs,push_cast,seval]
  ·have e:ba (.mk k n s t l fs)=false:=by simp[ba,hk,hn]
   rw[e]
   simp(disch:=try exact dI) only[Hc,Val.pv_mk,hk,hn,push_cast,seval]
 ·have e:ba (.mk k n s t l fs)=false:=by simp[ba,hk]
  rw[e]
  simp(disch:=try exact dI) only[Hc,Val.pv_mk,hk,push_cast,seval]
theorem yu (n s:Int)(t:List UInt8)(l:List Val)(fs:List Fld):ag Tryz.prog au 262 [(Val.mk 1 n s t l fs).pv] (.bool (aD (.mk 1 n s t l fs))):=by
 refine ag.intro bD.2 (by simp[bD]) ?_
 by_cases hs:s=0
 ·by_cases ht:t=[]
  ·by_cases hl:l.length=0
   ·have hlI:(l.length:Int)=0:=by omega
    by_cases hf:fs.length=0
    ·have hfI:(fs.length:Int)=0:=by omega
     have e:aD (.mk 1 n s t l fs)=true:=by simp[aD,hs,ht,hl,hf]
     rw[e]
     simp(disch:=try exact dI) only[bD,Val.pv_mk,hs,ht,hl,hf,push_cast,seval]
    ·have hfI:¬ (fs.length:Int)=0:=by omega
     have e:aD (.mk 1 n s t l fs)=false:=by simp[aD,hs,ht,hl,hf]
     rw[e]
     simp(disch:=try exact dI) only[bD,Val.pv_mk,hs,ht,hl,hf,push_cast,seval]
   ·have hlI:¬ (l.length:Int)=0:=by omega
    have e:aD (.mk 1 n s t l fs)=false:=by simp[aD,hs,ht,hl]
    rw[e]
    simp(disch:=try exact dI) only[bD,Val.pv_mk,hs,ht,hl,push_cast,seval]
  ·have e:aD (.mk 1 n s t l fs)=false:=by simp[aD,hs,ht]
   rw[e]
   simp(disch:=try exact dI) only[bD,Val.pv_mk,hs,ht,push_cast,seval]
 ·have e:aD (.mk 1 n s t l fs)=false:=by simp[aD,hs]
  rw[e]
  simp(disch:=try exact dI) only[bD,Val.pv_mk,hs,push_cast,seval]
theorem yr (n s:Int)(t:List UInt8)(l:List Val)(fs:List Fld):ag Tryz.prog au 262 [(Val.mk 2 n s t l fs).pv] (.bool (aD (.mk 2 n s t l fs))):=by
 refine ag.intro bD.2 (by simp[bD]) ?_
 by_cases hs:s=0
 ·by_cases ht:t=[]
  ·by_cases hl:l.length=0
   ·have hlI:(l.length:Int)=0:=by omega
    by_cases hf:fs.length=0
    ·have hfI:(fs.length:Int)=0:=by omega
     have e:aD (.mk 2 n s t l fs)=true:=by simp[aD,hs,ht,hl,hf]
     rw[e]
     simp(disch:=try exact dI) only[bD,Val.pv_mk,hs,ht,hl,hf,push_cast,seval]
    ·have hfI:¬ (fs.length:Int)=0:=by omega
     have e:aD (.mk 2 n s t l fs)=false:=by simp[aD,hs,ht,hl,hf]
     rw[e]
     simp(disch:=try exact dI) only[bD,Val.pv_mk,hs,ht,hl,hf,push_cast,seval]
   ·have hlI:¬ (l.length:Int)=0:=by omega
    have e:aD (.mk 2 n s t l fs)=false:=by simp[aD,hs,ht,hl]
    rw[e]
    simp(disch:=try exact dI) only[bD,Val.pv_mk,hs,ht,hl,push_cast,seval]
  ·have e:aD (.mk 2 n s t l fs)=false:=by simp[aD,hs,ht]
   rw[e]
   simp(disch:=try exact dI) only[bD,Val.pv_mk,hs,ht,push_cast,seval]
 ·have e:aD (.mk 2 n s t l fs)=false:=by simp[aD,hs]
  rw[e]
  simp(disch:=try exact dI) only[bD,Val.pv_mk,hs,push_cast,seval]
theorem yq (n s:Int)(t:List UInt8)(l:List Val)(fs:List Fld):ag Tryz.prog au 262 [(Val.mk 3 n s t l fs).pv] (.bool (aD (.mk 3 n s t l fs))):=by
 refine ag.intro bD.2 (by simp[bD]) ?_
 by_cases ht:t=[]
 ·by_cases hl:l.length=0
  ·have hlI:(l.length:Int)=0:=by omega
   by_cases hf:fs.length=0
   ·have hfI:(fs.length:Int)=0:=by omega
    have e:aD (.mk 3 n s t l fs)=true:=by simp[aD,ht,hl,hf]
    rw[e]
    simp(disch:=try exact dI) only[bD,Val.pv_mk,ht,hl,hf,push_cast,seval]
   ·have hfI:¬ (fs.length:Int)=0:=by omega
    have e:aD (.mk 3 n s t l fs)=false:=by simp[aD,ht,hl,hf]
    rw[e]
    simp(disch:=try exact dI) only[bD,Val.pv_mk,ht,hl,hf,push_cast,seval]
  ·have hlI:¬ (l.length:Int)=0:=by omega
   have e:aD (.mk 3 n s t l fs)=false:=by simp[aD,ht,hl]
   rw[e]
   simp(disch:=try exact dI) only[bD,Val.pv_mk,ht,hl,push_cast,seval]
 ·have e:aD (.mk 3 n s t l fs)=false:=by simp[aD,ht]
  rw[e]
  simp(disch:=try exact dI) only[bD,Val.pv_mk,ht,push_cast,seval]
theorem yp (n s:Int)(t:List UInt8)(l:List Val)(fs:List Fld):ag Tryz.prog au 262 [(Val.mk 4 n s t l fs).pv] (.bool (aD (.mk 4 n s t l fs))):=by
 refine ag.intro bD.2 (by simp[bD]) ?_
 by_cases hn:n=0
 ·by_cases hs:s=0
  ·by_cases hl:l.length=0
   ·have hlI:(l.length:Int)=0:=by omega
    by_cases hf:fs.length=0
    ·have hfI:(fs.length:Int)=0:=by omega
     have e:aD (.mk 4 n s t l fs)=true:=by simp[aD,hn,hs,hl,hf]
     rw[e]
     simp(disch:=try exact dI) only[bD,Val.pv_mk,hn,hs,hl,hf,push_cast,seval]
    ·have hfI:¬ (fs.length:Int)=0:=by omega
     have e:aD (.mk 4 n s t l fs)=false:=by simp[aD,hn,hs,hl,hf]
     rw[e]
     simp(disch:=try exact dI) only[bD,Val.pv_mk,hn,hs,hl,hf,push_cast,seval]
   ·have hlI:¬ (l.length:Int)=0:=by omega
    have e:aD (.mk 4 n s t l fs)=false:=by simp[aD,hn,hs,hl]
    rw[e]
    simp(disch:=try exact dI) only[bD,Val.pv_mk,hn,hs,hl,push_cast,seval]
  ·have e:aD (.mk 4 n s t l fs)=false:=by simp[aD,hn,hs]
   rw[e]
   simp(disch:=try exact dI) only[bD,Val.pv_mk,hn,hs,push_cast,seval]
 ·have e:aD (.mk 4 n s t l fs)=false:=by simp[aD,hn]
  rw[e]
  simp(disch:=try exact dI) only[bD,Val.pv_mk,hn,push_cast,seval]
theorem yo (n s:Int)(t:List UInt8)(l:List Val)(fs:List Fld):ag Tryz.prog au 262 [(Val.mk 5 n s t l fs).pv] (.bool (aD (.mk 5 n s t l fs))):=by
 refine ag.intro bD.2 (by simp[bD]) ?_
 by_cases hn:n=0
 ·by_cases hs:s=0
  ·by_cases hl:l.length=0
   ·have hlI:(l.length:Int)=0:=by omega
    by_cases hf:fs.length=0
    ·have hfI:(fs.length:Int)=0:=by omega
     have e:aD (.mk 5 n s t l fs)=true:=by simp[aD,hn,hs,hl,hf]
     rw[e]
     simp(disch:=try exact dI) only[bD,Val.pv_mk,hn,hs,hl,hf,push_cast,seval]
    ·have hfI:¬ (fs.length:Int)=0:=by omega
     have e:aD (.mk 5 n s t l fs)=false:=by simp[aD,hn,hs,hl,hf]
     rw[e]
     simp(disch:=try exact dI) only[bD,Val.pv_mk,hn,hs,hl,hf,push_cast,seval]
   ·have hlI:¬ (l.length:Int)=0:=by omega
    have e:aD (.mk 5 n s t l fs)=false:=by simp[aD,hn,hs,hl]
    rw[e]
    simp(disch:=try exact dI) only[bD,Val.pv_mk,hn,hs,hl,push_cast,seval]
  ·have e:aD (.mk 5 n s t l fs)=false:=by simp[aD,hn,hs]
   rw[e]
   simp(disch:=try exact dI) only[bD,Val.pv_mk,hn,hs,push_cast,seval]
 ·have e:aD (.mk 5 n s t l fs)=false:=by simp[aD,hn]
  rw[e]
  simp(disch:=try exact dI) only[bD,Val.pv_mk,hn,push_cast,seval]
theorem ym (n s:Int)(t:List UInt8)(l:List Val)(fs:List Fld):ag Tryz.prog au 262 [(Val.mk 6 n s t l fs).pv] (.bool (aD (.mk 6 n s t l fs))):=by
 refine ag.intro bD.2 (by simp[bD]) ?_
 by_cases hs:s=0
 ·by_cases ht:t=[]
  ·by_cases hl:l.length=0
   ·have hlI:(l.length:Int)=0:=by omega
    by_cases hf:fs.length=0
    ·have hfI:(fs.length:Int)=0:=by omega
     have e:aD (.mk 6 n s t l fs)=true:=by simp[aD,hs,ht,hl,hf]
     rw[e]
     simp(disch:=try exact dI) only[bD,Val.pv_mk,hs,ht,hl,hf,push_cast,seval]
    ·have hfI:¬ (fs.length:Int)=0:=by omega
     have e:aD (.mk 6 n s t l fs)=false:=by simp[aD,hs,ht,hl,hf]
     rw[e]
     simp(disch:=try exact dI) only[bD,Val.pv_mk,hs,ht,hl,hf,push_cast,seval]
   ·have hlI:¬ (l.length:Int)=0:=by omega
    have e:aD (.mk 6 n s t l fs)=false:=by simp[aD,hs,ht,hl]
    rw[e]
    simp(disch:=try exact dI) only[bD,Val.pv_mk,hs,ht,hl,push_cast,seval]
  ·have e:aD (.mk 6 n s t l fs)=false:=by simp[aD,hs,ht]
   rw[e]
   simp(disch:=try exact dI) only[bD,Val.pv_mk,hs,ht,push_cast,seval]
 ·have e:aD (.mk 6 n s t l fs)=false:=by simp[aD,hs]
  rw[e]
  simp(disch:=try exact dI) only[bD,Val.pv_mk,hs,push_cast,seval]
theorem yj (n s:Int)(t:List UInt8)(l:List Val)(fs:List Fld):ag Tryz.prog au 262 [(Val.mk 7 n s t l fs).pv] (.bool (aD (.mk 7 n s t l fs))):=by
 refine ag.intro bD.2 (by simp[bD]) ?_
 by_cases hs:s=0
 ·by_cases ht:t=[]
  ·by_cases hl:l.length=0
   ·have hlI:(l.length:Int)=0:=by omega
    by_cases hf:fs.length=0
    ·have hfI:(fs.length:Int)=0:=by omega
     have e:aD (.mk 7 n s t l fs)=true:=by simp[aD,hs,ht,hl,hf]
     rw[e]
     simp(disch:=try exact dI) only[bD,Val.pv_mk,hs,ht,hl,hf,push_cast,seval]
    ·have hfI:¬ (fs.length:Int)=0:=by omega
     have e:aD (.mk 7 n s t l fs)=false:=by simp[aD,hs,ht,hl,hf]
     rw[e]
     simp(disch:=try exact dI) only[bD,Val.pv_mk,hs,ht,hl,hf,push_cast,seval]
   ·have hlI:¬ (l.length:Int)=0:=by omega
    have e:aD (.mk 7 n s t l fs)=false:=by simp[aD,hs,ht,hl]
    rw[e]
    simp(disch:=try exact dI) only[bD,Val.pv_mk,hs,ht,hl,push_cast,seval]
  ·have e:aD (.mk 7 n s t l fs)=false:=by simp[aD,hs,ht]
   rw[e]
   simp(disch:=try exact dI) only[bD,Val.pv_mk,hs,ht,push_cast,seval]
 ·have e:aD (.mk 7 n s t l fs)=false:=by simp[aD,hs]
  rw[e]
  simp(disch:=try exact dI) only[bD,Val.pv_mk,hs,push_cast,seval]
theorem yh (n s:Int)(t:List UInt8)(l:List Val)(fs:List Fld):ag Tryz.prog au 262 [(Val.mk 8 n s t l fs).pv] (.bool (aD (.mk 8 n s t l fs))):=by
 refine ag.intro bD.2 (by simp[bD]) ?_
 by_cases hn:n=0
 ·by_cases hs:s=0
  ·by_cases ht:t=[]
   ·by_cases hf:fs.length=0
    ·have hfI:(fs.length:Int)=0:=by omega
     have e:aD (.mk 8 n s t l fs)=true:=by simp[aD,hn,hs,ht,hf]
     rw[e]
     simp(disch:=try exact dI) only[bD,Val.pv_mk,hn,hs,ht,hf,push_cast,seval]
    ·have hfI:¬ (fs.length:Int)=0:=by omega
     have e:aD (.mk 8 n s t l fs)=false:=by simp[aD,hn,hs,ht,hf]
     rw[e]
     simp(disch:=try exact dI) only[bD,Val.pv_mk,hn,hs,ht,hf,push_cast,seval]
   ·have e:aD (.mk 8 n s t l fs)=false:=by simp[aD,hn,hs,ht]
    rw[e]
    simp(disch:=try exact dI) only[bD,Val.pv_mk,hn,hs,ht,push_cast,seval]
  ·have e:aD (.mk 8 n s t l fs)=false:=by simp[aD,hn,hs]
   rw[e]
   simp(disch:=try exact dI) only[bD,Val.pv_mk,hn,hs,push_cast,seval]
 ·have e:aD (.mk 8 n s t l fs)=false:=by simp[aD,hn]
  rw[e]
  simp(disch:=try exact dI) only[bD,Val.pv_mk,hn,push_cast,seval]
theorem yg (n s:Int)(t:List UInt8)(l:List Val)(fs:List Fld):ag Tryz.prog au 262 [(Val.mk 9 n s t l fs).pv] (.bool (aD (.mk 9 n s t l fs))):=by
 refine ag.intro bD.2 (by simp[bD]) ?_
 by_cases hn:n=0
 ·by_cases hs:s=0
  ·by_cases ht:t=[]
   ·by_cases hl:l.length=0
    ·have hlI:(l.length:Int)=0:=by omega
     have e:aD (.mk 9 n s t l fs)=true:=by simp[aD,hn,hs,ht,hl]
     rw[e]
     simp(disch:=try exact dI) only[bD,Val.pv_mk,hn,hs,ht,hl,push_cast,seval]
    ·have hlI:¬ (l.length:Int)=0:=by omega
     have e:aD (.mk 9 n s t l fs)=false:=by simp[aD,hn,hs,ht,hl]
     rw[e]
     simp(disch:=try exact dI) only[bD,Val.pv_mk,hn,hs,ht,hl,push_cast,seval]
   ·have e:aD (.mk 9 n s t l fs)=false:=by simp[aD,hn,hs,ht]
    rw[e]
    simp(disch:=try exact dI) only[bD,Val.pv_mk,hn,hs,ht,push_cast,seval]
  ·have e:aD (.mk 9 n s t l fs)=false:=by simp[aD,hn,hs]
   rw[e]
   simp(disch:=try exact dI) only[bD,Val.pv_mk,hn,hs,push_cast,seval]
 ·have e:aD (.mk 9 n s t l fs)=false:=by simp[aD,hn]
  rw[e]
  simp(disch:=try exact dI) only[bD,Val.pv_mk,hn,push_cast,seval]
theorem uw (n s:Int)(t:List UInt8)(l:List Val)(fs:List Fld):ag Tryz.prog au 262 [(Val.mk 10 n s t l fs).pv] (.bool (aD (.mk 10 n s t l fs))):=by
 refine ag.intro bD.2 (by simp[bD]) ?_
 by_cases hn:n=0
 ·by_cases hs:s=0
  ·by_cases hf:fs.length=0
   ·have hfI:(fs.length:Int)=0:=by omega
    have e:aD (.mk 10 n s t l fs)=true:=by simp[aD,hn,hs,hf]
    rw[e]
    simp(disch:=try exact dI) only[bD,Val.pv_mk,hn,hs,hf,push_cast,seval]
   ·have hfI:¬ (fs.length:Int)=0:=by omega
    have e:aD (.mk 10 n s t l fs)=false:=by simp[aD,hn,hs,hf]
    rw[e]
    simp(disch:=try exact dI) only[bD,Val.pv_mk,hn,hs,hf,push_cast,seval]
  ·have e:aD (.mk 10 n s t l fs)=false:=by simp[aD,hn,hs]
   rw[e]
   simp(disch:=try exact dI) only[bD,Val.pv_mk,hn,hs,push_cast,seval]
 ·have e:aD (.mk 10 n s t l fs)=false:=by simp[aD,hn]
  rw[e]
  simp(disch:=try exact dI) only[bD,Val.pv_mk,hn,push_cast,seval]
theorem Iy (v:Val)(hk:1<=v.kind/\v.kind<=10):ag Tryz.prog au 262 [v.pv] (.bool (aD v)):=by
 obtain⟨k,n,s,t,l,fs⟩:=v
 simp only[Val.kind] at hk
 have hc:k=1\/k=2\/k=3\/k=4\/k=5\/k=6\/k=7\/k=8\/k=9\/k=10:=by omega
 rcases hc with rfl | rfl | rfl | rfl | rfl | rfl | rfl | rfl | rfl | rfl
 ·exact yu n s t l fs
 ·exact yr n s t l fs
 ·exact yq n s t l fs
 ·exact yp n s t l fs
 ·exact yo n s t l fs
 ·exact ym n s t l fs
 ·exact yj n s t l fs
 ·exact yh n s t l fs
 ·exact yg n s t l fs
 ·exact uw n s t l fs
theorem uo (e:List (Nat×AV))(σ:List (Nat×Blk))(new:Nat)(x:AX):lC e σ new (.ofStr x)=dO new (evE e x):=_root_.id rfl
theorem zJ (new:Nat){k:List UInt8}(h:k.length<=140737488355328):dO new (.pv (.str k))=some (.pv (.list (aC k)),[(new,.none)]):=by simp only[dO];rw[if_pos h]
def A9 (c:UInt8):Bool:=decide (97<=c.toNat)&&decide (c.toNat<=122)
def okC (c:UInt8):Bool:=A9 c||(decide (48<=c.toNat)&&decide (c.toNat<=57))||decide (c.toNat=95)
def cJ (s:List UInt8):Bool:=decide (0<s.length)&&(decide (s.length<=32)&&(A9 (s.headD 0)&&s.all okC))
theorem xq (s:List UInt8):(aC s).length=s.length:=by simp[aC]
theorem C6 {s:List UInt8}{i:Nat}{c:UInt8}(h:s[i]? = some c):(aC s)[i]? = some (.int .u8 (c.toNat:Int)):=by simp[aC,h]
theorem GX {s:List UInt8}{i:Nat}{c:UInt8}(h:s[i]? = some c):(s.take (i+1)).all okC=((s.take i).all okC&&okC c):=by rw[aM h];simp
theorem rS {s:List UInt8}{i:Nat}{c:UInt8}(h:s[i]? = some c)(hc:okC c=false):s.all okC=false:=by
 rw[Bool.eq_false_iff]
 intro ha
 have:=List.all_eq_true.1 ha c (List.mem_of_getElem? h)
 rw[hc] at this;cases this
theorem q8 (s:List UInt8):ag Tryz.prog au 258 [.str s] (.bool (cJ s)):=by
 cases s with
 | nil=>
   rw[show cJ []=false from rfl]
   refine ag.intro G8.2 (by simp[G8]) ?_
   simp(disch:=try exact dI) only[G8,push_cast,seval]
 | cons c r=>
   generalize hs:c::r=s
   have hne:¬ s=[]:=by rw[<- hs];simp
   have h0:s[0]? = some c:=by rw[<- hs];rfl
   have hh:s.headD 0=c:=by rw[<- hs];rfl
   have hlen:0<s.length:=by rw[<- hs];simp
   clear hs
   refine ag.intro G8.2 (by simp[G8]) ?_
   by_cases h32:s.length<=32
   ·by_cases ha:97<=c.toNat
    ·by_cases hz:c.toNat<=122
     ·have e:cJ s=s.all okC:=by simp only[cJ,hh,A9,decide_eq_true hlen,decide_eq_true h32,decide_eq_true ha,decide_eq_true hz,Bool.true_and]
      rw[e]
      simp(disch:=try exact dI) only[G8,hne,h0,aS,uo,zJ,xq,push_cast,seval]
      refine az ([]) (fun i:Nat=>[(25,.pv (.int .i64 (i:Int)))]) (fun _=>[]) (fun i=>i<=s.length/\(s.take i).all okC=true) (fun i=>s.length - i) (0) ?_;intro e0 σ0 n0 h0;simp(disch:=try exact dI) only[push_cast,seval] at h0;obtain⟨rfl,rfl,rfl⟩:=h0;refine⟨?_,?_,?_⟩
      ·exact qsZ
      ·exact⟨by omega,by simp⟩
      rintro i ⟨hi,hall⟩
      by_cases hlt:i<s.length
      ·have hltI:(i:Int)<(s.length:Int):=by omega
       obtain⟨b,hb⟩:∃ b,s[i]? = some b:=⟨_,List.getElem?_eq_getElem hlt⟩
       have hbp:=C6 hb
       have hbn:=b.toNat_lt
       have hsn:=GX hb
       rw[hall,Bool.true_and] at hsn
       have hc:b.toNat<48\/(48<=b.toNat/\b.toNat<=57)\/(57<b.toNat/\b.toNat<97/\b.toNat≠95)\/b.toNat=95\/(97<=b.toNat/\b.toNat<=122)\/122<b.toNat:=by omega
       rcases hc with hc | hc | hc | hc | hc | hc
       ·have hbad:s.all okC=false:=rS hb (by simp[okC,A9];omega)
        rw[hbad]
        simp(disch:=try exact dI) only[hbp,push_cast,seval]
       ·have hok:okC b=true:=by simp[okC,A9];omega
        simp(disch:=try exact dI) only[hbp,push_cast,seval]
        exact⟨i+1,aZ qsZ,⟨by omega,by rw[hsn,hok]⟩,by omega⟩
       ·have hbad:s.all okC=false:=rS hb (by simp[okC,A9];omega)
        rw[hbad]
        simp(disch:=try exact dI) only[hbp,push_cast,seval]
       ·have hok:okC b=true:=by simp[okC,A9];omega
        simp(disch:=try exact dI) only[hbp,push_cast,seval]
        exact⟨i+1,aZ qsZ,⟨by omega,by rw[hsn,hok]⟩,by omega⟩
       ·have hok:okC b=true:=by simp[okC,A9];omega
        simp(disch:=try exact dI) only[hbp,push_cast,seval]
        exact⟨i+1,aZ qsZ,⟨by omega,by rw[hsn,hok]⟩,by omega⟩
       ·have hbad:s.all okC=false:=rS hb (by simp[okC,A9];omega)
        rw[hbad]
        simp(disch:=try exact dI) only[hbp,push_cast,seval]
      ·have he:s.take i=s:=List.take_of_length_le (by omega)
       rw[he] at hall
       rw[hall]
       exact qsZ
     ·have e:cJ s=false:=by simp only[cJ,hh,A9,decide_eq_false hz,Bool.and_false,Bool.false_and]
      rw[e]
      simp(disch:=try exact dI) only[G8,hne,h0,aS,push_cast,seval]
    ·have e:cJ s=false:=by simp only[cJ,hh,A9,decide_eq_false ha,Bool.and_false,Bool.false_and]
     rw[e]
     simp(disch:=try exact dI) only[G8,hne,h0,aS,push_cast,seval]
   ·have e:cJ s=false:=by simp[cJ,h32]
    rw[e]
    simp(disch:=try exact dI) only[G8,hne,push_cast,seval]
end Go.Proofs.YtbojpfpliibfbaaGreatDoor
