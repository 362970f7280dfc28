/- A part of the proof. -/
import Derived.Test.YtbojpfpliibfbaaGreatDoorEnRR1
set_option maxHeartbeats 16000000
set_option maxRecDepth 100000
set_option linter.unusedVariables false
set_option linter.unusedSimpArgs false
namespace Go.Proofs.YtbojpfpliibfbaaGreatDoor
open Go Go.Ab
attribute [local irreducible] vc
theorem jX (v:Val):am Tryz.prog az 261 [v.pv] (.clo 295 [] [.eptr [v.pv] 0 0]):=by
 obtain⟨k,n,s,t,l,fs⟩:=v
 refine am.intro Pi.2 (by simp[Pi]) ?_
 simp(disch:=try exact dI) only[Pi,Val.pv_mk,push_cast,seval]
def xF:PV:=.agg [.nilf,.clo 282 [] [],.clo 284 [] [],.clo 285 [] [],.clo 287 [] [],.clo 289 [] [],.clo 290 [] [],.clo 291 [] [],.clo 292 [] [],.clo 293 [] [],.clo 294 [] []]
theorem yW (f:Nat)(a b:List PV):PV.one (.clo f a b)=true:=rfl
theorem rL:PV.one .nilf=true:=rfl
theorem CR:am Tryz.prog az 260 [] xF:=by
 refine am.intro Pj.2 (by simp[Pj]) ?_
 simp(disch:=try exact dI) only[Pj,xF,yW,rL,push_cast,seval]
theorem dq (n a b:Int):am Tryz.prog az 283 [.int .i64 n,.int .i64 a,.int .i64 b] (.int .i64 (if n<a\/b<n then 2 else 0)):=by
 refine am.intro M1.2 (by simp[M1]) ?_
 by_cases h1:n<a
 ·rw[if_pos (.inl h1)]
  simp(disch:=try exact dI) only[M1,push_cast,seval]
 ·by_cases h2:b<n
  ·rw[if_pos (.inr h2)]
   simp(disch:=try exact dI) only[M1,push_cast,seval]
  ·rw[if_neg (by omega)]
   simp(disch:=try exact dI) only[M1,push_cast,seval]
theorem jN (n m e:Int):am Tryz.prog az 288 [.int .i64 n,.int .i64 m,.int .i64 e] (.int .i64 (if m<n then e else 0)):=by
 refine am.intro Nt.2 (by simp[Nt]) ?_
 by_cases h1:m<n
 ·rw[if_pos h1]
  simp(disch:=try exact dI) only[Nt,push_cast,seval]
 ·rw[if_neg h1]
  simp(disch:=try exact dI) only[Nt,push_cast,seval]
def aU:Val->Bool
 | .mk k n s t l fs=>decide (k=0)&&(decide (n=0)&&(decide (s=0)&&(decide (t=[])&&(decide (l.length=0)&&decide (fs.length=0)))))
def aq:Val->Bool
 | .mk k n s t l fs=>(decide (k=1\/k=2\/k=6\/k=7\/k=3)||decide (n=0))&&((decide (k=3)||decide (s=0))&&((decide (k=4\/k=5\/k=10)||decide (t=[]))&&((decide (k=8\/k=10)||decide (l.length=0))&&(decide (k=9)||decide (fs.length=0)))))
theorem Iu (v:Val):am Tryz.prog az 110 [v.pv] (.bool (aU v)):=by
 obtain⟨k,n,s,t,l,fs⟩:=v
 refine am.intro FS.2 (by simp[FS]) ?_
 by_cases hk:k=0
 ·by_cases hn:n=0
  ·by_cases hs:s=0
   ·by_cases ht:t=[]
    ·by_cases hl:l.length=0
     ·have hlI:(l.length:Int)=0:=by omega
      by_cases hf:fs.length=0
      ·have hfI:(fs.length:Int)=0:=by omega
       have e:aU (.mk k n s t l fs)=true:=by simp[aU,hk,hn,hs,ht,hl,hf]
       rw[e]
       simp(disch:=try exact dI) only[FS,Val.pv_mk,hk,hn,hs,ht,hl,hf,push_cast,seval]
      ·have hfI:¬ (fs.length:Int)=0:=by omega
       have e:aU (.mk k n s t l fs)=false:=by simp[aU,hk,hn,hs,ht,hl,hf]
       rw[e]
       simp(disch:=try exact dI) only[FS,Val.pv_mk,hk,hn,hs,ht,hl,hf,push_cast,seval]
     ·have hlI:¬ (l.length:Int)=0:=by omega
      have e:aU (.mk k n s t l fs)=false:=by simp[aU,hk,hn,hs,ht,hl]
      rw[e]
      simp(disch:=try exact dI) only[FS,Val.pv_mk,hk,hn,hs,ht,hl,push_cast,seval]
    ·have e:aU (.mk k n s t l fs)=false:=by simp[aU,hk,hn,hs,ht]
     rw[e]
     simp(disch:=try exact dI) only[FS,Val.pv_mk,hk,hn,hs,ht,push_cast,seval]
   ·have e:aU (.mk k n s t l fs)=false:=by simp[aU,hk,hn,hs]
    rw[e]
    simp(disch:=try exact dI) only[FS,Val.pv_mk,hk,hn,hs,push_cast,seval]
  ·have e:aU (.mk k n s t l fs)=false:=by simp[aU,hk,hn]
   rw[e]
   simp(disch:=try exact dI) only[FS,Val.pv_mk,hk,hn,push_cast,seval]
 ·have e:aU (.mk k n s t l fs)=false:=by simp[aU,hk]
  rw[e]
  simp(disch:=try exact dI) only[FS,Val.pv_mk,hk,push_cast,seval]
theorem wW (n s:Int)(t:List UInt8)(l:List Val)(fs:List Fld):am Tryz.prog az 262 [(Val.mk 1 n s t l fs).pv] (.bool (aq (.mk 1 n s t l fs))):=by
 refine am.intro bS.2 (by simp[bS]) ?_
 by_cases hs:s=0
 ·by_cases ht:t=[]
  ·by_cases hl:l.length=0
   ·have hlI:(l.length:Int)=0:=by omega
    by_cases hf:fs.length=0
    ·have hfI:(fs.length:Int)=0:=by omega
     have e:aq (.mk 1 n s t l fs)=true:=by simp[aq,hs,ht,hl,hf]
     rw[e]
     simp(disch:=try exact dI) only[bS,Val.pv_mk,hs,ht,hl,hf,push_cast,seval]
    ·have hfI:¬ (fs.length:Int)=0:=by omega
     have e:aq (.mk 1 n s t l fs)=false:=by simp[aq,hs,ht,hl,hf]
     rw[e]
     simp(disch:=try exact dI) only[bS,Val.pv_mk,hs,ht,hl,hf,push_cast,seval]
   ·have hlI:¬ (l.length:Int)=0:=by omega
    have e:aq (.mk 1 n s t l fs)=false:=by simp[aq,hs,ht,hl]
    rw[e]
    simp(disch:=try exact dI) only[bS,Val.pv_mk,hs,ht,hl,push_cast,seval]
  ·have e:aq (.mk 1 n s t l fs)=false:=by simp[aq,hs,ht]
   rw[e]
   simp(disch:=try exact dI) only[bS,Val.pv_mk,hs,ht,push_cast,seval]
 ·have e:aq (.mk 1 n s t l fs)=false:=by simp[aq,hs]
  rw[e]
  simp(disch:=try exact dI) only[bS,Val.pv_mk,hs,push_cast,seval]
theorem wV (n s:Int)(t:List UInt8)(l:List Val)(fs:List Fld):am Tryz.prog az 262 [(Val.mk 2 n s t l fs).pv] (.bool (aq (.mk 2 n s t l fs))):=by
 refine am.intro bS.2 (by simp[bS]) ?_
 by_cases hs:s=0
 ·by_cases ht:t=[]
  ·by_cases hl:l.length=0
   ·have hlI:(l.length:Int)=0:=by omega
    by_cases hf:fs.length=0
    ·have hfI:(fs.length:Int)=0:=by omega
     have e:aq (.mk 2 n s t l fs)=true:=by simp[aq,hs,ht,hl,hf]
     rw[e]
     simp(disch:=try exact dI) only[bS,Val.pv_mk,hs,ht,hl,hf,push_cast,seval]
    ·have hfI:¬ (fs.length:Int)=0:=by omega
     have e:aq (.mk 2 n s t l fs)=false:=by simp[aq,hs,ht,hl,hf]
     rw[e]
     simp(disch:=try exact dI) only[bS,Val.pv_mk,hs,ht,hl,hf,push_cast,seval]
   ·have hlI:¬ (l.length:Int)=0:=by omega
    have e:aq (.mk 2 n s t l fs)=false:=by simp[aq,hs,ht,hl]
    rw[e]
    simp(disch:=try exact dI) only[bS,Val.pv_mk,hs,ht,hl,push_cast,seval]
  ·have e:aq (.mk 2 n s t l fs)=false:=by simp[aq,hs,ht]
   rw[e]
   simp(disch:=try exact dI) only[bS,Val.pv_mk,hs,ht,push_cast,seval]
 ·have e:aq (.mk 2 n s t l fs)=false:=by simp[aq,hs]
  rw[e]
  simp(disch:=try exact dI) only[bS,Val.pv_mk,hs,push_cast,seval]
theorem wU (n s:Int)(t:List UInt8)(l:List Val)(fs:List Fld):am Tryz.prog az 262 [(Val.mk 3 n s t l fs).pv] (.bool (aq (.mk 3 n s t l fs))):=by
 refine am.intro bS.2 (by simp[bS]) ?_
 by_cases ht:t=[]
 ·by_cases hl:l.length=0
  ·have hlI:(l.length:Int)=0:=by omega
   by_cases hf:fs.length=0
   ·have hfI:(fs.length:Int)=0:=by omega
    have e:aq (.mk 3 n s t l fs)=true:=by simp[aq,ht,hl,hf]
    rw[e]
    simp(disch:=try exact dI) only[bS,Val.pv_mk,ht,hl,hf,push_cast,seval]
   ·have hfI:¬ (fs.length:Int)=0:=by omega
    have e:aq (.mk 3 n s t l fs)=false:=by simp[aq,ht,hl,hf]
    rw[e]
    simp(disch:=try exact dI) only[bS,Val.pv_mk,ht,hl,hf,push_cast,seval]
  ·have hlI:¬ (l.length:Int)=0:=by omega
   have e:aq (.mk 3 n s t l fs)=false:=by simp[aq,ht,hl]
   rw[e]
   simp(disch:=try exact dI) only[bS,Val.pv_mk,ht,hl,push_cast,seval]
 ·have e:aq (.mk 3 n s t l fs)=false:=by simp[aq,ht]
  rw[e]
  simp(disch:=try exact dI) only[bS,Val.pv_mk,ht,push_cast,seval]
theorem wT (n s:Int)(t:List UInt8)(l:List Val)(fs:List Fld):am Tryz.prog az 262 [(Val.mk 4 n s t l fs).pv] (.bool (aq (.mk 4 n s t l fs))):=by
 refine am.intro bS.2 (by simp[bS]) ?_
 by_cases hn:n=0
 ·by_cases hs:s=0
  ·by_cases hl:l.length=0
   ·have hlI:(l.length:Int)=0:=by omega
    by_cases hf:fs.length=0
    ·have hfI:(fs.length:Int)=0:=by omega
     have e:aq (.mk 4 n s t l fs)=true:=by simp[aq,hn,hs,hl,hf]
     rw[e]
     simp(disch:=try exact dI) only[bS,Val.pv_mk,hn,hs,hl,hf,push_cast,seval]
    ·have hfI:¬ (fs.length:Int)=0:=by omega
     have e:aq (.mk 4 n s t l fs)=false:=by simp[aq,hn,hs,hl,hf]
     rw[e]
     simp(disch:=try exact dI) only[bS,Val.pv_mk,hn,hs,hl,hf,push_cast,seval]
   ·have hlI:¬ (l.length:Int)=0:=by omega
    have e:aq (.mk 4 n s t l fs)=false:=by simp[aq,hn,hs,hl]
    rw[e]
    simp(disch:=try exact dI) only[bS,Val.pv_mk,hn,hs,hl,push_cast,seval]
  ·have e:aq (.mk 4 n s t l fs)=false:=by simp[aq,hn,hs]
   rw[e]
   simp(disch:=try exact dI) only[bS,Val.pv_mk,hn,hs,push_cast,seval]
 ·have e:aq (.mk 4 n s t l fs)=false:=by simp[aq,hn]
  rw[e]
  simp(disch:=try exact dI) only[bS,Val.pv_mk,hn,push_cast,seval]
theorem wS (n s:Int)(t:List UInt8)(l:List Val)(fs:List Fld):am Tryz.prog az 262 [(Val.mk 5 n s t l fs).pv] (.bool (aq (.mk 5 n s t l fs))):=by
 refine am.intro bS.2 (by simp[bS]) ?_
 by_cases hn:n=0
 ·by_cases hs:s=0
  ·by_cases hl:l.length=0
   ·have hlI:(l.length:Int)=0:=by omega
    by_cases hf:fs.length=0
    ·have hfI:(fs.length:Int)=0:=by omega
     have e:aq (.mk 5 n s t l fs)=true:=by simp[aq,hn,hs,hl,hf]
     rw[e]
     simp(disch:=try exact dI) only[bS,Val.pv_mk,hn,hs,hl,hf,push_cast,seval]
    ·have hfI:¬ (fs.length:Int)=0:=by omega
     have e:aq (.mk 5 n s t l fs)=false:=by simp[aq,hn,hs,hl,hf]
     rw[e]
     simp(disch:=try exact dI) only[bS,Val.pv_mk,hn,hs,hl,hf,push_cast,seval]
   ·have hlI:¬ (l.length:Int)=0:=by omega
    have e:aq (.mk 5 n s t l fs)=false:=by simp[aq,hn,hs,hl]
    rw[e]
    simp(disch:=try exact dI) only[bS,Val.pv_mk,hn,hs,hl,push_cast,seval]
  ·have e:aq (.mk 5 n s t l fs)=false:=by simp[aq,hn,hs]
   rw[e]
   simp(disch:=try exact dI) only[bS,Val.pv_mk,hn,hs,push_cast,seval]
 ·have e:aq (.mk 5 n s t l fs)=false:=by simp[aq,hn]
  rw[e]
  simp(disch:=try exact dI) only[bS,Val.pv_mk,hn,push_cast,seval]
theorem wR (n s:Int)(t:List UInt8)(l:List Val)(fs:List Fld):am Tryz.prog az 262 [(Val.mk 6 n s t l fs).pv] (.bool (aq (.mk 6 n s t l fs))):=by
 refine am.intro bS.2 (by simp[bS]) ?_
 by_cases hs:s=0
 ·by_cases ht:t=[]
  ·by_cases hl:l.length=0
   ·have hlI:(l.length:Int)=0:=by omega
    by_cases hf:fs.length=0
    ·have hfI:(fs.length:Int)=0:=by omega
     have e:aq (.mk 6 n s t l fs)=true:=by simp[aq,hs,ht,hl,hf]
     rw[e]
     simp(disch:=try exact dI) only[bS,Val.pv_mk,hs,ht,hl,hf,push_cast,seval]
    ·have hfI:¬ (fs.length:Int)=0:=by omega
     have e:aq (.mk 6 n s t l fs)=false:=by simp[aq,hs,ht,hl,hf]
     rw[e]
     simp(disch:=try exact dI) only[bS,Val.pv_mk,hs,ht,hl,hf,push_cast,seval]
   ·have hlI:¬ (l.length:Int)=0:=by omega
    have e:aq (.mk 6 n s t l fs)=false:=by simp[aq,hs,ht,hl]
    rw[e]
    simp(disch:=try exact dI) only[bS,Val.pv_mk,hs,ht,hl,push_cast,seval]
  ·have e:aq (.mk 6 n s t l fs)=false:=by simp[aq,hs,ht]
   rw[e]
   simp(disch:=try exact dI) only[bS,Val.pv_mk,hs,ht,push_cast,seval]
 ·have e:aq (.mk 6 n s t l fs)=false:=by simp[aq,hs]
  rw[e]
  simp(disch:=try exact dI) only[bS,Val.pv_mk,hs,push_cast,seval]
theorem wQ (n s:Int)(t:List UInt8)(l:List Val)(fs:List Fld):am Tryz.prog az 262 [(Val.mk 7 n s t l fs).pv] (.bool (aq (.mk 7 n s t l fs))):=by
 refine am.intro bS.2 (by simp[bS]) ?_
 by_cases hs:s=0
 ·by_cases ht:t=[]
  ·by_cases hl:l.length=0
   ·have hlI:(l.length:Int)=0:=by omega
    by_cases hf:fs.length=0
    ·have hfI:(fs.length:Int)=0:=by omega
     have e:aq (.mk 7 n s t l fs)=true:=by simp[aq,hs,ht,hl,hf]
     rw[e]
     simp(disch:=try exact dI) only[bS,Val.pv_mk,hs,ht,hl,hf,push_cast,seval]
    ·have hfI:¬ (fs.length:Int)=0:=by omega
     have e:aq (.mk 7 n s t l fs)=false:=by simp[aq,hs,ht,hl,hf]
     rw[e]
     simp(disch:=try exact dI) only[bS,Val.pv_mk,hs,ht,hl,hf,push_cast,seval]
   ·have hlI:¬ (l.length:Int)=0:=by omega
    have e:aq (.mk 7 n s t l fs)=false:=by simp[aq,hs,ht,hl]
    rw[e]
    simp(disch:=try exact dI) only[bS,Val.pv_mk,hs,ht,hl,push_cast,seval]
  ·have e:aq (.mk 7 n s t l fs)=false:=by simp[aq,hs,ht]
   rw[e]
   simp(disch:=try exact dI) only[bS,Val.pv_mk,hs,ht,push_cast,seval]
 ·have e:aq (.mk 7 n s t l fs)=false:=by simp[aq,hs]
  rw[e]
  simp(disch:=try exact dI) only[bS,Val.pv_mk,hs,push_cast,seval]
theorem wP (n s:Int)(t:List UInt8)(l:List Val)(fs:List Fld):am Tryz.prog az 262 [(Val.mk 8 n s t l fs).pv] (.bool (aq (.mk 8 n s t l fs))):=by
 refine am.intro bS.2 (by simp[bS]) ?_
 by_cases hn:n=0
 ·by_cases hs:s=0
  ·by_cases ht:t=[]
   ·by_cases hf:fs.length=0
    ·have hfI:(fs.length:Int)=0:=by omega
     have e:aq (.mk 8 n s t l fs)=true:=by simp[aq,hn,hs,ht,hf]
     rw[e]
     simp(disch:=try exact dI) only[bS,Val.pv_mk,hn,hs,ht,hf,push_cast,seval]
    ·have hfI:¬ (fs.length:Int)=0:=by omega
     have e:aq (.mk 8 n s t l fs)=false:=by simp[aq,hn,hs,ht,hf]
     rw[e]
     simp(disch:=try exact dI) only[bS,Val.pv_mk,hn,hs,ht,hf,push_cast,seval]
   ·have e:aq (.mk 8 n s t l fs)=false:=by simp[aq,hn,hs,ht]
    rw[e]
    simp(disch:=try exact dI) only[bS,Val.pv_mk,hn,hs,ht,push_cast,seval]
  ·have e:aq (.mk 8 n s t l fs)=false:=by simp[aq,hn,hs]
   rw[e]
   simp(disch:=try exact dI) only[bS,Val.pv_mk,hn,hs,push_cast,seval]
 ·have e:aq (.mk 8 n s t l fs)=false:=by simp[aq,hn]
  rw[e]
  simp(disch:=try exact dI) only[bS,Val.pv_mk,hn,push_cast,seval]
theorem wO (n s:Int)(t:List UInt8)(l:List Val)(fs:List Fld):am Tryz.prog az 262 [(Val.mk 9 n s t l fs).pv] (.bool (aq (.mk 9 n s t l fs))):=by
 refine am.intro bS.2 (by simp[bS]) ?_
 by_cases hn:n=0
 ·by_cases hs:s=0
  ·by_cases ht:t=[]
   ·by_cases hl:l.length=0
    ·have hlI:(l.length:Int)=0:=by omega
     have e:aq (.mk 9 n s t l fs)=true:=by simp[aq,hn,hs,ht,hl]
     rw[e]
     simp(disch:=try exact dI) only[bS,Val.pv_mk,hn,hs,ht,hl,push_cast,seval]
    ·have hlI:¬ (l.length:Int)=0:=by omega
     have e:aq (.mk 9 n s t l fs)=false:=by simp[aq,hn,hs,ht,hl]
     rw[e]
     simp(disch:=try exact dI) only[bS,Val.pv_mk,hn,hs,ht,hl,push_cast,seval]
   ·have e:aq (.mk 9 n s t l fs)=false:=by simp[aq,hn,hs,ht]
    rw[e]
    simp(disch:=try exact dI) only[bS,Val.pv_mk,hn,hs,ht,push_cast,seval]
  ·have e:aq (.mk 9 n s t l fs)=false:=by simp[aq,hn,hs]
   rw[e]
   simp(disch:=try exact dI) only[bS,Val.pv_mk,hn,hs,push_cast,seval]
 ·have e:aq (.mk 9 n s t l fs)=false:=by simp[aq,hn]
  rw[e]
  simp(disch:=try exact dI) only[bS,Val.pv_mk,hn,push_cast,seval]
theorem tl (n s:Int)(t:List UInt8)(l:List Val)(fs:List Fld):am Tryz.prog az 262 [(Val.mk 10 n s t l fs).pv] (.bool (aq (.mk 10 n s t l fs))):=by
 refine am.intro bS.2 (by simp[bS]) ?_
 by_cases hn:n=0
 ·by_cases hs:s=0
  ·by_cases hf:fs.length=0
   ·have hfI:(fs.length:Int)=0:=by omega
    have e:aq (.mk 10 n s t l fs)=true:=by simp[aq,hn,hs,hf]
    rw[e]
    simp(disch:=try exact dI) only[bS,Val.pv_mk,hn,hs,hf,push_cast,seval]
   ·have hfI:¬ (fs.length:Int)=0:=by omega
    have e:aq (.mk 10 n s t l fs)=false:=by simp[aq,hn,hs,hf]
    rw[e]
    simp(disch:=try exact dI) only[bS,Val.pv_mk,hn,hs,hf,push_cast,seval]
  ·have e:aq (.mk 10 n s t l fs)=false:=by simp[aq,hn,hs]
   rw[e]
   simp(disch:=try exact dI) only[bS,Val.pv_mk,hn,hs,push_cast,seval]
 ·have e:aq (.mk 10 n s t l fs)=false:=by simp[aq,hn]
  rw[e]
  simp(disch:=try exact dI) only[bS,Val.pv_mk,hn,push_cast,seval]
theorem Ha (v:Val)(hk:1<=v.kind/\v.kind<=10):am Tryz.prog az 262 [v.pv] (.bool (aq v)):=by
 obtain⟨k,n,s,t,l,fs⟩:=v
 simp only[Val.kind] at hk
 have hc:k=1\/k=2\/k=3\/k=4\/k=5\/k=6\/k=7\/k=8\/k=9\/k=10:=by omega
 rcases hc with rfl | rfl | rfl | rfl | rfl | rfl | rfl | rfl | rfl | rfl
 ·exact wW n s t l fs
 ·exact wV n s t l fs
 ·exact wU n s t l fs
 ·exact wT n s t l fs
 ·exact wS n s t l fs
 ·exact wR n s t l fs
 ·exact wQ n s t l fs
 ·exact wP n s t l fs
 ·exact wO n s t l fs
 ·exact tl n s t l fs
end Go.Proofs.YtbojpfpliibfbaaGreatDoor
-- many steps
namespace Go.Proofs.YtbojpfpliibfbaaGreatDoor
open Go Go.Ab
attribute [local irreducible] vc
theorem tc (e:List (Nat×AV))(σ:List (Nat×Blk))(new:Nat)(x:AX):oW e σ new (.ofStr x)=ec new (evE e x):=_root_.id rfl
theorem x7 (new:Nat){k:List UInt8}(h:k.length<=140737488355328):ec new (.pv (.str k))=some (.pv (.list (aI k)),[(new,.none)]):=by simp only[ec];rw[if_pos h]
def iP (c:UInt8):Bool:=decide (97<=c.toNat)&&decide (c.toNat<=122)
def okC (c:UInt8):Bool:=iP c||(decide (48<=c.toNat)&&decide (c.toNat<=57))||decide (c.toNat=95)
def bO (s:List UInt8):Bool:=decide (0<s.length)&&(decide (s.length<=32)&&(iP (s.headD 0)&&s.all okC))
theorem vR (s:List UInt8):(aI s).length=s.length:=by simp[aI]
theorem BF {s:List UInt8}{i:Nat}{c:UInt8}(h:s[i]? = some c):(aI s)[i]? = some (.int .u8 (c.toNat:Int)):=by simp[aI,h]
theorem sY {s:List UInt8}{i:Nat}{c:UInt8}(h:s[i]? = some c):(s.take (i+1)).all okC=((s.take i).all okC&&okC c):=by rw[aK h];simp
theorem iK {s:List UInt8}{i:Nat}{c:UInt8}(h:s[i]? = some c)(hc:okC c=false):s.all okC=false:=by
 rw[Bool.eq_false_iff]
 intro ha
 have:=List.all_eq_true.1 ha c (List.mem_of_getElem? h)
 rw[hc] at this;cases this
theorem pY (s:List UInt8):am Tryz.prog az 258 [.str s] (.bool (bO s)):=by
 cases s with
 | nil=>
   rw[show bO []=false from rfl]
   refine am.intro FO.2 (by simp[FO]) ?_
   simp(disch:=try exact dI) only[FO,push_cast,seval]
 | cons c r=>
   generalize hs:c::r=s
   have hne:¬ s=[]:=by rw[<- hs];simp
   have h0:s[0]? = some c:=by rw[<- hs];rfl
   have hh:s.headD 0=c:=by rw[<- hs];rfl
   have hlen:0<s.length:=by rw[<- hs];simp
   clear hs
   refine am.intro FO.2 (by simp[FO]) ?_
   by_cases h32:s.length<=32
   ·by_cases ha:97<=c.toNat
    ·by_cases hz:c.toNat<=122
     ·have e:bO s=s.all okC:=by simp only[bO,hh,iP,decide_eq_true hlen,decide_eq_true h32,decide_eq_true ha,decide_eq_true hz,Bool.true_and]
      rw[e]
      simp(disch:=try exact dI) only[FO,hne,h0,bh,tc,x7,vR,push_cast,seval]
      refine au ([]) (fun i:Nat=>[(25,.pv (.int .i64 (i:Int)))]) (fun _=>[]) (fun i=>i<=s.length/\(s.take i).all okC=true) (fun i=>s.length - i) (0) ?_;intro e0 σ0 n0 h0;simp(disch:=try exact dI) only[push_cast,seval] at h0;obtain⟨rfl,rfl,rfl⟩:=h0;refine⟨?_,?_,?_⟩
      ·exact qsZ
      ·exact⟨by omega,by simp⟩
      rintro i ⟨hi,hall⟩
      by_cases hlt:i<s.length
      ·have hltI:(i:Int)<(s.length:Int):=by omega
       obtain⟨b,hb⟩:∃ b,s[i]? = some b:=⟨_,List.getElem?_eq_getElem hlt⟩
       have hbp:=BF hb
       have hbn:=b.toNat_lt
       have hsn:=sY hb
       rw[hall,Bool.true_and] at hsn
       have hc:b.toNat<48\/(48<=b.toNat/\b.toNat<=57)\/(57<b.toNat/\b.toNat<97/\b.toNat≠95)\/b.toNat=95\/(97<=b.toNat/\b.toNat<=122)\/122<b.toNat:=by omega
       rcases hc with hc | hc | hc | hc | hc | hc
       ·have hbad:s.all okC=false:=iK hb (by simp[okC,iP];omega)
        rw[hbad]
        simp(disch:=try exact dI) only[hbp,push_cast,seval]
       ·have hok:okC b=true:=by simp[okC,iP];omega
        simp(disch:=try exact dI) only[hbp,push_cast,seval]
        exact⟨i+1,aM qsZ,⟨by omega,by rw[hsn,hok]⟩,by omega⟩
       ·have hbad:s.all okC=false:=iK hb (by simp[okC,iP];omega)
        rw[hbad]
        simp(disch:=try exact dI) only[hbp,push_cast,seval]
       ·have hok:okC b=true:=by simp[okC,iP];omega
        simp(disch:=try exact dI) only[hbp,push_cast,seval]
        exact⟨i+1,aM qsZ,⟨by omega,by rw[hsn,hok]⟩,by omega⟩
       ·have hok:okC b=true:=by simp[okC,iP];omega
        simp(disch:=try exact dI) only[hbp,push_cast,seval]
        exact⟨i+1,aM qsZ,⟨by omega,by rw[hsn,hok]⟩,by omega⟩
       ·have hbad:s.all okC=false:=iK hb (by simp[okC,iP];omega)
        rw[hbad]
        simp(disch:=try exact dI) only[hbp,push_cast,seval]
      ·have he:s.take i=s:=List.take_of_length_le (by omega)
       rw[he] at hall
       rw[hall]
       exact qsZ
     ·have e:bO s=false:=by simp only[bO,hh,iP,decide_eq_false hz,Bool.and_false,Bool.false_and]
      rw[e]
      simp(disch:=try exact dI) only[FO,hne,h0,bh,push_cast,seval]
    ·have e:bO s=false:=by simp only[bO,hh,iP,decide_eq_false ha,Bool.and_false,Bool.false_and]
     rw[e]
     simp(disch:=try exact dI) only[FO,hne,h0,bh,push_cast,seval]
   ·have e:bO s=false:=by simp[bO,h32]
    rw[e]
    simp(disch:=try exact dI) only[FO,hne,push_cast,seval]
end Go.Proofs.YtbojpfpliibfbaaGreatDoor
