/- A part of the proof for FixedwidthRepresentableCardSaid. -/
import Derived.Test.YtbojpfpliibfbaaGreatDoorReRR4
set_option maxRecDepth 100000
set_option linter.unusedVariables false
set_option linter.unusedSimpArgs false
-- many steps
namespace Go.Proofs.YtbojpfpliibfbaaGreatDoor
open Go Go.Ab
attribute [local irreducible] vc
theorem cE (v:Val):ag Tryz.prog aD 67 [v.pv] (.bool (aL v)):=by
 obtain⟨k,n,s,t,l,fs⟩:=v
 refine ag.intro Km (by simp[F67]) ?_
 by_cases hk:k=0
 ·by_cases hn:n=0
  ·by_cases hs:s=0
   ·by_cases ht:t=[]
    ·by_cases hl:l.length=0
     ·have hlI:(l.length:Int)=0:=by omega
      by_cases hf:fs.length=0
      ·have hfI:(fs.length:Int)=0:=by omega
       have e:aL (.mk k n s t l fs)=true:=by simp[aL,hk,hn,hs,ht,hl,hf]
       rw[e]
       simp(maxSteps:=9^7) (disch:=try exact dI) only[F67,Val.pv_mk,hk,hn,hs,ht,hl,hf,push_cast,seval]
      ·have hfI:¬ (fs.length:Int)=0:=by omega
       have e:aL (.mk k n s t l fs)=false:=by simp[aL,hk,hn,hs,ht,hl,hf]
       rw[e]
       simp(maxSteps:=9^7) (disch:=try exact dI) only[F67,Val.pv_mk,hk,hn,hs,ht,hl,hf,push_cast,seval]
     ·have hlI:¬ (l.length:Int)=0:=by omega
      have e:aL (.mk k n s t l fs)=false:=by simp[aL,hk,hn,hs,ht,hl]
      rw[e]
      simp(maxSteps:=9^7) (disch:=try exact dI) only[F67,Val.pv_mk,hk,hn,hs,ht,hl,push_cast,seval]
    ·have e:aL (.mk k n s t l fs)=false:=by simp[aL,hk,hn,hs,ht]
     rw[e]
     simp(maxSteps:=9^7) (disch:=try exact dI) only[F67,Val.pv_mk,hk,hn,hs,ht,push_cast,seval]
   ·have e:aL (.mk k n s t l fs)=false:=by simp[aL,hk,hn,hs]
    rw[e]
    simp(maxSteps:=9^7) (disch:=try exact dI) only[F67,Val.pv_mk,hk,hn,hs,push_cast,seval]
  ·have e:aL (.mk k n s t l fs)=false:=by simp[aL,hk,hn]
   rw[e]
   simp(maxSteps:=9^7) (disch:=try exact dI) only[F67,Val.pv_mk,hk,hn,push_cast,seval]
 ·have e:aL (.mk k n s t l fs)=false:=by simp[aL,hk]
  rw[e]
  simp(maxSteps:=9^7) (disch:=try exact dI) only[F67,Val.pv_mk,hk,push_cast,seval]
theorem mW (n s:Int)(t:List UInt8)(l:List Val)(fs:List Fld):ag Tryz.prog aD 267 [(Val.mk 1 n s t l fs).pv] (.bool (!am (.mk 1 n s t l fs))):=by
 refine ag.intro dt (by simp[bW]) ?_
 by_cases hs:s=0
 ·by_cases ht:t=[]
  ·by_cases hl:l.length=0
   ·have hlI:(l.length:Int)=0:=by omega
    by_cases hf:fs.length=0
    ·have hfI:(fs.length:Int)=0:=by omega
     have e:am (.mk 1 n s t l fs)=true:=by simp[am,hs,ht,hl,hf]
     rw[e]
     simp(maxSteps:=9^7) (disch:=try exact dI) only[bW,Bool.not_true,Bool.not_false,Val.pv_mk,hs,ht,hl,hf,push_cast,seval]
    ·have hfI:¬ (fs.length:Int)=0:=by omega
     have e:am (.mk 1 n s t l fs)=false:=by simp[am,hs,ht,hl,hf]
     rw[e]
     simp(maxSteps:=9^7) (disch:=try exact dI) only[bW,Bool.not_true,Bool.not_false,Val.pv_mk,hs,ht,hl,hf,push_cast,seval]
   ·have hlI:¬ (l.length:Int)=0:=by omega
    have e:am (.mk 1 n s t l fs)=false:=by simp[am,hs,ht,hl]
    rw[e]
    simp(maxSteps:=9^7) (disch:=try exact dI) only[bW,Bool.not_true,Bool.not_false,Val.pv_mk,hs,ht,hl,push_cast,seval]
  ·have e:am (.mk 1 n s t l fs)=false:=by simp[am,hs,ht]
   rw[e]
   simp(maxSteps:=9^7) (disch:=try exact dI) only[bW,Bool.not_true,Bool.not_false,Val.pv_mk,hs,ht,push_cast,seval]
 ·have e:am (.mk 1 n s t l fs)=false:=by simp[am,hs]
  rw[e]
  simp(maxSteps:=9^7) (disch:=try exact dI) only[bW,Bool.not_true,Bool.not_false,Val.pv_mk,hs,push_cast,seval]
theorem mV (n s:Int)(t:List UInt8)(l:List Val)(fs:List Fld):ag Tryz.prog aD 267 [(Val.mk 2 n s t l fs).pv] (.bool (!am (.mk 2 n s t l fs))):=by
 refine ag.intro dt (by simp[bW]) ?_
 by_cases hs:s=0
 ·by_cases ht:t=[]
  ·by_cases hl:l.length=0
   ·have hlI:(l.length:Int)=0:=by omega
    by_cases hf:fs.length=0
    ·have hfI:(fs.length:Int)=0:=by omega
     have e:am (.mk 2 n s t l fs)=true:=by simp[am,hs,ht,hl,hf]
     rw[e]
     simp(maxSteps:=9^7) (disch:=try exact dI) only[bW,Bool.not_true,Bool.not_false,Val.pv_mk,hs,ht,hl,hf,push_cast,seval]
    ·have hfI:¬ (fs.length:Int)=0:=by omega
     have e:am (.mk 2 n s t l fs)=false:=by simp[am,hs,ht,hl,hf]
     rw[e]
     simp(maxSteps:=9^7) (disch:=try exact dI) only[bW,Bool.not_true,Bool.not_false,Val.pv_mk,hs,ht,hl,hf,push_cast,seval]
   ·have hlI:¬ (l.length:Int)=0:=by omega
    have e:am (.mk 2 n s t l fs)=false:=by simp[am,hs,ht,hl]
    rw[e]
    simp(maxSteps:=9^7) (disch:=try exact dI) only[bW,Bool.not_true,Bool.not_false,Val.pv_mk,hs,ht,hl,push_cast,seval]
  ·have e:am (.mk 2 n s t l fs)=false:=by simp[am,hs,ht]
   rw[e]
   simp(maxSteps:=9^7) (disch:=try exact dI) only[bW,Bool.not_true,Bool.not_false,Val.pv_mk,hs,ht,push_cast,seval]
 ·have e:am (.mk 2 n s t l fs)=false:=by simp[am,hs]
  rw[e]
  simp(maxSteps:=9^7) (disch:=try exact dI) only[bW,Bool.not_true,Bool.not_false,Val.pv_mk,hs,push_cast,seval]
theorem mU (n s:Int)(t:List UInt8)(l:List Val)(fs:List Fld):ag Tryz.prog aD 267 [(Val.mk 3 n s t l fs).pv] (.bool (!am (.mk 3 n s t l fs))):=by
 refine ag.intro dt (by simp[bW]) ?_
 by_cases ht:t=[]
 ·by_cases hl:l.length=0
  ·have hlI:(l.length:Int)=0:=by omega
   by_cases hf:fs.length=0
   ·have hfI:(fs.length:Int)=0:=by omega
    have e:am (.mk 3 n s t l fs)=true:=by simp[am,ht,hl,hf]
    rw[e]
    simp(maxSteps:=9^7) (disch:=try exact dI) only[bW,Bool.not_true,Bool.not_false,Val.pv_mk,ht,hl,hf,push_cast,seval]
   ·have hfI:¬ (fs.length:Int)=0:=by omega
    have e:am (.mk 3 n s t l fs)=false:=by simp[am,ht,hl,hf]
    rw[e]
    simp(maxSteps:=9^7) (disch:=try exact dI) only[bW,Bool.not_true,Bool.not_false,Val.pv_mk,ht,hl,hf,push_cast,seval]
  ·have hlI:¬ (l.length:Int)=0:=by omega
   have e:am (.mk 3 n s t l fs)=false:=by simp[am,ht,hl]
   rw[e]
   simp(maxSteps:=9^7) (disch:=try exact dI) only[bW,Bool.not_true,Bool.not_false,Val.pv_mk,ht,hl,push_cast,seval]
 ·have e:am (.mk 3 n s t l fs)=false:=by simp[am,ht]
  rw[e]
  simp(maxSteps:=9^7) (disch:=try exact dI) only[bW,Bool.not_true,Bool.not_false,Val.pv_mk,ht,push_cast,seval]
theorem mT (n s:Int)(t:List UInt8)(l:List Val)(fs:List Fld):ag Tryz.prog aD 267 [(Val.mk 4 n s t l fs).pv] (.bool (!am (.mk 4 n s t l fs))):=by
 refine ag.intro dt (by simp[bW]) ?_
 by_cases hn:n=0
 ·by_cases hs:s=0
  ·by_cases hl:l.length=0
   ·have hlI:(l.length:Int)=0:=by omega
    by_cases hf:fs.length=0
    ·have hfI:(fs.length:Int)=0:=by omega
     have e:am (.mk 4 n s t l fs)=true:=by simp[am,hn,hs,hl,hf]
     rw[e]
     simp(maxSteps:=9^7) (disch:=try exact dI) only[bW,Bool.not_true,Bool.not_false,Val.pv_mk,hn,hs,hl,hf,push_cast,seval]
    ·have hfI:¬ (fs.length:Int)=0:=by omega
     have e:am (.mk 4 n s t l fs)=false:=by simp[am,hn,hs,hl,hf]
     rw[e]
     simp(maxSteps:=9^7) (disch:=try exact dI) only[bW,Bool.not_true,Bool.not_false,Val.pv_mk,hn,hs,hl,hf,push_cast,seval]
   ·have hlI:¬ (l.length:Int)=0:=by omega
    have e:am (.mk 4 n s t l fs)=false:=by simp[am,hn,hs,hl]
    rw[e]
    simp(maxSteps:=9^7) (disch:=try exact dI) only[bW,Bool.not_true,Bool.not_false,Val.pv_mk,hn,hs,hl,push_cast,seval]
  ·have e:am (.mk 4 n s t l fs)=false:=by simp[am,hn,hs]
   rw[e]
   simp(maxSteps:=9^7) (disch:=try exact dI) only[bW,Bool.not_true,Bool.not_false,Val.pv_mk,hn,hs,push_cast,seval]
 ·have e:am (.mk 4 n s t l fs)=false:=by simp[am,hn]
  rw[e]
  simp(maxSteps:=9^7) (disch:=try exact dI) only[bW,Bool.not_true,Bool.not_false,Val.pv_mk,hn,push_cast,seval]
theorem mS (n s:Int)(t:List UInt8)(l:List Val)(fs:List Fld):ag Tryz.prog aD 267 [(Val.mk 5 n s t l fs).pv] (.bool (!am (.mk 5 n s t l fs))):=by
 refine ag.intro dt (by simp[bW]) ?_
 by_cases hn:n=0
 ·by_cases hs:s=0
  ·by_cases hl:l.length=0
   ·have hlI:(l.length:Int)=0:=by omega
    by_cases hf:fs.length=0
    ·have hfI:(fs.length:Int)=0:=by omega
     have e:am (.mk 5 n s t l fs)=true:=by simp[am,hn,hs,hl,hf]
     rw[e]
     simp(maxSteps:=9^7) (disch:=try exact dI) only[bW,Bool.not_true,Bool.not_false,Val.pv_mk,hn,hs,hl,hf,push_cast,seval]
    ·have hfI:¬ (fs.length:Int)=0:=by omega
     have e:am (.mk 5 n s t l fs)=false:=by simp[am,hn,hs,hl,hf]
     rw[e]
     simp(maxSteps:=9^7) (disch:=try exact dI) only[bW,Bool.not_true,Bool.not_false,Val.pv_mk,hn,hs,hl,hf,push_cast,seval]
   ·have hlI:¬ (l.length:Int)=0:=by omega
    have e:am (.mk 5 n s t l fs)=false:=by simp[am,hn,hs,hl]
    rw[e]
    simp(maxSteps:=9^7) (disch:=try exact dI) only[bW,Bool.not_true,Bool.not_false,Val.pv_mk,hn,hs,hl,push_cast,seval]
  ·have e:am (.mk 5 n s t l fs)=false:=by simp[am,hn,hs]
   rw[e]
   simp(maxSteps:=9^7) (disch:=try exact dI) only[bW,Bool.not_true,Bool.not_false,Val.pv_mk,hn,hs,push_cast,seval]
 ·have e:am (.mk 5 n s t l fs)=false:=by simp[am,hn]
  rw[e]
  simp(maxSteps:=9^7) (disch:=try exact dI) only[bW,Bool.not_true,Bool.not_false,Val.pv_mk,hn,push_cast,seval]
theorem mR (n s:Int)(t:List UInt8)(l:List Val)(fs:List Fld):ag Tryz.prog aD 267 [(Val.mk 6 n s t l fs).pv] (.bool (!am (.mk 6 n s t l fs))):=by
 refine ag.intro dt (by simp[bW]) ?_
 by_cases hs:s=0
 ·by_cases ht:t=[]
  ·by_cases hl:l.length=0
   ·have hlI:(l.length:Int)=0:=by omega
    by_cases hf:fs.length=0
    ·have hfI:(fs.length:Int)=0:=by omega
     have e:am (.mk 6 n s t l fs)=true:=by simp[am,hs,ht,hl,hf]
     rw[e]
     simp(maxSteps:=9^7) (disch:=try exact dI) only[bW,Bool.not_true,Bool.not_false,Val.pv_mk,hs,ht,hl,hf,push_cast,seval]
    ·have hfI:¬ (fs.length:Int)=0:=by omega
     have e:am (.mk 6 n s t l fs)=false:=by simp[am,hs,ht,hl,hf]
     rw[e]
     simp(maxSteps:=9^7) (disch:=try exact dI) only[bW,Bool.not_true,Bool.not_false,Val.pv_mk,hs,ht,hl,hf,push_cast,seval]
   ·have hlI:¬ (l.length:Int)=0:=by omega
    have e:am (.mk 6 n s t l fs)=false:=by simp[am,hs,ht,hl]
    rw[e]
    simp(maxSteps:=9^7) (disch:=try exact dI) only[bW,Bool.not_true,Bool.not_false,Val.pv_mk,hs,ht,hl,push_cast,seval]
  ·have e:am (.mk 6 n s t l fs)=false:=by simp[am,hs,ht]
   rw[e]
   simp(maxSteps:=9^7) (disch:=try exact dI) only[bW,Bool.not_true,Bool.not_false,Val.pv_mk,hs,ht,push_cast,seval]
 ·have e:am (.mk 6 n s t l fs)=false:=by simp[am,hs]
  rw[e]
  simp(maxSteps:=9^7) (disch:=try exact dI) only[bW,Bool.not_true,Bool.not_false,Val.pv_mk,hs,push_cast,seval]
theorem mQ (n s:Int)(t:List UInt8)(l:List Val)(fs:List Fld):ag Tryz.prog aD 267 [(Val.mk 7 n s t l fs).pv] (.bool (!am (.mk 7 n s t l fs))):=by
 refine ag.intro dt (by simp[bW]) ?_
 by_cases hs:s=0
 ·by_cases ht:t=[]
  ·by_cases hl:l.length=0
   ·have hlI:(l.length:Int)=0:=by omega
    by_cases hf:fs.length=0
    ·have hfI:(fs.length:Int)=0:=by omega
     have e:am (.mk 7 n s t l fs)=true:=by simp[am,hs,ht,hl,hf]
     rw[e]
     simp(maxSteps:=9^7) (disch:=try exact dI) only[bW,Bool.not_true,Bool.not_false,Val.pv_mk,hs,ht,hl,hf,push_cast,seval]
    ·have hfI:¬ (fs.length:Int)=0:=by omega
     have e:am (.mk 7 n s t l fs)=false:=by simp[am,hs,ht,hl,hf]
     rw[e]
     simp(maxSteps:=9^7) (disch:=try exact dI) only[bW,Bool.not_true,Bool.not_false,Val.pv_mk,hs,ht,hl,hf,push_cast,seval]
   ·have hlI:¬ (l.length:Int)=0:=by omega
    have e:am (.mk 7 n s t l fs)=false:=by simp[am,hs,ht,hl]
    rw[e]
    simp(maxSteps:=9^7) (disch:=try exact dI) only[bW,Bool.not_true,Bool.not_false,Val.pv_mk,hs,ht,hl,push_cast,seval]
  ·have e:am (.mk 7 n s t l fs)=false:=by simp[am,hs,ht]
   rw[e]
   simp(maxSteps:=9^7) (disch:=try exact dI) only[bW,Bool.not_true,Bool.not_false,Val.pv_mk,hs,ht,push_cast,seval]
 ·have e:am (.mk 7 n s t l fs)=false:=by simp[am,hs]
  rw[e]
  simp(maxSteps:=9^7) (disch:=try exact dI) only[bW,Bool.not_true,Bool.not_false,Val.pv_mk,hs,push_cast,seval]
theorem mP (n s:Int)(t:List UInt8)(l:List Val)(fs:List Fld):ag Tryz.prog aD 267 [(Val.mk 8 n s t l fs).pv] (.bool (!am (.mk 8 n s t l fs))):=by
 refine ag.intro dt (by simp[bW]) ?_
 by_cases hn:n=0
 ·by_cases hs:s=0
  ·by_cases ht:t=[]
   ·by_cases hf:fs.length=0
    ·have hfI:(fs.length:Int)=0:=by omega
     have e:am (.mk 8 n s t l fs)=true:=by simp[am,hn,hs,ht,hf]
     rw[e]
     simp(maxSteps:=9^7) (disch:=try exact dI) only[bW,Bool.not_true,Bool.not_false,Val.pv_mk,hn,hs,ht,hf,push_cast,seval]
    ·have hfI:¬ (fs.length:Int)=0:=by omega
     have e:am (.mk 8 n s t l fs)=false:=by simp[am,hn,hs,ht,hf]
     rw[e]
     simp(maxSteps:=9^7) (disch:=try exact dI) only[bW,Bool.not_true,Bool.not_false,Val.pv_mk,hn,hs,ht,hf,push_cast,seval]
   ·have e:am (.mk 8 n s t l fs)=false:=by simp[am,hn,hs,ht]
    rw[e]
    simp(maxSteps:=9^7) (disch:=try exact dI) only[bW,Bool.not_true,Bool.not_false,Val.pv_mk,hn,hs,ht,push_cast,seval]
  ·have e:am (.mk 8 n s t l fs)=false:=by simp[am,hn,hs]
   rw[e]
   simp(maxSteps:=9^7) (disch:=try exact dI) only[bW,Bool.not_true,Bool.not_false,Val.pv_mk,hn,hs,push_cast,seval]
 ·have e:am (.mk 8 n s t l fs)=false:=by simp[am,hn]
  rw[e]
  simp(maxSteps:=9^7) (disch:=try exact dI) only[bW,Bool.not_true,Bool.not_false,Val.pv_mk,hn,push_cast,seval]
theorem mO (n s:Int)(t:List UInt8)(l:List Val)(fs:List Fld):ag Tryz.prog aD 267 [(Val.mk 9 n s t l fs).pv] (.bool (!am (.mk 9 n s t l fs))):=by
 refine ag.intro dt (by simp[bW]) ?_
 by_cases hn:n=0
 ·by_cases hs:s=0
  ·by_cases ht:t=[]
   ·by_cases hl:l.length=0
    ·have hlI:(l.length:Int)=0:=by omega
     have e:am (.mk 9 n s t l fs)=true:=by simp[am,hn,hs,ht,hl]
     rw[e]
     simp(maxSteps:=9^7) (disch:=try exact dI) only[bW,Bool.not_true,Bool.not_false,Val.pv_mk,hn,hs,ht,hl,push_cast,seval]
    ·have hlI:¬ (l.length:Int)=0:=by omega
     have e:am (.mk 9 n s t l fs)=false:=by simp[am,hn,hs,ht,hl]
     rw[e]
     simp(maxSteps:=9^7) (disch:=try exact dI) only[bW,Bool.not_true,Bool.not_false,Val.pv_mk,hn,hs,ht,hl,push_cast,seval]
   ·have e:am (.mk 9 n s t l fs)=false:=by simp[am,hn,hs,ht]
    rw[e]
    simp(maxSteps:=9^7) (disch:=try exact dI) only[bW,Bool.not_true,Bool.not_false,Val.pv_mk,hn,hs,ht,push_cast,seval]
  ·have e:am (.mk 9 n s t l fs)=false:=by simp[am,hn,hs]
   rw[e]
   simp(maxSteps:=9^7) (disch:=try exact dI) only[bW,Bool.not_true,Bool.not_false,Val.pv_mk,hn,hs,push_cast,seval]
 ·have e:am (.mk 9 n s t l fs)=false:=by simp[am,hn]
  rw[e]
  simp(maxSteps:=9^7) (disch:=try exact dI) only[bW,Bool.not_true,Bool.not_false,Val.pv_mk,hn,push_cast,seval]
theorem lf (n s:Int)(t:List UInt8)(l:List Val)(fs:List Fld):ag Tryz.prog aD 267 [(Val.mk 10 n s t l fs).pv] (.bool (!am (.mk 10 n s t l fs))):=by
 refine ag.intro dt (by simp[bW]) ?_
 by_cases hn:n=0
 ·by_cases hs:s=0
  ·by_cases hf:fs.length=0
   ·have hfI:(fs.length:Int)=0:=by omega
    have e:am (.mk 10 n s t l fs)=true:=by simp[am,hn,hs,hf]
    rw[e]
    simp(maxSteps:=9^7) (disch:=try exact dI) only[bW,Bool.not_true,Bool.not_false,Val.pv_mk,hn,hs,hf,push_cast,seval]
   ·have hfI:¬ (fs.length:Int)=0:=by omega
    have e:am (.mk 10 n s t l fs)=false:=by simp[am,hn,hs,hf]
    rw[e]
    simp(maxSteps:=9^7) (disch:=try exact dI) only[bW,Bool.not_true,Bool.not_false,Val.pv_mk,hn,hs,hf,push_cast,seval]
  ·have e:am (.mk 10 n s t l fs)=false:=by simp[am,hn,hs]
   rw[e]
   simp(maxSteps:=9^7) (disch:=try exact dI) only[bW,Bool.not_true,Bool.not_false,Val.pv_mk,hn,hs,push_cast,seval]
 ·have e:am (.mk 10 n s t l fs)=false:=by simp[am,hn]
  rw[e]
  simp(maxSteps:=9^7) (disch:=try exact dI) only[bW,Bool.not_true,Bool.not_false,Val.pv_mk,hn,push_cast,seval]
theorem bF (v:Val)(hk:1≤v.kind∧v.kind≤10):ag Tryz.prog aD 267 [v.pv] (.bool (!am v)):=by
 obtain⟨k,n,s,t,l,fs⟩:=v
 simp only[Val.kind] at hk
 have hc:k=1∨k=2∨k=3∨k=4∨k=5∨k=6∨k=7∨k=8∨k=9∨k=10:=by omega
 rcases hc with rfl | rfl | rfl | rfl | rfl | rfl | rfl | rfl | rfl | rfl
 ·exact mW n s t l fs
 ·exact mV n s t l fs
 ·exact mU n s t l fs
 ·exact mT n s t l fs
 ·exact mS n s t l fs
 ·exact mR n s t l fs
 ·exact mQ n s t l fs
 ·exact mP n s t l fs
 ·exact mO n s t l fs
 ·exact lf n s t l fs
set_option maxHeartbeats 2000000 in
theorem nD (s:List UInt8):ag Tryz.prog aD 66 [.str s] (.bool (bM s)):=by
 refine ag.intro Kn (by simp[F66]) ?_
 by_cases h1:0<s.length
 ·by_cases h32:s.length≤32
  ·have e:bM s=(gn (s.headD 0)&&s.all okC):=by simp only[bM,decide_eq_true h1,decide_eq_true h32,Bool.true_and]
   rw[e]
   have hd0:s[0]? = some (s.headD 0):=by cases s with
    | nil=>simp at h1
    | cons a b=>rfl
   simp(maxSteps:=9^7) (disch:=try exact dI) only[F66,push_cast,seval]
   refine aw ([]) (fun i:Nat=>[(3,.pv (.int .i64 (i:Int)))]) (fun _=>[]) (fun i=>i≤s.length∧(s.take i).all okC=true∧(0<i→gn (s.headD 0)=true)) (fun i=>s.length - i) (0) ?_;intro e0 σ0 n0 h0;simp(maxSteps:=9^7) (disch:=try exact dI) only[push_cast,seval] at h0;obtain⟨rfl,rfl,rfl⟩:=h0;refine⟨?_,?_,?_⟩
   ·simp(maxSteps:=9^7) (disch:=try exact dI) only[push_cast,seval]
   ·exact⟨by omega,by simp,by omega⟩
   rintro i ⟨hi,hall,hl0⟩
   by_cases hlt:i<s.length
   ·have hltI:(i:Int)<(s.length:Int):=by omega
    obtain⟨b,hb⟩:∃ b,s[i]? = some b:=⟨_,List.getElem?_eq_getElem hlt⟩
    have hbn:=b.toNat_lt
    have hsn:=pR hb
    rw[hall,Bool.true_and] at hsn
    by_cases hlt2:97≤b.toNat∧b.toNat≤122
    ·have hok:okC b=true:=by simp[okC,gn];omega
     have hlet:0<i+1→gn (s.headD 0)=true:=by
      intro _
      by_cases hi0:i=0
      ·subst hi0
       rw[hb] at hd0
       rw[← Option.some.inj hd0]
       simp[gn];omega
      ·exact hl0 (by omega)
     simp(maxSteps:=9^7) (disch:=try exact dI) only[hb,aY,push_cast,seval]
     exact⟨i+1,aT qsZ,⟨by omega,by rw[hsn,hok],hlet⟩,by omega⟩
    ·by_cases hi0:i=0
     ·subst hi0
      have hbad:(gn (s.headD 0)&&s.all okC)=false:=by
       rw[hb] at hd0
       rw[← Option.some.inj hd0]
       simp only[gn,Bool.and_eq_false_iff,decide_eq_false_iff_not];left;omega
      rw[hbad]
      have hc:b.toNat<97∨122<b.toNat:=by omega
      rcases hc with hc | hc
      ·simp(maxSteps:=9^7) (disch:=try exact dI) only[hb,aY,push_cast,seval]
      ·simp(maxSteps:=9^7) (disch:=try exact dI) only[hb,aY,push_cast,seval]
     ·have hi0I:¬ (i:Int)=0:=by omega
      have hl:=hl0 (by omega)
      have hc:b.toNat<48∨(48≤b.toNat∧b.toNat≤57)∨(57<b.toNat∧b.toNat<97∧b.toNat≠95)∨b.toNat=95∨122<b.toNat:=by omega
      rcases hc with hc | hc | hc | hc | hc
      ·have hbad:(gn (s.headD 0)&&s.all okC)=false:=by rw[f7 hb (by simp[okC,gn];omega),Bool.and_false]
       rw[hbad]
       simp(maxSteps:=9^7) (disch:=try exact dI) only[hb,aY,push_cast,seval]
      ·have hok:okC b=true:=by simp[okC,gn];omega
       simp(maxSteps:=9^7) (disch:=try exact dI) only[hb,aY,push_cast,seval]
       exact⟨i+1,aT qsZ,⟨by omega,by rw[hsn,hok],fun _=>hl⟩,by omega⟩
      ·have hbad:(gn (s.headD 0)&&s.all okC)=false:=by rw[f7 hb (by simp[okC,gn];omega),Bool.and_false]
       rw[hbad]
       simp(maxSteps:=9^7) (disch:=try exact dI) only[hb,aY,push_cast,seval]
      ·have hok:okC b=true:=by simp[okC,gn];omega
       simp(maxSteps:=9^7) (disch:=try exact dI) only[hb,aY,push_cast,seval]
       exact⟨i+1,aT qsZ,⟨by omega,by rw[hsn,hok],fun _=>hl⟩,by omega⟩
      ·have hbad:(gn (s.headD 0)&&s.all okC)=false:=by rw[f7 hb (by simp[okC,gn];omega),Bool.and_false]
       rw[hbad]
       simp(maxSteps:=9^7) (disch:=try exact dI) only[hb,aY,push_cast,seval]
   ·have he:s.take i=s:=List.take_of_length_le (by omega)
    rw[he] at hall
    rw[hall,hl0 (by omega)]
    simp(maxSteps:=9^7) (disch:=try exact dI) only[push_cast,seval]
  ·have e:bM s=false:=by simp[bM,h32]
   rw[e]
   simp(maxSteps:=9^7) (disch:=try exact dI) only[F66,push_cast,seval]
 ·have e:bM s=false:=by simp[bM,h1]
  rw[e]
  simp(maxSteps:=9^7) (disch:=try exact dI) only[F66,push_cast,seval]
end Go.Proofs.YtbojpfpliibfbaaGreatDoor
