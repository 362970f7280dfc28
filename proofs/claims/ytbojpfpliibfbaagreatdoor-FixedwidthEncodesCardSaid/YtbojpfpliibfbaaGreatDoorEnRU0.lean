/- A part of the proof. -/
import Derived.Test.YtbojpfpliibfbaaGreatDoorEnRSh5
set_option maxHeartbeats 16000000
set_option maxRecDepth 100000
set_option linter.unusedVariables false
set_option linter.unusedSimpArgs false
-- many steps
namespace Go.Proofs.YtbojpfpliibfbaaGreatDoor
open Go Go.Ab
attribute [local irreducible] vc
theorem du (v:Val):am Tryz.prog az 67 [v.pv] (.bool (aU v)):=by
 obtain⟨k,n,s,t,l,fs⟩:=v
 refine am.intro Q67.2 (by simp[Q67]) ?_
 by_cases hk:k=0
 ·by_cases hn:n=0
  ·by_cases hs:s=0
   ·by_cases ht:t=[]
    ·by_cases hl:l.length=0
     ·have hlI:(l.length:Int)=0:=by omega
      by_cases hf:fs.length=0
      ·have hfI:(fs.length:Int)=0:=by omega
       have e:aU (.mk k n s t l fs)=true:=by simp[aU,hk,hn,hs,ht,hl,hf]
       rw[e]
       simp(disch:=try exact dI) only[Q67,Val.pv_mk,hk,hn,hs,ht,hl,hf,push_cast,seval]
      ·have hfI:¬ (fs.length:Int)=0:=by omega
       have e:aU (.mk k n s t l fs)=false:=by simp[aU,hk,hn,hs,ht,hl,hf]
       rw[e]
       simp(disch:=try exact dI) only[Q67,Val.pv_mk,hk,hn,hs,ht,hl,hf,push_cast,seval]
     ·have hlI:¬ (l.length:Int)=0:=by omega
      have e:aU (.mk k n s t l fs)=false:=by simp[aU,hk,hn,hs,ht,hl]
      rw[e]
      simp(disch:=try exact dI) only[Q67,Val.pv_mk,hk,hn,hs,ht,hl,push_cast,seval]
    ·have e:aU (.mk k n s t l fs)=false:=by simp[aU,hk,hn,hs,ht]
     rw[e]
     simp(disch:=try exact dI) only[Q67,Val.pv_mk,hk,hn,hs,ht,push_cast,seval]
   ·have e:aU (.mk k n s t l fs)=false:=by simp[aU,hk,hn,hs]
    rw[e]
    simp(disch:=try exact dI) only[Q67,Val.pv_mk,hk,hn,hs,push_cast,seval]
  ·have e:aU (.mk k n s t l fs)=false:=by simp[aU,hk,hn]
   rw[e]
   simp(disch:=try exact dI) only[Q67,Val.pv_mk,hk,hn,push_cast,seval]
 ·have e:aU (.mk k n s t l fs)=false:=by simp[aU,hk]
  rw[e]
  simp(disch:=try exact dI) only[Q67,Val.pv_mk,hk,push_cast,seval]
theorem pl (n s:Int)(t:List UInt8)(l:List Val)(fs:List Fld):am Tryz.prog az 267 [(Val.mk 1 n s t l fs).pv] (.bool (!aq (.mk 1 n s t l fs))):=by
 refine am.intro bR.2 (by simp[bR]) ?_
 by_cases hs:s=0
 ·by_cases ht:t=[]
  ·by_cases hl:l.length=0
   ·have hlI:(l.length:Int)=0:=by omega
    by_cases hf:fs.length=0
    ·have hfI:(fs.length:Int)=0:=by omega
     have e:aq (.mk 1 n s t l fs)=true:=by simp[aq,hs,ht,hl,hf]
     rw[e]
     simp(disch:=try exact dI) only[bR,Bool.not_true,Bool.not_false,Val.pv_mk,hs,ht,hl,hf,push_cast,seval]
    ·have hfI:¬ (fs.length:Int)=0:=by omega
     have e:aq (.mk 1 n s t l fs)=false:=by simp[aq,hs,ht,hl,hf]
     rw[e]
     simp(disch:=try exact dI) only[bR,Bool.not_true,Bool.not_false,Val.pv_mk,hs,ht,hl,hf,push_cast,seval]
   ·have hlI:¬ (l.length:Int)=0:=by omega
    have e:aq (.mk 1 n s t l fs)=false:=by simp[aq,hs,ht,hl]
    rw[e]
    simp(disch:=try exact dI) only[bR,Bool.not_true,Bool.not_false,Val.pv_mk,hs,ht,hl,push_cast,seval]
  ·have e:aq (.mk 1 n s t l fs)=false:=by simp[aq,hs,ht]
   rw[e]
   simp(disch:=try exact dI) only[bR,Bool.not_true,Bool.not_false,Val.pv_mk,hs,ht,push_cast,seval]
 ·have e:aq (.mk 1 n s t l fs)=false:=by simp[aq,hs]
  rw[e]
  simp(disch:=try exact dI) only[bR,Bool.not_true,Bool.not_false,Val.pv_mk,hs,push_cast,seval]
theorem pk (n s:Int)(t:List UInt8)(l:List Val)(fs:List Fld):am Tryz.prog az 267 [(Val.mk 2 n s t l fs).pv] (.bool (!aq (.mk 2 n s t l fs))):=by
 refine am.intro bR.2 (by simp[bR]) ?_
 by_cases hs:s=0
 ·by_cases ht:t=[]
  ·by_cases hl:l.length=0
   ·have hlI:(l.length:Int)=0:=by omega
    by_cases hf:fs.length=0
    ·have hfI:(fs.length:Int)=0:=by omega
     have e:aq (.mk 2 n s t l fs)=true:=by simp[aq,hs,ht,hl,hf]
     rw[e]
     simp(disch:=try exact dI) only[bR,Bool.not_true,Bool.not_false,Val.pv_mk,hs,ht,hl,hf,push_cast,seval]
    ·have hfI:¬ (fs.length:Int)=0:=by omega
     have e:aq (.mk 2 n s t l fs)=false:=by simp[aq,hs,ht,hl,hf]
     rw[e]
     simp(disch:=try exact dI) only[bR,Bool.not_true,Bool.not_false,Val.pv_mk,hs,ht,hl,hf,push_cast,seval]
   ·have hlI:¬ (l.length:Int)=0:=by omega
    have e:aq (.mk 2 n s t l fs)=false:=by simp[aq,hs,ht,hl]
    rw[e]
    simp(disch:=try exact dI) only[bR,Bool.not_true,Bool.not_false,Val.pv_mk,hs,ht,hl,push_cast,seval]
  ·have e:aq (.mk 2 n s t l fs)=false:=by simp[aq,hs,ht]
   rw[e]
   simp(disch:=try exact dI) only[bR,Bool.not_true,Bool.not_false,Val.pv_mk,hs,ht,push_cast,seval]
 ·have e:aq (.mk 2 n s t l fs)=false:=by simp[aq,hs]
  rw[e]
  simp(disch:=try exact dI) only[bR,Bool.not_true,Bool.not_false,Val.pv_mk,hs,push_cast,seval]
theorem pj (n s:Int)(t:List UInt8)(l:List Val)(fs:List Fld):am Tryz.prog az 267 [(Val.mk 3 n s t l fs).pv] (.bool (!aq (.mk 3 n s t l fs))):=by
 refine am.intro bR.2 (by simp[bR]) ?_
 by_cases ht:t=[]
 ·by_cases hl:l.length=0
  ·have hlI:(l.length:Int)=0:=by omega
   by_cases hf:fs.length=0
   ·have hfI:(fs.length:Int)=0:=by omega
    have e:aq (.mk 3 n s t l fs)=true:=by simp[aq,ht,hl,hf]
    rw[e]
    simp(disch:=try exact dI) only[bR,Bool.not_true,Bool.not_false,Val.pv_mk,ht,hl,hf,push_cast,seval]
   ·have hfI:¬ (fs.length:Int)=0:=by omega
    have e:aq (.mk 3 n s t l fs)=false:=by simp[aq,ht,hl,hf]
    rw[e]
    simp(disch:=try exact dI) only[bR,Bool.not_true,Bool.not_false,Val.pv_mk,ht,hl,hf,push_cast,seval]
  ·have hlI:¬ (l.length:Int)=0:=by omega
   have e:aq (.mk 3 n s t l fs)=false:=by simp[aq,ht,hl]
   rw[e]
   simp(disch:=try exact dI) only[bR,Bool.not_true,Bool.not_false,Val.pv_mk,ht,hl,push_cast,seval]
 ·have e:aq (.mk 3 n s t l fs)=false:=by simp[aq,ht]
  rw[e]
  simp(disch:=try exact dI) only[bR,Bool.not_true,Bool.not_false,Val.pv_mk,ht,push_cast,seval]
theorem pi (n s:Int)(t:List UInt8)(l:List Val)(fs:List Fld):am Tryz.prog az 267 [(Val.mk 4 n s t l fs).pv] (.bool (!aq (.mk 4 n s t l fs))):=by
 refine am.intro bR.2 (by simp[bR]) ?_
 by_cases hn:n=0
 ·by_cases hs:s=0
  ·by_cases hl:l.length=0
   ·have hlI:(l.length:Int)=0:=by omega
    by_cases hf:fs.length=0
    ·have hfI:(fs.length:Int)=0:=by omega
     have e:aq (.mk 4 n s t l fs)=true:=by simp[aq,hn,hs,hl,hf]
     rw[e]
     simp(disch:=try exact dI) only[bR,Bool.not_true,Bool.not_false,Val.pv_mk,hn,hs,hl,hf,push_cast,seval]
    ·have hfI:¬ (fs.length:Int)=0:=by omega
     have e:aq (.mk 4 n s t l fs)=false:=by simp[aq,hn,hs,hl,hf]
     rw[e]
     simp(disch:=try exact dI) only[bR,Bool.not_true,Bool.not_false,Val.pv_mk,hn,hs,hl,hf,push_cast,seval]
   ·have hlI:¬ (l.length:Int)=0:=by omega
    have e:aq (.mk 4 n s t l fs)=false:=by simp[aq,hn,hs,hl]
    rw[e]
    simp(disch:=try exact dI) only[bR,Bool.not_true,Bool.not_false,Val.pv_mk,hn,hs,hl,push_cast,seval]
  ·have e:aq (.mk 4 n s t l fs)=false:=by simp[aq,hn,hs]
   rw[e]
   simp(disch:=try exact dI) only[bR,Bool.not_true,Bool.not_false,Val.pv_mk,hn,hs,push_cast,seval]
 ·have e:aq (.mk 4 n s t l fs)=false:=by simp[aq,hn]
  rw[e]
  simp(disch:=try exact dI) only[bR,Bool.not_true,Bool.not_false,Val.pv_mk,hn,push_cast,seval]
theorem ph (n s:Int)(t:List UInt8)(l:List Val)(fs:List Fld):am Tryz.prog az 267 [(Val.mk 5 n s t l fs).pv] (.bool (!aq (.mk 5 n s t l fs))):=by
 refine am.intro bR.2 (by simp[bR]) ?_
 by_cases hn:n=0
 ·by_cases hs:s=0
  ·by_cases hl:l.length=0
   ·have hlI:(l.length:Int)=0:=by omega
    by_cases hf:fs.length=0
    ·have hfI:(fs.length:Int)=0:=by omega
     have e:aq (.mk 5 n s t l fs)=true:=by simp[aq,hn,hs,hl,hf]
     rw[e]
     simp(disch:=try exact dI) only[bR,Bool.not_true,Bool.not_false,Val.pv_mk,hn,hs,hl,hf,push_cast,seval]
    ·have hfI:¬ (fs.length:Int)=0:=by omega
     have e:aq (.mk 5 n s t l fs)=false:=by simp[aq,hn,hs,hl,hf]
     rw[e]
     simp(disch:=try exact dI) only[bR,Bool.not_true,Bool.not_false,Val.pv_mk,hn,hs,hl,hf,push_cast,seval]
   ·have hlI:¬ (l.length:Int)=0:=by omega
    have e:aq (.mk 5 n s t l fs)=false:=by simp[aq,hn,hs,hl]
    rw[e]
    simp(disch:=try exact dI) only[bR,Bool.not_true,Bool.not_false,Val.pv_mk,hn,hs,hl,push_cast,seval]
  ·have e:aq (.mk 5 n s t l fs)=false:=by simp[aq,hn,hs]
   rw[e]
   simp(disch:=try exact dI) only[bR,Bool.not_true,Bool.not_false,Val.pv_mk,hn,hs,push_cast,seval]
 ·have e:aq (.mk 5 n s t l fs)=false:=by simp[aq,hn]
  rw[e]
  simp(disch:=try exact dI) only[bR,Bool.not_true,Bool.not_false,Val.pv_mk,hn,push_cast,seval]
theorem pg (n s:Int)(t:List UInt8)(l:List Val)(fs:List Fld):am Tryz.prog az 267 [(Val.mk 6 n s t l fs).pv] (.bool (!aq (.mk 6 n s t l fs))):=by
 refine am.intro bR.2 (by simp[bR]) ?_
 by_cases hs:s=0
 ·by_cases ht:t=[]
  ·by_cases hl:l.length=0
   ·have hlI:(l.length:Int)=0:=by omega
    by_cases hf:fs.length=0
    ·have hfI:(fs.length:Int)=0:=by omega
     have e:aq (.mk 6 n s t l fs)=true:=by simp[aq,hs,ht,hl,hf]
     rw[e]
     simp(disch:=try exact dI) only[bR,Bool.not_true,Bool.not_false,Val.pv_mk,hs,ht,hl,hf,push_cast,seval]
    ·have hfI:¬ (fs.length:Int)=0:=by omega
     have e:aq (.mk 6 n s t l fs)=false:=by simp[aq,hs,ht,hl,hf]
     rw[e]
     simp(disch:=try exact dI) only[bR,Bool.not_true,Bool.not_false,Val.pv_mk,hs,ht,hl,hf,push_cast,seval]
   ·have hlI:¬ (l.length:Int)=0:=by omega
    have e:aq (.mk 6 n s t l fs)=false:=by simp[aq,hs,ht,hl]
    rw[e]
    simp(disch:=try exact dI) only[bR,Bool.not_true,Bool.not_false,Val.pv_mk,hs,ht,hl,push_cast,seval]
  ·have e:aq (.mk 6 n s t l fs)=false:=by simp[aq,hs,ht]
   rw[e]
   simp(disch:=try exact dI) only[bR,Bool.not_true,Bool.not_false,Val.pv_mk,hs,ht,push_cast,seval]
 ·have e:aq (.mk 6 n s t l fs)=false:=by simp[aq,hs]
  rw[e]
  simp(disch:=try exact dI) only[bR,Bool.not_true,Bool.not_false,Val.pv_mk,hs,push_cast,seval]
theorem pf (n s:Int)(t:List UInt8)(l:List Val)(fs:List Fld):am Tryz.prog az 267 [(Val.mk 7 n s t l fs).pv] (.bool (!aq (.mk 7 n s t l fs))):=by
 refine am.intro bR.2 (by simp[bR]) ?_
 by_cases hs:s=0
 ·by_cases ht:t=[]
  ·by_cases hl:l.length=0
   ·have hlI:(l.length:Int)=0:=by omega
    by_cases hf:fs.length=0
    ·have hfI:(fs.length:Int)=0:=by omega
     have e:aq (.mk 7 n s t l fs)=true:=by simp[aq,hs,ht,hl,hf]
     rw[e]
     simp(disch:=try exact dI) only[bR,Bool.not_true,Bool.not_false,Val.pv_mk,hs,ht,hl,hf,push_cast,seval]
    ·have hfI:¬ (fs.length:Int)=0:=by omega
     have e:aq (.mk 7 n s t l fs)=false:=by simp[aq,hs,ht,hl,hf]
     rw[e]
     simp(disch:=try exact dI) only[bR,Bool.not_true,Bool.not_false,Val.pv_mk,hs,ht,hl,hf,push_cast,seval]
   ·have hlI:¬ (l.length:Int)=0:=by omega
    have e:aq (.mk 7 n s t l fs)=false:=by simp[aq,hs,ht,hl]
    rw[e]
    simp(disch:=try exact dI) only[bR,Bool.not_true,Bool.not_false,Val.pv_mk,hs,ht,hl,push_cast,seval]
  ·have e:aq (.mk 7 n s t l fs)=false:=by simp[aq,hs,ht]
   rw[e]
   simp(disch:=try exact dI) only[bR,Bool.not_true,Bool.not_false,Val.pv_mk,hs,ht,push_cast,seval]
 ·have e:aq (.mk 7 n s t l fs)=false:=by simp[aq,hs]
  rw[e]
  simp(disch:=try exact dI) only[bR,Bool.not_true,Bool.not_false,Val.pv_mk,hs,push_cast,seval]
theorem pd (n s:Int)(t:List UInt8)(l:List Val)(fs:List Fld):am Tryz.prog az 267 [(Val.mk 8 n s t l fs).pv] (.bool (!aq (.mk 8 n s t l fs))):=by
 refine am.intro bR.2 (by simp[bR]) ?_
 by_cases hn:n=0
 ·by_cases hs:s=0
  ·by_cases ht:t=[]
   ·by_cases hf:fs.length=0
    ·have hfI:(fs.length:Int)=0:=by omega
     have e:aq (.mk 8 n s t l fs)=true:=by simp[aq,hn,hs,ht,hf]
     rw[e]
     simp(disch:=try exact dI) only[bR,Bool.not_true,Bool.not_false,Val.pv_mk,hn,hs,ht,hf,push_cast,seval]
    ·have hfI:¬ (fs.length:Int)=0:=by omega
     have e:aq (.mk 8 n s t l fs)=false:=by simp[aq,hn,hs,ht,hf]
     rw[e]
     simp(disch:=try exact dI) only[bR,Bool.not_true,Bool.not_false,Val.pv_mk,hn,hs,ht,hf,push_cast,seval]
   ·have e:aq (.mk 8 n s t l fs)=false:=by simp[aq,hn,hs,ht]
    rw[e]
    simp(disch:=try exact dI) only[bR,Bool.not_true,Bool.not_false,Val.pv_mk,hn,hs,ht,push_cast,seval]
  ·have e:aq (.mk 8 n s t l fs)=false:=by simp[aq,hn,hs]
   rw[e]
   simp(disch:=try exact dI) only[bR,Bool.not_true,Bool.not_false,Val.pv_mk,hn,hs,push_cast,seval]
 ·have e:aq (.mk 8 n s t l fs)=false:=by simp[aq,hn]
  rw[e]
  simp(disch:=try exact dI) only[bR,Bool.not_true,Bool.not_false,Val.pv_mk,hn,push_cast,seval]
theorem pc (n s:Int)(t:List UInt8)(l:List Val)(fs:List Fld):am Tryz.prog az 267 [(Val.mk 9 n s t l fs).pv] (.bool (!aq (.mk 9 n s t l fs))):=by
 refine am.intro bR.2 (by simp[bR]) ?_
 by_cases hn:n=0
 ·by_cases hs:s=0
  ·by_cases ht:t=[]
   ·by_cases hl:l.length=0
    ·have hlI:(l.length:Int)=0:=by omega
     have e:aq (.mk 9 n s t l fs)=true:=by simp[aq,hn,hs,ht,hl]
     rw[e]
     simp(disch:=try exact dI) only[bR,Bool.not_true,Bool.not_false,Val.pv_mk,hn,hs,ht,hl,push_cast,seval]
    ·have hlI:¬ (l.length:Int)=0:=by omega
     have e:aq (.mk 9 n s t l fs)=false:=by simp[aq,hn,hs,ht,hl]
     rw[e]
     simp(disch:=try exact dI) only[bR,Bool.not_true,Bool.not_false,Val.pv_mk,hn,hs,ht,hl,push_cast,seval]
   ·have e:aq (.mk 9 n s t l fs)=false:=by simp[aq,hn,hs,ht]
    rw[e]
    simp(disch:=try exact dI) only[bR,Bool.not_true,Bool.not_false,Val.pv_mk,hn,hs,ht,push_cast,seval]
  ·have e:aq (.mk 9 n s t l fs)=false:=by simp[aq,hn,hs]
   rw[e]
   simp(disch:=try exact dI) only[bR,Bool.not_true,Bool.not_false,Val.pv_mk,hn,hs,push_cast,seval]
 ·have e:aq (.mk 9 n s t l fs)=false:=by simp[aq,hn]
  rw[e]
  simp(disch:=try exact dI) only[bR,Bool.not_true,Bool.not_false,Val.pv_mk,hn,push_cast,seval]
theorem nx (n s:Int)(t:List UInt8)(l:List Val)(fs:List Fld):am Tryz.prog az 267 [(Val.mk 10 n s t l fs).pv] (.bool (!aq (.mk 10 n s t l fs))):=by
 refine am.intro bR.2 (by simp[bR]) ?_
 by_cases hn:n=0
 ·by_cases hs:s=0
  ·by_cases hf:fs.length=0
   ·have hfI:(fs.length:Int)=0:=by omega
    have e:aq (.mk 10 n s t l fs)=true:=by simp[aq,hn,hs,hf]
    rw[e]
    simp(disch:=try exact dI) only[bR,Bool.not_true,Bool.not_false,Val.pv_mk,hn,hs,hf,push_cast,seval]
   ·have hfI:¬ (fs.length:Int)=0:=by omega
    have e:aq (.mk 10 n s t l fs)=false:=by simp[aq,hn,hs,hf]
    rw[e]
    simp(disch:=try exact dI) only[bR,Bool.not_true,Bool.not_false,Val.pv_mk,hn,hs,hf,push_cast,seval]
  ·have e:aq (.mk 10 n s t l fs)=false:=by simp[aq,hn,hs]
   rw[e]
   simp(disch:=try exact dI) only[bR,Bool.not_true,Bool.not_false,Val.pv_mk,hn,hs,push_cast,seval]
 ·have e:aq (.mk 10 n s t l fs)=false:=by simp[aq,hn]
  rw[e]
  simp(disch:=try exact dI) only[bR,Bool.not_true,Bool.not_false,Val.pv_mk,hn,push_cast,seval]
theorem bV (v:Val)(hk:1<=v.kind/\v.kind<=10):am Tryz.prog az 267 [v.pv] (.bool (!aq v)):=by
 obtain⟨k,n,s,t,l,fs⟩:=v
 simp only[Val.kind] at hk
 have hc:k=1\/k=2\/k=3\/k=4\/k=5\/k=6\/k=7\/k=8\/k=9\/k=10:=by omega
 rcases hc with rfl | rfl | rfl | rfl | rfl | rfl | rfl | rfl | rfl | rfl
 ·exact pl n s t l fs
 ·exact pk n s t l fs
 ·exact pj n s t l fs
 ·exact pi n s t l fs
 ·exact ph n s t l fs
 ·exact pg n s t l fs
 ·exact pf n s t l fs
 ·exact pd n s t l fs
 ·exact pc n s t l fs
 ·exact nx n s t l fs
theorem pX (s:List UInt8):am Tryz.prog az 66 [.str s] (.bool (bO s)):=by
 refine am.intro Q66.2 (by simp[Q66]) ?_
 by_cases h1:0<s.length
 ·by_cases h32:s.length<=32
  ·have e:bO s=(iP (s.headD 0)&&s.all okC):=by simp only[bO,decide_eq_true h1,decide_eq_true h32,Bool.true_and]
   rw[e]
   have hd0:s[0]? = some (s.headD 0):=by cases s with
    | nil=>simp at h1
    | cons a b=>rfl
   simp(disch:=try exact dI) only[Q66,push_cast,seval]
   refine au ([]) (fun i:Nat=>[(3,.pv (.int .i64 (i:Int)))]) (fun _=>[]) (fun i=>i<=s.length/\(s.take i).all okC=true/\(0<i->iP (s.headD 0)=true)) (fun i=>s.length - i) (0) ?_;intro e0 σ0 n0 h0;simp(disch:=try exact dI) only[push_cast,seval] at h0;obtain⟨rfl,rfl,rfl⟩:=h0;refine⟨?_,?_,?_⟩
   ·exact qsZ
   ·exact⟨by omega,by simp,by omega⟩
   rintro i ⟨hi,hall,hl0⟩
   by_cases hlt:i<s.length
   ·have hltI:(i:Int)<(s.length:Int):=by omega
    obtain⟨b,hb⟩:∃ b,s[i]? = some b:=⟨_,List.getElem?_eq_getElem hlt⟩
    have hbn:=b.toNat_lt
    have hsn:=sY hb
    rw[hall,Bool.true_and] at hsn
    by_cases hlt2:97<=b.toNat/\b.toNat<=122
    ·have hok:okC b=true:=by simp[okC,iP];omega
     have hlet:0<i+1->iP (s.headD 0)=true:=by
      intro _
      by_cases hi0:i=0
      ·subst hi0
       rw[hb] at hd0
       rw[<- Option.some.inj hd0]
       simp[iP];omega
      ·exact hl0 (by omega)
     simp(disch:=try exact dI) only[hb,bh,push_cast,seval]
     exact⟨i+1,aM qsZ,⟨by omega,by rw[hsn,hok],hlet⟩,by omega⟩
    ·by_cases hi0:i=0
     ·subst hi0
      have hbad:(iP (s.headD 0)&&s.all okC)=false:=by
       rw[hb] at hd0
       rw[<- Option.some.inj hd0]
       simp only[iP,Bool.and_eq_false_iff,decide_eq_false_iff_not];left;omega
      rw[hbad]
      have hc:b.toNat<97\/122<b.toNat:=by omega
      rcases hc with hc | hc
      ·simp(disch:=try exact dI) only[hb,bh,push_cast,seval]
      ·simp(disch:=try exact dI) only[hb,bh,push_cast,seval]
     ·have hi0I:¬ (i:Int)=0:=by omega
      have hl:=hl0 (by omega)
      have hc:b.toNat<48\/(48<=b.toNat/\b.toNat<=57)\/(57<b.toNat/\b.toNat<97/\b.toNat≠95)\/b.toNat=95\/122<b.toNat:=by omega
      rcases hc with hc | hc | hc | hc | hc
      ·have hbad:(iP (s.headD 0)&&s.all okC)=false:=by rw[iK hb (by simp[okC,iP];omega),Bool.and_false]
       rw[hbad]
       simp(disch:=try exact dI) only[hb,bh,push_cast,seval]
      ·have hok:okC b=true:=by simp[okC,iP];omega
       simp(disch:=try exact dI) only[hb,bh,push_cast,seval]
       exact⟨i+1,aM qsZ,⟨by omega,by rw[hsn,hok],fun _=>hl⟩,by omega⟩
      ·have hbad:(iP (s.headD 0)&&s.all okC)=false:=by rw[iK hb (by simp[okC,iP];omega),Bool.and_false]
       rw[hbad]
       simp(disch:=try exact dI) only[hb,bh,push_cast,seval]
      ·have hok:okC b=true:=by simp[okC,iP];omega
       simp(disch:=try exact dI) only[hb,bh,push_cast,seval]
       exact⟨i+1,aM qsZ,⟨by omega,by rw[hsn,hok],fun _=>hl⟩,by omega⟩
      ·have hbad:(iP (s.headD 0)&&s.all okC)=false:=by rw[iK hb (by simp[okC,iP];omega),Bool.and_false]
       rw[hbad]
       simp(disch:=try exact dI) only[hb,bh,push_cast,seval]
   ·have he:s.take i=s:=List.take_of_length_le (by omega)
    rw[he] at hall
    rw[hall,hl0 (by omega)]
    exact qsZ
  ·have e:bO s=false:=by simp[bO,h32]
   rw[e]
   simp(disch:=try exact dI) only[Q66,push_cast,seval]
 ·have e:bO s=false:=by simp[bO,h1]
  rw[e]
  simp(disch:=try exact dI) only[Q66,push_cast,seval]
end Go.Proofs.YtbojpfpliibfbaaGreatDoor
-- many steps
namespace Go.Proofs.YtbojpfpliibfbaaGreatDoor
open Go Go.Ab
attribute [local irreducible] vc
theorem cJ (n a b:Int):am Tryz.prog az 268 [.int .i64 n,.int .i64 a,.int .i64 b] (.bool (!inB n a b)):=by
 refine am.intro M2.2 (by simp[M2]) ?_
 by_cases h1:a<=n
 ·have h1':¬ n<a:=by omega
  by_cases h2:n<=b
  ·have h2':¬ b<n:=by omega
   rw[show inB n a b=true by simp[inB,h1,h2]]
   simp(disch:=try exact dI) only[M2,h1',h2',push_cast,seval]
  ·have h2':b<n:=by omega
   rw[show inB n a b=false by simp[inB,h2]]
   simp(disch:=try exact dI) only[M2,h1',h2',push_cast,seval]
 ·have h1':n<a:=by omega
  rw[show inB n a b=false by simp[inB,h1]]
  simp(disch:=try exact dI) only[M2,h1',push_cast,seval]
def fJ (fs:List Fld):Int:=if cZ fs.length 64 9=0 then eR none (fs.map Fld.name) else cZ fs.length 64 9
theorem AK (fs:List Fld):am Tryz.prog az 269 [.list (fs.map Fld.pv)] (.int .i64 (fJ fs)):=by
 unfold fJ
 by_cases h64:(64:Int)<fs.length
 ·rw[show cZ fs.length 64 9=9 from if_pos h64]
  rw[if_neg (by omega)]
  refine am.intro Kp.2 (by simp[Kp]) ?_
  simp(disch:=try exact dI) only[Kp,h64,push_cast,seval]
 ·rw[show cZ fs.length 64 9=0 from if_neg h64]
  rw[if_pos rfl]
  have hfl:fs.length<=64:=by omega
  obtain⟨R,hR⟩:∃ R,R=eR none (fs.map Fld.name):=⟨_,rfl⟩
  rw[<- hR]
  refine am.intro Kp.2 (by simp[Kp]) ?_
  simp(disch:=try exact dI) only[Kp,h64,push_cast,seval]
  refine au ([]) (fun i:Nat=>[(3,.pv (.int .i64 (i:Int)))]) (fun _=>[]) (fun i=>i<=fs.length/\R=eR (gI fs i) ((fs.map Fld.name).drop i)) (fun i=>fs.length - i) (0) ?_;intro e0 σ0 n0 h0;simp(disch:=try exact dI) only[push_cast,seval] at h0;obtain⟨rfl,rfl,rfl⟩:=h0;refine⟨?_,?_,?_⟩
  ·exact qsZ
  ·exact⟨by omega,by simpa[gI] using hR⟩
  rintro i ⟨hi,hr⟩
  by_cases hlt:i<fs.length
  ·have hltI:(i:Int)<(fs.length:Int):=by omega
   obtain⟨c,hc⟩:∃ c,fs[i]? = some c:=⟨_,List.getElem?_eq_getElem hlt⟩
   obtain⟨nm,⟨k',n',s',t',l',f'⟩⟩:=c
   have hcp:(fs.map Fld.pv)[i]? = some (.agg [.str nm,.int .i64 k',.int .i64 n',.int .i64 s',.str t',.list (l'.map Val.pv),.list (f'.map Fld.pv)]):=by simp[hc,Fld.pv_mk,Val.pv_mk,ag]
   have hnm:(fs.map Fld.name)[i]? = some nm:=by simp[hc,Fld.name]
   have hn:=pX nm
   rw[j6 hnm] at hr
   have hnext:gI fs (i+1)=some nm:=by simp[gI,hc,Fld.name]
   cases hb:bO nm with
   | false=>
     rw[hb] at hn hr
     rw[if_pos rfl] at hr
     subst hr
     simp(disch:=try exact dI) only[hcp,push_cast,seval]
     refine ab.pure hn rfl ?_
     exact qsZ
   | true=>
     rw[hb] at hn hr
     rw[if_neg (by simp)] at hr
     by_cases hi0:i=0
     ·have hiI:¬ (0:Int)<(i:Int):=by omega
      have hpn:gI fs i=none:=if_pos hi0
      rw[hpn,if_neg (by simp),if_neg (by simp),<- hnext] at hr
      simp(disch:=try exact dI) only[hcp,push_cast,seval]
      refine ab.pure hn rfl ?_
      refine zgZ ?_
      exact⟨i+1,aM qsZ,⟨by omega,by rw[List.map_drop];exact hr⟩,by omega⟩
     ·obtain⟨j,rfl⟩:∃ j,i=j+1:=⟨i - 1,by omega⟩
      obtain⟨c,hc'⟩:∃ c,fs[j]? = some c:=⟨_,List.getElem?_eq_getElem (by omega)⟩
      have hpn:gI fs (j+1)=some c.name:=by simp[gI,hc']
      obtain⟨q,⟨k2,n2,s2,t2,l2,f2⟩⟩:=c
      have hcq:(fs.map Fld.pv)[j]? = some (.agg [.str q,.int .i64 k2,.int .i64 n2,.int .i64 s2,.str t2,.list (l2.map Val.pv),.list (f2.map Fld.pv)]):=by simp[hc',Fld.pv_mk,Val.pv_mk,ag]
      simp only[Fld.name] at hpn
      rw[hpn] at hr
      by_cases hq:nm=q
      ·subst hq
       rw[if_pos rfl] at hr
       subst hr
       simp(disch:=try exact dI) only[hcp,hcq,Int.add_sub_cancel,push_cast,seval]
       refine ab.pure hn rfl ?_
       simp(disch:=try exact dI) only[hcp,hcq,Int.add_sub_cancel,push_cast,seval]
      ·rw[if_neg (by simpa using fun e=>hq e.symm)] at hr
       cases hlt2:aP nm q with
       | true=>
         rw[if_pos (by simpa using hlt2)] at hr
         subst hr
         simp(disch:=try exact dI) only[hcp,hcq,Int.add_sub_cancel,push_cast,seval]
         refine ab.pure hn rfl ?_
         simp(disch:=try exact dI) only[hcp,hcq,Int.add_sub_cancel,hq,hlt2,push_cast,seval]
       | false=>
         rw[if_neg (by simp[hlt2]),<- hnext] at hr
         simp(disch:=try exact dI) only[hcp,hcq,Int.add_sub_cancel,push_cast,seval]
         refine ab.pure hn rfl ?_
         simp(disch:=try exact dI) only[hcp,hcq,Int.add_sub_cancel,hq,hlt2,push_cast,seval]
         exact⟨j+1+1,aM qsZ,⟨by omega,by rw[List.map_drop];exact hr⟩,by omega⟩
  ·have hie:i=fs.length:=by omega
   subst hie
   rw[List.drop_of_length_le (by simp)] at hr
   rw[show R=0 from hr]
   exact qsZ
end Go.Proofs.YtbojpfpliibfbaaGreatDoor
