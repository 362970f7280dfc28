/- A part of the proof for DelimitedRepresentableCardSaid. -/
import Derived.Test.YtbaaokocnegdoaaGreatDoorRepVR2
import Derived.Test.YtbaaokocnegdoaaGreatDoorRepWTy
set_option maxRecDepth 100000
set_option linter.unusedVariables false
set_option linter.unusedSimpArgs false
namespace Go.Proofs.YtbaaokocnegdoaaGreatDoor
open Go Go.Ab
attribute [local irreducible] vc
theorem iM (v:Val):ak Tryz.prog aD 243 [v.pv] (.clo 281 [] [.eptr [v.pv] 0 0]):=by
 obtain⟨k,n,s,t,l,fs⟩:=v
 refine ak.intro IU (by simp[NP]) ?_
 simp(disch:=first|exact dI|fail) only[NP,Val.pv_mk,push_cast,seval]
def vO:PV:=.agg [.nilf,.clo 268 [] [],.clo 270 [] [],.clo 271 [] [],.clo 273 [] [],.clo 275 [] [],.clo 276 [] [],.clo 277 [] [],.clo 278 [] [],.clo 279 [] [],.clo 280 [] []]
theorem xo (f:Nat)(a b:List PV):PV.one (.clo f a b)=true:=rfl
theorem pR:PV.one .nilf=true:=rfl
theorem BB:ak Tryz.prog aD 242 [] vO:=by
 refine ak.intro IV (by simp[NQ]) ?_
 simp(disch:=first|exact dI|fail) only[NQ,vO,xo,pR,push_cast,seval]
theorem cD (n a b:Int):ak Tryz.prog aD 269 [.int .i64 n,.int .i64 a,.int .i64 b] (.int .i64 (if n<a∨b<n then 2 else 0)):=by
 refine ak.intro IJ (by simp[L2]) ?_
 by_cases h1:n<a
 ·rw[if_pos (.inl h1)]
  simp(disch:=first|exact dI|fail) only[L2,push_cast,seval]
 ·by_cases h2:b<n
  ·rw[if_pos (.inr h2)]
   simp(disch:=first|exact dI|fail) only[L2,push_cast,seval]
  ·rw[if_neg (by omega)]
   simp(disch:=first|exact dI|fail) only[L2,push_cast,seval]
theorem iv (n m e:Int):ak Tryz.prog aD 274 [.int .i64 n,.int .i64 m,.int .i64 e] (.int .i64 (if m<n then e else 0)):=by
 refine ak.intro IE (by simp[Mu]) ?_
 by_cases h1:m<n
 ·rw[if_pos h1]
  simp(disch:=first|exact dI|fail) only[Mu,push_cast,seval]
 ·rw[if_neg h1]
  simp(disch:=first|exact dI|fail) only[Mu,push_cast,seval]
def aJ:Val→Bool
 | .mk k n s t l fs=>decide (k=0)&&(decide (n=0)&&(decide (s=0)&&(decide (t=[])&&(decide (l.length=0)&&decide (fs.length=0)))))
def ag:Val→Bool
 | .mk k n s t l fs=>(decide (k=1∨k=2∨k=6∨k=7∨k=3)||decide (n=0))&&((decide (k=3)||decide (s=0))&&((decide (k=4∨k=5∨k=10)||decide (t=[]))&&((decide (k=8∨k=10)||decide (l.length=0))&&(decide (k=9)||decide (fs.length=0)))))
theorem G9 (v:Val):ak Tryz.prog aD 111 [v.pv] (.bool (aJ v)):=by
 obtain⟨k,n,s,t,l,fs⟩:=v
 refine ak.intro EI (by simp[kZ]) ?_
 by_cases hk:k=0
 ·by_cases hn:n=0
  ·by_cases hs:s=0
   ·by_cases ht:t=[]
    ·by_cases hl:l.length=0
     ·have hlI:(l.length:Int)=0:=by omega
      by_cases hf:fs.length=0
      ·have hfI:(fs.length:Int)=0:=by omega
       have e:aJ (.mk k n s t l fs)=true:=by simp[aJ,hk,hn,hs,ht,hl,hf]
       rw[e]
       simp(disch:=first|exact dI|fail) only[kZ,Val.pv_mk,hk,hn,hs,ht,hl,hf,push_cast,seval]
      ·have hfI:¬ (fs.length:Int)=0:=by omega
       have e:aJ (.mk k n s t l fs)=false:=by simp[aJ,hk,hn,hs,ht,hl,hf]
       rw[e]
       simp(disch:=first|exact dI|fail) only[kZ,Val.pv_mk,hk,hn,hs,ht,hl,hf,push_cast,seval]
     ·have hlI:¬ (l.length:Int)=0:=by omega
      have e:aJ (.mk k n s t l fs)=false:=by simp[aJ,hk,hn,hs,ht,hl]
      rw[e]
      simp(disch:=first|exact dI|fail) only[kZ,Val.pv_mk,hk,hn,hs,ht,hl,push_cast,seval]
    ·have e:aJ (.mk k n s t l fs)=false:=by simp[aJ,hk,hn,hs,ht]
     rw[e]
     simp(disch:=first|exact dI|fail) only[kZ,Val.pv_mk,hk,hn,hs,ht,push_cast,seval]
   ·have e:aJ (.mk k n s t l fs)=false:=by simp[aJ,hk,hn,hs]
    rw[e]
    simp(disch:=first|exact dI|fail) only[kZ,Val.pv_mk,hk,hn,hs,push_cast,seval]
  ·have e:aJ (.mk k n s t l fs)=false:=by simp[aJ,hk,hn]
   rw[e]
   simp(disch:=first|exact dI|fail) only[kZ,Val.pv_mk,hk,hn,push_cast,seval]
 ·have e:aJ (.mk k n s t l fs)=false:=by simp[aJ,hk]
  rw[e]
  simp(disch:=first|exact dI|fail) only[kZ,Val.pv_mk,hk,push_cast,seval]
theorem cH (v:Val):ak Tryz.prog aD 286 [v.pv] (.bool (aJ v)):=by
 obtain⟨k,n,s,t,l,fs⟩:=v
 refine ak.intro Iu (by simp[ED]) ?_
 by_cases hk:k=0
 ·by_cases hn:n=0
  ·by_cases hs:s=0
   ·by_cases ht:t=[]
    ·by_cases hl:l.length=0
     ·have hlI:(l.length:Int)=0:=by omega
      by_cases hf:fs.length=0
      ·have hfI:(fs.length:Int)=0:=by omega
       have e:aJ (.mk k n s t l fs)=true:=by simp[aJ,hk,hn,hs,ht,hl,hf]
       rw[e]
       simp(disch:=first|exact dI|fail) only[ED,Val.pv_mk,hk,hn,hs,ht,hl,hf,push_cast,seval]
      ·have hfI:¬ (fs.length:Int)=0:=by omega
       have e:aJ (.mk k n s t l fs)=false:=by simp[aJ,hk,hn,hs,ht,hl,hf]
       rw[e]
       simp(disch:=first|exact dI|fail) only[ED,Val.pv_mk,hk,hn,hs,ht,hl,hf,push_cast,seval]
     ·have hlI:¬ (l.length:Int)=0:=by omega
      have e:aJ (.mk k n s t l fs)=false:=by simp[aJ,hk,hn,hs,ht,hl]
      rw[e]
      simp(disch:=first|exact dI|fail) only[ED,Val.pv_mk,hk,hn,hs,ht,hl,push_cast,seval]
    ·have e:aJ (.mk k n s t l fs)=false:=by simp[aJ,hk,hn,hs,ht]
     rw[e]
     simp(disch:=first|exact dI|fail) only[ED,Val.pv_mk,hk,hn,hs,ht,push_cast,seval]
   ·have e:aJ (.mk k n s t l fs)=false:=by simp[aJ,hk,hn,hs]
    rw[e]
    simp(disch:=first|exact dI|fail) only[ED,Val.pv_mk,hk,hn,hs,push_cast,seval]
  ·have e:aJ (.mk k n s t l fs)=false:=by simp[aJ,hk,hn]
   rw[e]
   simp(disch:=first|exact dI|fail) only[ED,Val.pv_mk,hk,hn,push_cast,seval]
 ·have e:aJ (.mk k n s t l fs)=false:=by simp[aJ,hk]
  rw[e]
  simp(disch:=first|exact dI|fail) only[ED,Val.pv_mk,hk,push_cast,seval]
theorem uZ (n s:Int)(t:List UInt8)(l:List Val)(fs:List Fld):ak Tryz.prog aD 244 [(Val.mk 1 n s t l fs).pv] (.bool (ag (.mk 1 n s t l fs))):=by
 refine ak.intro dp (by simp[bV]) ?_
 by_cases hs:s=0
 ·by_cases ht:t=[]
  ·by_cases hl:l.length=0
   ·have hlI:(l.length:Int)=0:=by omega
    by_cases hf:fs.length=0
    ·have hfI:(fs.length:Int)=0:=by omega
     have e:ag (.mk 1 n s t l fs)=true:=by simp[ag,hs,ht,hl,hf]
     rw[e]
     simp(disch:=first|exact dI|fail) only[bV,Val.pv_mk,hs,ht,hl,hf,push_cast,seval]
    ·have hfI:¬ (fs.length:Int)=0:=by omega
     have e:ag (.mk 1 n s t l fs)=false:=by simp[ag,hs,ht,hl,hf]
     rw[e]
     simp(disch:=first|exact dI|fail) only[bV,Val.pv_mk,hs,ht,hl,hf,push_cast,seval]
   ·have hlI:¬ (l.length:Int)=0:=by omega
    have e:ag (.mk 1 n s t l fs)=false:=by simp[ag,hs,ht,hl]
    rw[e]
    simp(disch:=first|exact dI|fail) only[bV,Val.pv_mk,hs,ht,hl,push_cast,seval]
  ·have e:ag (.mk 1 n s t l fs)=false:=by simp[ag,hs,ht]
   rw[e]
   simp(disch:=first|exact dI|fail) only[bV,Val.pv_mk,hs,ht,push_cast,seval]
 ·have e:ag (.mk 1 n s t l fs)=false:=by simp[ag,hs]
  rw[e]
  simp(disch:=first|exact dI|fail) only[bV,Val.pv_mk,hs,push_cast,seval]
theorem uY (n s:Int)(t:List UInt8)(l:List Val)(fs:List Fld):ak Tryz.prog aD 244 [(Val.mk 2 n s t l fs).pv] (.bool (ag (.mk 2 n s t l fs))):=by
 refine ak.intro dp (by simp[bV]) ?_
 by_cases hs:s=0
 ·by_cases ht:t=[]
  ·by_cases hl:l.length=0
   ·have hlI:(l.length:Int)=0:=by omega
    by_cases hf:fs.length=0
    ·have hfI:(fs.length:Int)=0:=by omega
     have e:ag (.mk 2 n s t l fs)=true:=by simp[ag,hs,ht,hl,hf]
     rw[e]
     simp(disch:=first|exact dI|fail) only[bV,Val.pv_mk,hs,ht,hl,hf,push_cast,seval]
    ·have hfI:¬ (fs.length:Int)=0:=by omega
     have e:ag (.mk 2 n s t l fs)=false:=by simp[ag,hs,ht,hl,hf]
     rw[e]
     simp(disch:=first|exact dI|fail) only[bV,Val.pv_mk,hs,ht,hl,hf,push_cast,seval]
   ·have hlI:¬ (l.length:Int)=0:=by omega
    have e:ag (.mk 2 n s t l fs)=false:=by simp[ag,hs,ht,hl]
    rw[e]
    simp(disch:=first|exact dI|fail) only[bV,Val.pv_mk,hs,ht,hl,push_cast,seval]
  ·have e:ag (.mk 2 n s t l fs)=false:=by simp[ag,hs,ht]
   rw[e]
   simp(disch:=first|exact dI|fail) only[bV,Val.pv_mk,hs,ht,push_cast,seval]
 ·have e:ag (.mk 2 n s t l fs)=false:=by simp[ag,hs]
  rw[e]
  simp(disch:=first|exact dI|fail) only[bV,Val.pv_mk,hs,push_cast,seval]
theorem uX (n s:Int)(t:List UInt8)(l:List Val)(fs:List Fld):ak Tryz.prog aD 244 [(Val.mk 3 n s t l fs).pv] (.bool (ag (.mk 3 n s t l fs))):=by
 refine ak.intro dp (by simp[bV]) ?_
 by_cases ht:t=[]
 ·by_cases hl:l.length=0
  ·have hlI:(l.length:Int)=0:=by omega
   by_cases hf:fs.length=0
   ·have hfI:(fs.length:Int)=0:=by omega
    have e:ag (.mk 3 n s t l fs)=true:=by simp[ag,ht,hl,hf]
    rw[e]
    simp(disch:=first|exact dI|fail) only[bV,Val.pv_mk,ht,hl,hf,push_cast,seval]
   ·have hfI:¬ (fs.length:Int)=0:=by omega
    have e:ag (.mk 3 n s t l fs)=false:=by simp[ag,ht,hl,hf]
    rw[e]
    simp(disch:=first|exact dI|fail) only[bV,Val.pv_mk,ht,hl,hf,push_cast,seval]
  ·have hlI:¬ (l.length:Int)=0:=by omega
   have e:ag (.mk 3 n s t l fs)=false:=by simp[ag,ht,hl]
   rw[e]
   simp(disch:=first|exact dI|fail) only[bV,Val.pv_mk,ht,hl,push_cast,seval]
 ·have e:ag (.mk 3 n s t l fs)=false:=by simp[ag,ht]
  rw[e]
  simp(disch:=first|exact dI|fail) only[bV,Val.pv_mk,ht,push_cast,seval]
theorem uW (n s:Int)(t:List UInt8)(l:List Val)(fs:List Fld):ak Tryz.prog aD 244 [(Val.mk 4 n s t l fs).pv] (.bool (ag (.mk 4 n s t l fs))):=by
 refine ak.intro dp (by simp[bV]) ?_
 by_cases hn:n=0
 ·by_cases hs:s=0
  ·by_cases hl:l.length=0
   ·have hlI:(l.length:Int)=0:=by omega
    by_cases hf:fs.length=0
    ·have hfI:(fs.length:Int)=0:=by omega
     have e:ag (.mk 4 n s t l fs)=true:=by simp[ag,hn,hs,hl,hf]
     rw[e]
     simp(disch:=first|exact dI|fail) only[bV,Val.pv_mk,hn,hs,hl,hf,push_cast,seval]
    ·have hfI:¬ (fs.length:Int)=0:=by omega
     have e:ag (.mk 4 n s t l fs)=false:=by simp[ag,hn,hs,hl,hf]
     rw[e]
     simp(disch:=first|exact dI|fail) only[bV,Val.pv_mk,hn,hs,hl,hf,push_cast,seval]
   ·have hlI:¬ (l.length:Int)=0:=by omega
    have e:ag (.mk 4 n s t l fs)=false:=by simp[ag,hn,hs,hl]
    rw[e]
    simp(disch:=first|exact dI|fail) only[bV,Val.pv_mk,hn,hs,hl,push_cast,seval]
  ·have e:ag (.mk 4 n s t l fs)=false:=by simp[ag,hn,hs]
   rw[e]
   simp(disch:=first|exact dI|fail) only[bV,Val.pv_mk,hn,hs,push_cast,seval]
 ·have e:ag (.mk 4 n s t l fs)=false:=by simp[ag,hn]
  rw[e]
  simp(disch:=first|exact dI|fail) only[bV,Val.pv_mk,hn,push_cast,seval]
theorem uV (n s:Int)(t:List UInt8)(l:List Val)(fs:List Fld):ak Tryz.prog aD 244 [(Val.mk 5 n s t l fs).pv] (.bool (ag (.mk 5 n s t l fs))):=by
 refine ak.intro dp (by simp[bV]) ?_
 by_cases hn:n=0
 ·by_cases hs:s=0
  ·by_cases hl:l.length=0
   ·have hlI:(l.length:Int)=0:=by omega
    by_cases hf:fs.length=0
    ·have hfI:(fs.length:Int)=0:=by omega
     have e:ag (.mk 5 n s t l fs)=true:=by simp[ag,hn,hs,hl,hf]
     rw[e]
     simp(disch:=first|exact dI|fail) only[bV,Val.pv_mk,hn,hs,hl,hf,push_cast,seval]
    ·have hfI:¬ (fs.length:Int)=0:=by omega
     have e:ag (.mk 5 n s t l fs)=false:=by simp[ag,hn,hs,hl,hf]
     rw[e]
     simp(disch:=first|exact dI|fail) only[bV,Val.pv_mk,hn,hs,hl,hf,push_cast,seval]
   ·have hlI:¬ (l.length:Int)=0:=by omega
    have e:ag (.mk 5 n s t l fs)=false:=by simp[ag,hn,hs,hl]
    rw[e]
    simp(disch:=first|exact dI|fail) only[bV,Val.pv_mk,hn,hs,hl,push_cast,seval]
  ·have e:ag (.mk 5 n s t l fs)=false:=by simp[ag,hn,hs]
   rw[e]
   simp(disch:=first|exact dI|fail) only[bV,Val.pv_mk,hn,hs,push_cast,seval]
 ·have e:ag (.mk 5 n s t l fs)=false:=by simp[ag,hn]
  rw[e]
  simp(disch:=first|exact dI|fail) only[bV,Val.pv_mk,hn,push_cast,seval]
theorem uU (n s:Int)(t:List UInt8)(l:List Val)(fs:List Fld):ak Tryz.prog aD 244 [(Val.mk 6 n s t l fs).pv] (.bool (ag (.mk 6 n s t l fs))):=by
 refine ak.intro dp (by simp[bV]) ?_
 by_cases hs:s=0
 ·by_cases ht:t=[]
  ·by_cases hl:l.length=0
   ·have hlI:(l.length:Int)=0:=by omega
    by_cases hf:fs.length=0
    ·have hfI:(fs.length:Int)=0:=by omega
     have e:ag (.mk 6 n s t l fs)=true:=by simp[ag,hs,ht,hl,hf]
     rw[e]
     simp(disch:=first|exact dI|fail) only[bV,Val.pv_mk,hs,ht,hl,hf,push_cast,seval]
    ·have hfI:¬ (fs.length:Int)=0:=by omega
     have e:ag (.mk 6 n s t l fs)=false:=by simp[ag,hs,ht,hl,hf]
     rw[e]
     simp(disch:=first|exact dI|fail) only[bV,Val.pv_mk,hs,ht,hl,hf,push_cast,seval]
   ·have hlI:¬ (l.length:Int)=0:=by omega
    have e:ag (.mk 6 n s t l fs)=false:=by simp[ag,hs,ht,hl]
    rw[e]
    simp(disch:=first|exact dI|fail) only[bV,Val.pv_mk,hs,ht,hl,push_cast,seval]
  ·have e:ag (.mk 6 n s t l fs)=false:=by simp[ag,hs,ht]
   rw[e]
   simp(disch:=first|exact dI|fail) only[bV,Val.pv_mk,hs,ht,push_cast,seval]
 ·have e:ag (.mk 6 n s t l fs)=false:=by simp[ag,hs]
  rw[e]
  simp(disch:=first|exact dI|fail) only[bV,Val.pv_mk,hs,push_cast,seval]
theorem uT (n s:Int)(t:List UInt8)(l:List Val)(fs:List Fld):ak Tryz.prog aD 244 [(Val.mk 7 n s t l fs).pv] (.bool (ag (.mk 7 n s t l fs))):=by
 refine ak.intro dp (by simp[bV]) ?_
 by_cases hs:s=0
 ·by_cases ht:t=[]
  ·by_cases hl:l.length=0
   ·have hlI:(l.length:Int)=0:=by omega
    by_cases hf:fs.length=0
    ·have hfI:(fs.length:Int)=0:=by omega
     have e:ag (.mk 7 n s t l fs)=true:=by simp[ag,hs,ht,hl,hf]
     rw[e]
     simp(disch:=first|exact dI|fail) only[bV,Val.pv_mk,hs,ht,hl,hf,push_cast,seval]
    ·have hfI:¬ (fs.length:Int)=0:=by omega
     have e:ag (.mk 7 n s t l fs)=false:=by simp[ag,hs,ht,hl,hf]
     rw[e]
     simp(disch:=first|exact dI|fail) only[bV,Val.pv_mk,hs,ht,hl,hf,push_cast,seval]
   ·have hlI:¬ (l.length:Int)=0:=by omega
    have e:ag (.mk 7 n s t l fs)=false:=by simp[ag,hs,ht,hl]
    rw[e]
    simp(disch:=first|exact dI|fail) only[bV,Val.pv_mk,hs,ht,hl,push_cast,seval]
  ·have e:ag (.mk 7 n s t l fs)=false:=by simp[ag,hs,ht]
   rw[e]
   simp(disch:=first|exact dI|fail) only[bV,Val.pv_mk,hs,ht,push_cast,seval]
 ·have e:ag (.mk 7 n s t l fs)=false:=by simp[ag,hs]
  rw[e]
  simp(disch:=first|exact dI|fail) only[bV,Val.pv_mk,hs,push_cast,seval]
theorem uS (n s:Int)(t:List UInt8)(l:List Val)(fs:List Fld):ak Tryz.prog aD 244 [(Val.mk 8 n s t l fs).pv] (.bool (ag (.mk 8 n s t l fs))):=by
 refine ak.intro dp (by simp[bV]) ?_
 by_cases hn:n=0
 ·by_cases hs:s=0
  ·by_cases ht:t=[]
   ·by_cases hf:fs.length=0
    ·have hfI:(fs.length:Int)=0:=by omega
     have e:ag (.mk 8 n s t l fs)=true:=by simp[ag,hn,hs,ht,hf]
     rw[e]
     simp(disch:=first|exact dI|fail) only[bV,Val.pv_mk,hn,hs,ht,hf,push_cast,seval]
    ·have hfI:¬ (fs.length:Int)=0:=by omega
     have e:ag (.mk 8 n s t l fs)=false:=by simp[ag,hn,hs,ht,hf]
     rw[e]
     simp(disch:=first|exact dI|fail) only[bV,Val.pv_mk,hn,hs,ht,hf,push_cast,seval]
   ·have e:ag (.mk 8 n s t l fs)=false:=by simp[ag,hn,hs,ht]
    rw[e]
    simp(disch:=first|exact dI|fail) only[bV,Val.pv_mk,hn,hs,ht,push_cast,seval]
  ·have e:ag (.mk 8 n s t l fs)=false:=by simp[ag,hn,hs]
   rw[e]
   simp(disch:=first|exact dI|fail) only[bV,Val.pv_mk,hn,hs,push_cast,seval]
 ·have e:ag (.mk 8 n s t l fs)=false:=by simp[ag,hn]
  rw[e]
  simp(disch:=first|exact dI|fail) only[bV,Val.pv_mk,hn,push_cast,seval]
theorem uR (n s:Int)(t:List UInt8)(l:List Val)(fs:List Fld):ak Tryz.prog aD 244 [(Val.mk 9 n s t l fs).pv] (.bool (ag (.mk 9 n s t l fs))):=by
 refine ak.intro dp (by simp[bV]) ?_
 by_cases hn:n=0
 ·by_cases hs:s=0
  ·by_cases ht:t=[]
   ·by_cases hl:l.length=0
    ·have hlI:(l.length:Int)=0:=by omega
     have e:ag (.mk 9 n s t l fs)=true:=by simp[ag,hn,hs,ht,hl]
     rw[e]
     simp(disch:=first|exact dI|fail) only[bV,Val.pv_mk,hn,hs,ht,hl,push_cast,seval]
    ·have hlI:¬ (l.length:Int)=0:=by omega
     have e:ag (.mk 9 n s t l fs)=false:=by simp[ag,hn,hs,ht,hl]
     rw[e]
     simp(disch:=first|exact dI|fail) only[bV,Val.pv_mk,hn,hs,ht,hl,push_cast,seval]
   ·have e:ag (.mk 9 n s t l fs)=false:=by simp[ag,hn,hs,ht]
    rw[e]
    simp(disch:=first|exact dI|fail) only[bV,Val.pv_mk,hn,hs,ht,push_cast,seval]
  ·have e:ag (.mk 9 n s t l fs)=false:=by simp[ag,hn,hs]
   rw[e]
   simp(disch:=first|exact dI|fail) only[bV,Val.pv_mk,hn,hs,push_cast,seval]
 ·have e:ag (.mk 9 n s t l fs)=false:=by simp[ag,hn]
  rw[e]
  simp(disch:=first|exact dI|fail) only[bV,Val.pv_mk,hn,push_cast,seval]
theorem q9 (n s:Int)(t:List UInt8)(l:List Val)(fs:List Fld):ak Tryz.prog aD 244 [(Val.mk 10 n s t l fs).pv] (.bool (ag (.mk 10 n s t l fs))):=by
 refine ak.intro dp (by simp[bV]) ?_
 by_cases hn:n=0
 ·by_cases hs:s=0
  ·by_cases hf:fs.length=0
   ·have hfI:(fs.length:Int)=0:=by omega
    have e:ag (.mk 10 n s t l fs)=true:=by simp[ag,hn,hs,hf]
    rw[e]
    simp(disch:=first|exact dI|fail) only[bV,Val.pv_mk,hn,hs,hf,push_cast,seval]
   ·have hfI:¬ (fs.length:Int)=0:=by omega
    have e:ag (.mk 10 n s t l fs)=false:=by simp[ag,hn,hs,hf]
    rw[e]
    simp(disch:=first|exact dI|fail) only[bV,Val.pv_mk,hn,hs,hf,push_cast,seval]
  ·have e:ag (.mk 10 n s t l fs)=false:=by simp[ag,hn,hs]
   rw[e]
   simp(disch:=first|exact dI|fail) only[bV,Val.pv_mk,hn,hs,push_cast,seval]
 ·have e:ag (.mk 10 n s t l fs)=false:=by simp[ag,hn]
  rw[e]
  simp(disch:=first|exact dI|fail) only[bV,Val.pv_mk,hn,push_cast,seval]
theorem FQ (v:Val)(hk:1≤v.kind∧v.kind≤10):ak Tryz.prog aD 244 [v.pv] (.bool (ag v)):=by
 obtain⟨k,n,s,t,l,fs⟩:=v
 simp only[Val.kind] at hk
 have hc:k=1∨k=2∨k=3∨k=4∨k=5∨k=6∨k=7∨k=8∨k=9∨k=10:=by omega
 rcases hc with rfl | rfl | rfl | rfl | rfl | rfl | rfl | rfl | rfl | rfl
 ·exact uZ n s t l fs
 ·exact uY n s t l fs
 ·exact uX n s t l fs
 ·exact uW n s t l fs
 ·exact uV n s t l fs
 ·exact uU n s t l fs
 ·exact uT n s t l fs
 ·exact uS n s t l fs
 ·exact uR n s t l fs
 ·exact q9 n s t l fs
theorem nA (n s:Int)(t:List UInt8)(l:List Val)(fs:List Fld):ak Tryz.prog aD 287 [(Val.mk 1 n s t l fs).pv] (.bool (!ag (.mk 1 n s t l fs))):=by
 refine ak.intro dn (by simp[bU]) ?_
 by_cases hs:s=0
 ·by_cases ht:t=[]
  ·by_cases hl:l.length=0
   ·have hlI:(l.length:Int)=0:=by omega
    by_cases hf:fs.length=0
    ·have hfI:(fs.length:Int)=0:=by omega
     have e:ag (.mk 1 n s t l fs)=true:=by simp[ag,hs,ht,hl,hf]
     rw[e]
     simp(disch:=first|exact dI|fail) only[bU,Bool.not_true,Bool.not_false,Val.pv_mk,hs,ht,hl,hf,push_cast,seval]
    ·have hfI:¬ (fs.length:Int)=0:=by omega
     have e:ag (.mk 1 n s t l fs)=false:=by simp[ag,hs,ht,hl,hf]
     rw[e]
     simp(disch:=first|exact dI|fail) only[bU,Bool.not_true,Bool.not_false,Val.pv_mk,hs,ht,hl,hf,push_cast,seval]
   ·have hlI:¬ (l.length:Int)=0:=by omega
    have e:ag (.mk 1 n s t l fs)=false:=by simp[ag,hs,ht,hl]
    rw[e]
    simp(disch:=first|exact dI|fail) only[bU,Bool.not_true,Bool.not_false,Val.pv_mk,hs,ht,hl,push_cast,seval]
  ·have e:ag (.mk 1 n s t l fs)=false:=by simp[ag,hs,ht]
   rw[e]
   simp(disch:=first|exact dI|fail) only[bU,Bool.not_true,Bool.not_false,Val.pv_mk,hs,ht,push_cast,seval]
 ·have e:ag (.mk 1 n s t l fs)=false:=by simp[ag,hs]
  rw[e]
  simp(disch:=first|exact dI|fail) only[bU,Bool.not_true,Bool.not_false,Val.pv_mk,hs,push_cast,seval]
theorem ny (n s:Int)(t:List UInt8)(l:List Val)(fs:List Fld):ak Tryz.prog aD 287 [(Val.mk 2 n s t l fs).pv] (.bool (!ag (.mk 2 n s t l fs))):=by
 refine ak.intro dn (by simp[bU]) ?_
 by_cases hs:s=0
 ·by_cases ht:t=[]
  ·by_cases hl:l.length=0
   ·have hlI:(l.length:Int)=0:=by omega
    by_cases hf:fs.length=0
    ·have hfI:(fs.length:Int)=0:=by omega
     have e:ag (.mk 2 n s t l fs)=true:=by simp[ag,hs,ht,hl,hf]
     rw[e]
     simp(disch:=first|exact dI|fail) only[bU,Bool.not_true,Bool.not_false,Val.pv_mk,hs,ht,hl,hf,push_cast,seval]
    ·have hfI:¬ (fs.length:Int)=0:=by omega
     have e:ag (.mk 2 n s t l fs)=false:=by simp[ag,hs,ht,hl,hf]
     rw[e]
     simp(disch:=first|exact dI|fail) only[bU,Bool.not_true,Bool.not_false,Val.pv_mk,hs,ht,hl,hf,push_cast,seval]
   ·have hlI:¬ (l.length:Int)=0:=by omega
    have e:ag (.mk 2 n s t l fs)=false:=by simp[ag,hs,ht,hl]
    rw[e]
    simp(disch:=first|exact dI|fail) only[bU,Bool.not_true,Bool.not_false,Val.pv_mk,hs,ht,hl,push_cast,seval]
  ·have e:ag (.mk 2 n s t l fs)=false:=by simp[ag,hs,ht]
   rw[e]
   simp(disch:=first|exact dI|fail) only[bU,Bool.not_true,Bool.not_false,Val.pv_mk,hs,ht,push_cast,seval]
 ·have e:ag (.mk 2 n s t l fs)=false:=by simp[ag,hs]
  rw[e]
  simp(disch:=first|exact dI|fail) only[bU,Bool.not_true,Bool.not_false,Val.pv_mk,hs,push_cast,seval]
theorem nx (n s:Int)(t:List UInt8)(l:List Val)(fs:List Fld):ak Tryz.prog aD 287 [(Val.mk 3 n s t l fs).pv] (.bool (!ag (.mk 3 n s t l fs))):=by
 refine ak.intro dn (by simp[bU]) ?_
 by_cases ht:t=[]
 ·by_cases hl:l.length=0
  ·have hlI:(l.length:Int)=0:=by omega
   by_cases hf:fs.length=0
   ·have hfI:(fs.length:Int)=0:=by omega
    have e:ag (.mk 3 n s t l fs)=true:=by simp[ag,ht,hl,hf]
    rw[e]
    simp(disch:=first|exact dI|fail) only[bU,Bool.not_true,Bool.not_false,Val.pv_mk,ht,hl,hf,push_cast,seval]
   ·have hfI:¬ (fs.length:Int)=0:=by omega
    have e:ag (.mk 3 n s t l fs)=false:=by simp[ag,ht,hl,hf]
    rw[e]
    simp(disch:=first|exact dI|fail) only[bU,Bool.not_true,Bool.not_false,Val.pv_mk,ht,hl,hf,push_cast,seval]
  ·have hlI:¬ (l.length:Int)=0:=by omega
   have e:ag (.mk 3 n s t l fs)=false:=by simp[ag,ht,hl]
   rw[e]
   simp(disch:=first|exact dI|fail) only[bU,Bool.not_true,Bool.not_false,Val.pv_mk,ht,hl,push_cast,seval]
 ·have e:ag (.mk 3 n s t l fs)=false:=by simp[ag,ht]
  rw[e]
  simp(disch:=first|exact dI|fail) only[bU,Bool.not_true,Bool.not_false,Val.pv_mk,ht,push_cast,seval]
theorem nw (n s:Int)(t:List UInt8)(l:List Val)(fs:List Fld):ak Tryz.prog aD 287 [(Val.mk 4 n s t l fs).pv] (.bool (!ag (.mk 4 n s t l fs))):=by
 refine ak.intro dn (by simp[bU]) ?_
 by_cases hn:n=0
 ·by_cases hs:s=0
  ·by_cases hl:l.length=0
   ·have hlI:(l.length:Int)=0:=by omega
    by_cases hf:fs.length=0
    ·have hfI:(fs.length:Int)=0:=by omega
     have e:ag (.mk 4 n s t l fs)=true:=by simp[ag,hn,hs,hl,hf]
     rw[e]
     simp(disch:=first|exact dI|fail) only[bU,Bool.not_true,Bool.not_false,Val.pv_mk,hn,hs,hl,hf,push_cast,seval]
    ·have hfI:¬ (fs.length:Int)=0:=by omega
     have e:ag (.mk 4 n s t l fs)=false:=by simp[ag,hn,hs,hl,hf]
     rw[e]
     simp(disch:=first|exact dI|fail) only[bU,Bool.not_true,Bool.not_false,Val.pv_mk,hn,hs,hl,hf,push_cast,seval]
   ·have hlI:¬ (l.length:Int)=0:=by omega
    have e:ag (.mk 4 n s t l fs)=false:=by simp[ag,hn,hs,hl]
    rw[e]
    simp(disch:=first|exact dI|fail) only[bU,Bool.not_true,Bool.not_false,Val.pv_mk,hn,hs,hl,push_cast,seval]
  ·have e:ag (.mk 4 n s t l fs)=false:=by simp[ag,hn,hs]
   rw[e]
   simp(disch:=first|exact dI|fail) only[bU,Bool.not_true,Bool.not_false,Val.pv_mk,hn,hs,push_cast,seval]
 ·have e:ag (.mk 4 n s t l fs)=false:=by simp[ag,hn]
  rw[e]
  simp(disch:=first|exact dI|fail) only[bU,Bool.not_true,Bool.not_false,Val.pv_mk,hn,push_cast,seval]
theorem nv (n s:Int)(t:List UInt8)(l:List Val)(fs:List Fld):ak Tryz.prog aD 287 [(Val.mk 5 n s t l fs).pv] (.bool (!ag (.mk 5 n s t l fs))):=by
 refine ak.intro dn (by simp[bU]) ?_
 by_cases hn:n=0
 ·by_cases hs:s=0
  ·by_cases hl:l.length=0
   ·have hlI:(l.length:Int)=0:=by omega
    by_cases hf:fs.length=0
    ·have hfI:(fs.length:Int)=0:=by omega
     have e:ag (.mk 5 n s t l fs)=true:=by simp[ag,hn,hs,hl,hf]
     rw[e]
     simp(disch:=first|exact dI|fail) only[bU,Bool.not_true,Bool.not_false,Val.pv_mk,hn,hs,hl,hf,push_cast,seval]
    ·have hfI:¬ (fs.length:Int)=0:=by omega
     have e:ag (.mk 5 n s t l fs)=false:=by simp[ag,hn,hs,hl,hf]
     rw[e]
     simp(disch:=first|exact dI|fail) only[bU,Bool.not_true,Bool.not_false,Val.pv_mk,hn,hs,hl,hf,push_cast,seval]
   ·have hlI:¬ (l.length:Int)=0:=by omega
    have e:ag (.mk 5 n s t l fs)=false:=by simp[ag,hn,hs,hl]
    rw[e]
    simp(disch:=first|exact dI|fail) only[bU,Bool.not_true,Bool.not_false,Val.pv_mk,hn,hs,hl,push_cast,seval]
  ·have e:ag (.mk 5 n s t l fs)=false:=by simp[ag,hn,hs]
   rw[e]
   simp(disch:=first|exact dI|fail) only[bU,Bool.not_true,Bool.not_false,Val.pv_mk,hn,hs,push_cast,seval]
 ·have e:ag (.mk 5 n s t l fs)=false:=by simp[ag,hn]
  rw[e]
  simp(disch:=first|exact dI|fail) only[bU,Bool.not_true,Bool.not_false,Val.pv_mk,hn,push_cast,seval]
theorem nt (n s:Int)(t:List UInt8)(l:List Val)(fs:List Fld):ak Tryz.prog aD 287 [(Val.mk 6 n s t l fs).pv] (.bool (!ag (.mk 6 n s t l fs))):=by
 refine ak.intro dn (by simp[bU]) ?_
 by_cases hs:s=0
 ·by_cases ht:t=[]
  ·by_cases hl:l.length=0
   ·have hlI:(l.length:Int)=0:=by omega
    by_cases hf:fs.length=0
    ·have hfI:(fs.length:Int)=0:=by omega
     have e:ag (.mk 6 n s t l fs)=true:=by simp[ag,hs,ht,hl,hf]
     rw[e]
     simp(disch:=first|exact dI|fail) only[bU,Bool.not_true,Bool.not_false,Val.pv_mk,hs,ht,hl,hf,push_cast,seval]
    ·have hfI:¬ (fs.length:Int)=0:=by omega
     have e:ag (.mk 6 n s t l fs)=false:=by simp[ag,hs,ht,hl,hf]
     rw[e]
     simp(disch:=first|exact dI|fail) only[bU,Bool.not_true,Bool.not_false,Val.pv_mk,hs,ht,hl,hf,push_cast,seval]
   ·have hlI:¬ (l.length:Int)=0:=by omega
    have e:ag (.mk 6 n s t l fs)=false:=by simp[ag,hs,ht,hl]
    rw[e]
    simp(disch:=first|exact dI|fail) only[bU,Bool.not_true,Bool.not_false,Val.pv_mk,hs,ht,hl,push_cast,seval]
  ·have e:ag (.mk 6 n s t l fs)=false:=by simp[ag,hs,ht]
   rw[e]
   simp(disch:=first|exact dI|fail) only[bU,Bool.not_true,Bool.not_false,Val.pv_mk,hs,ht,push_cast,seval]
 ·have e:ag (.mk 6 n s t l fs)=false:=by simp[ag,hs]
  rw[e]
  simp(disch:=first|exact dI|fail) only[bU,Bool.not_true,Bool.not_false,Val.pv_mk,hs,push_cast,seval]
theorem nr (n s:Int)(t:List UInt8)(l:List Val)(fs:List Fld):ak Tryz.prog aD 287 [(Val.mk 7 n s t l fs).pv] (.bool (!ag (.mk 7 n s t l fs))):=by
 refine ak.intro dn (by simp[bU]) ?_
 by_cases hs:s=0
 ·by_cases ht:t=[]
  ·by_cases hl:l.length=0
   ·have hlI:(l.length:Int)=0:=by omega
    by_cases hf:fs.length=0
    ·have hfI:(fs.length:Int)=0:=by omega
     have e:ag (.mk 7 n s t l fs)=true:=by simp[ag,hs,ht,hl,hf]
     rw[e]
     simp(disch:=first|exact dI|fail) only[bU,Bool.not_true,Bool.not_false,Val.pv_mk,hs,ht,hl,hf,push_cast,seval]
    ·have hfI:¬ (fs.length:Int)=0:=by omega
     have e:ag (.mk 7 n s t l fs)=false:=by simp[ag,hs,ht,hl,hf]
     rw[e]
     simp(disch:=first|exact dI|fail) only[bU,Bool.not_true,Bool.not_false,Val.pv_mk,hs,ht,hl,hf,push_cast,seval]
   ·have hlI:¬ (l.length:Int)=0:=by omega
    have e:ag (.mk 7 n s t l fs)=false:=by simp[ag,hs,ht,hl]
    rw[e]
    simp(disch:=first|exact dI|fail) only[bU,Bool.not_true,Bool.not_false,Val.pv_mk,hs,ht,hl,push_cast,seval]
  ·have e:ag (.mk 7 n s t l fs)=false:=by simp[ag,hs,ht]
   rw[e]
   simp(disch:=first|exact dI|fail) only[bU,Bool.not_true,Bool.not_false,Val.pv_mk,hs,ht,push_cast,seval]
 ·have e:ag (.mk 7 n s t l fs)=false:=by simp[ag,hs]
  rw[e]
  simp(disch:=first|exact dI|fail) only[bU,Bool.not_true,Bool.not_false,Val.pv_mk,hs,push_cast,seval]
theorem nq (n s:Int)(t:List UInt8)(l:List Val)(fs:List Fld):ak Tryz.prog aD 287 [(Val.mk 8 n s t l fs).pv] (.bool (!ag (.mk 8 n s t l fs))):=by
 refine ak.intro dn (by simp[bU]) ?_
 by_cases hn:n=0
 ·by_cases hs:s=0
  ·by_cases ht:t=[]
   ·by_cases hf:fs.length=0
    ·have hfI:(fs.length:Int)=0:=by omega
     have e:ag (.mk 8 n s t l fs)=true:=by simp[ag,hn,hs,ht,hf]
     rw[e]
     simp(disch:=first|exact dI|fail) only[bU,Bool.not_true,Bool.not_false,Val.pv_mk,hn,hs,ht,hf,push_cast,seval]
    ·have hfI:¬ (fs.length:Int)=0:=by omega
     have e:ag (.mk 8 n s t l fs)=false:=by simp[ag,hn,hs,ht,hf]
     rw[e]
     simp(disch:=first|exact dI|fail) only[bU,Bool.not_true,Bool.not_false,Val.pv_mk,hn,hs,ht,hf,push_cast,seval]
   ·have e:ag (.mk 8 n s t l fs)=false:=by simp[ag,hn,hs,ht]
    rw[e]
    simp(disch:=first|exact dI|fail) only[bU,Bool.not_true,Bool.not_false,Val.pv_mk,hn,hs,ht,push_cast,seval]
  ·have e:ag (.mk 8 n s t l fs)=false:=by simp[ag,hn,hs]
   rw[e]
   simp(disch:=first|exact dI|fail) only[bU,Bool.not_true,Bool.not_false,Val.pv_mk,hn,hs,push_cast,seval]
 ·have e:ag (.mk 8 n s t l fs)=false:=by simp[ag,hn]
  rw[e]
  simp(disch:=first|exact dI|fail) only[bU,Bool.not_true,Bool.not_false,Val.pv_mk,hn,push_cast,seval]
theorem np (n s:Int)(t:List UInt8)(l:List Val)(fs:List Fld):ak Tryz.prog aD 287 [(Val.mk 9 n s t l fs).pv] (.bool (!ag (.mk 9 n s t l fs))):=by
 refine ak.intro dn (by simp[bU]) ?_
 by_cases hn:n=0
 ·by_cases hs:s=0
  ·by_cases ht:t=[]
   ·by_cases hl:l.length=0
    ·have hlI:(l.length:Int)=0:=by omega
     have e:ag (.mk 9 n s t l fs)=true:=by simp[ag,hn,hs,ht,hl]
     rw[e]
     simp(disch:=first|exact dI|fail) only[bU,Bool.not_true,Bool.not_false,Val.pv_mk,hn,hs,ht,hl,push_cast,seval]
    ·have hlI:¬ (l.length:Int)=0:=by omega
     have e:ag (.mk 9 n s t l fs)=false:=by simp[ag,hn,hs,ht,hl]
     rw[e]
     simp(disch:=first|exact dI|fail) only[bU,Bool.not_true,Bool.not_false,Val.pv_mk,hn,hs,ht,hl,push_cast,seval]
   ·have e:ag (.mk 9 n s t l fs)=false:=by simp[ag,hn,hs,ht]
    rw[e]
    simp(disch:=first|exact dI|fail) only[bU,Bool.not_true,Bool.not_false,Val.pv_mk,hn,hs,ht,push_cast,seval]
  ·have e:ag (.mk 9 n s t l fs)=false:=by simp[ag,hn,hs]
   rw[e]
   simp(disch:=first|exact dI|fail) only[bU,Bool.not_true,Bool.not_false,Val.pv_mk,hn,hs,push_cast,seval]
 ·have e:ag (.mk 9 n s t l fs)=false:=by simp[ag,hn]
  rw[e]
  simp(disch:=first|exact dI|fail) only[bU,Bool.not_true,Bool.not_false,Val.pv_mk,hn,push_cast,seval]
theorem lh (n s:Int)(t:List UInt8)(l:List Val)(fs:List Fld):ak Tryz.prog aD 287 [(Val.mk 10 n s t l fs).pv] (.bool (!ag (.mk 10 n s t l fs))):=by
 refine ak.intro dn (by simp[bU]) ?_
 by_cases hn:n=0
 ·by_cases hs:s=0
  ·by_cases hf:fs.length=0
   ·have hfI:(fs.length:Int)=0:=by omega
    have e:ag (.mk 10 n s t l fs)=true:=by simp[ag,hn,hs,hf]
    rw[e]
    simp(disch:=first|exact dI|fail) only[bU,Bool.not_true,Bool.not_false,Val.pv_mk,hn,hs,hf,push_cast,seval]
   ·have hfI:¬ (fs.length:Int)=0:=by omega
    have e:ag (.mk 10 n s t l fs)=false:=by simp[ag,hn,hs,hf]
    rw[e]
    simp(disch:=first|exact dI|fail) only[bU,Bool.not_true,Bool.not_false,Val.pv_mk,hn,hs,hf,push_cast,seval]
  ·have e:ag (.mk 10 n s t l fs)=false:=by simp[ag,hn,hs]
   rw[e]
   simp(disch:=first|exact dI|fail) only[bU,Bool.not_true,Bool.not_false,Val.pv_mk,hn,hs,push_cast,seval]
 ·have e:ag (.mk 10 n s t l fs)=false:=by simp[ag,hn]
  rw[e]
  simp(disch:=first|exact dI|fail) only[bU,Bool.not_true,Bool.not_false,Val.pv_mk,hn,push_cast,seval]
theorem bC (v:Val)(hk:1≤v.kind∧v.kind≤10):ak Tryz.prog aD 287 [v.pv] (.bool (!ag v)):=by
 obtain⟨k,n,s,t,l,fs⟩:=v
 simp only[Val.kind] at hk
 have hc:k=1∨k=2∨k=3∨k=4∨k=5∨k=6∨k=7∨k=8∨k=9∨k=10:=by omega
 rcases hc with rfl | rfl | rfl | rfl | rfl | rfl | rfl | rfl | rfl | rfl
 ·exact nA n s t l fs
 ·exact ny n s t l fs
 ·exact nx n s t l fs
 ·exact nw n s t l fs
 ·exact nv n s t l fs
 ·exact nt n s t l fs
 ·exact nr n s t l fs
 ·exact nq n s t l fs
 ·exact np n s t l fs
 ·exact lh n s t l fs
end Go.Proofs.YtbaaokocnegdoaaGreatDoor
