/- A part of the proof for DelimitedRepresentableCardSaid. -/
import Derived.Test.YtbaaokocnegdoaaGreatDoorRepVR2
import Derived.Test.YtbaaokocnegdoaaGreatDoorRepWG
set_option maxRecDepth 100000
set_option linter.unusedVariables false
set_option linter.unusedSimpArgs false
namespace Go.Proofs.YtbaaokocnegdoaaGreatDoor
open Go Go.Ab
attribute [local irreducible] vc
theorem jf (v:Val):am Tryz.prog aE 243 [v.pv] (.clo 281 [] [.eptr [v.pv] 0 0]):=by
 obtain⟨k,n,s,t,l,fs⟩:=v
 refine am.intro Ki (by simp[Pz]) ?_
 simp(disch:=first|exact dI|fail) only[Pz,Val.pv_mk,push_cast,seval]
def wT:PV:=.agg [.nilf,.clo 268 [] [],.clo 270 [] [],.clo 271 [] [],.clo 273 [] [],.clo 275 [] [],.clo 276 [] [],.clo 277 [] [],.clo 278 [] [],.clo 279 [] [],.clo 280 [] []]
theorem yv (f:Nat)(a b:List PV):PV.one (.clo f a b)=true:=rfl
theorem qP:PV.one .nilf=true:=rfl
theorem CL:am Tryz.prog aE 242 [] wT:=by
 refine am.intro Kj (by simp[PA]) ?_
 simp(disch:=first|exact dI|fail) only[PA,wT,yv,qP,push_cast,seval]
theorem cQ (n a b:Int):am Tryz.prog aE 269 [.int .i64 n,.int .i64 a,.int .i64 b] (.int .i64 (if n<a∨b<n then 2 else 0)):=by
 refine am.intro J8 (by simp[NE]) ?_
 by_cases h1:n<a
 ·rw[if_pos (.inl h1)]
  simp(disch:=first|exact dI|fail) only[NE,push_cast,seval]
 ·by_cases h2:b<n
  ·rw[if_pos (.inr h2)]
   simp(disch:=first|exact dI|fail) only[NE,push_cast,seval]
  ·rw[if_neg (by omega)]
   simp(disch:=first|exact dI|fail) only[NE,push_cast,seval]
theorem iS (n m e:Int):am Tryz.prog aE 274 [.int .i64 n,.int .i64 m,.int .i64 e] (.int .i64 (if m<n then e else 0)):=by
 refine am.intro J3 (by simp[N6]) ?_
 by_cases h1:m<n
 ·rw[if_pos h1]
  simp(disch:=first|exact dI|fail) only[N6,push_cast,seval]
 ·rw[if_neg h1]
  simp(disch:=first|exact dI|fail) only[N6,push_cast,seval]
def aN:Val→Bool
 | .mk k n s t l fs=>decide (k=0)&&(decide (n=0)&&(decide (s=0)&&(decide (t=[])&&(decide (l.length=0)&&decide (fs.length=0)))))
def ak:Val→Bool
 | .mk k n s t l fs=>(decide (k=1∨k=2∨k=6∨k=7∨k=3)||decide (n=0))&&((decide (k=3)||decide (s=0))&&((decide (k=4∨k=5∨k=10)||decide (t=[]))&&((decide (k=8∨k=10)||decide (l.length=0))&&(decide (k=9)||decide (fs.length=0)))))
theorem Is (v:Val):am Tryz.prog aE 111 [v.pv] (.bool (aN v)):=by
 obtain⟨k,n,s,t,l,fs⟩:=v
 refine am.intro FV (by simp[lK]) ?_
 by_cases hk:k=0
 ·by_cases hn:n=0
  ·by_cases hs:s=0
   ·by_cases ht:t=[]
    ·by_cases hl:l.length=0
     ·have hlI:(l.length:Int)=0:=by omega
      by_cases hf:fs.length=0
      ·have hfI:(fs.length:Int)=0:=by omega
       have e:aN (.mk k n s t l fs)=true:=by simp[aN,hk,hn,hs,ht,hl,hf]
       rw[e]
       simp(disch:=first|exact dI|fail) only[lK,Val.pv_mk,hk,hn,hs,ht,hl,hf,push_cast,seval]
      ·have hfI:¬ (fs.length:Int)=0:=by omega
       have e:aN (.mk k n s t l fs)=false:=by simp[aN,hk,hn,hs,ht,hl,hf]
       rw[e]
       simp(disch:=first|exact dI|fail) only[lK,Val.pv_mk,hk,hn,hs,ht,hl,hf,push_cast,seval]
     ·have hlI:¬ (l.length:Int)=0:=by omega
      have e:aN (.mk k n s t l fs)=false:=by simp[aN,hk,hn,hs,ht,hl]
      rw[e]
      simp(disch:=first|exact dI|fail) only[lK,Val.pv_mk,hk,hn,hs,ht,hl,push_cast,seval]
    ·have e:aN (.mk k n s t l fs)=false:=by simp[aN,hk,hn,hs,ht]
     rw[e]
     simp(disch:=first|exact dI|fail) only[lK,Val.pv_mk,hk,hn,hs,ht,push_cast,seval]
   ·have e:aN (.mk k n s t l fs)=false:=by simp[aN,hk,hn,hs]
    rw[e]
    simp(disch:=first|exact dI|fail) only[lK,Val.pv_mk,hk,hn,hs,push_cast,seval]
  ·have e:aN (.mk k n s t l fs)=false:=by simp[aN,hk,hn]
   rw[e]
   simp(disch:=first|exact dI|fail) only[lK,Val.pv_mk,hk,hn,push_cast,seval]
 ·have e:aN (.mk k n s t l fs)=false:=by simp[aN,hk]
  rw[e]
  simp(disch:=first|exact dI|fail) only[lK,Val.pv_mk,hk,push_cast,seval]
theorem cU (v:Val):am Tryz.prog aE 286 [v.pv] (.bool (aN v)):=by
 obtain⟨k,n,s,t,l,fs⟩:=v
 refine am.intro JS (by simp[FP]) ?_
 by_cases hk:k=0
 ·by_cases hn:n=0
  ·by_cases hs:s=0
   ·by_cases ht:t=[]
    ·by_cases hl:l.length=0
     ·have hlI:(l.length:Int)=0:=by omega
      by_cases hf:fs.length=0
      ·have hfI:(fs.length:Int)=0:=by omega
       have e:aN (.mk k n s t l fs)=true:=by simp[aN,hk,hn,hs,ht,hl,hf]
       rw[e]
       simp(disch:=first|exact dI|fail) only[FP,Val.pv_mk,hk,hn,hs,ht,hl,hf,push_cast,seval]
      ·have hfI:¬ (fs.length:Int)=0:=by omega
       have e:aN (.mk k n s t l fs)=false:=by simp[aN,hk,hn,hs,ht,hl,hf]
       rw[e]
       simp(disch:=first|exact dI|fail) only[FP,Val.pv_mk,hk,hn,hs,ht,hl,hf,push_cast,seval]
     ·have hlI:¬ (l.length:Int)=0:=by omega
      have e:aN (.mk k n s t l fs)=false:=by simp[aN,hk,hn,hs,ht,hl]
      rw[e]
      simp(disch:=first|exact dI|fail) only[FP,Val.pv_mk,hk,hn,hs,ht,hl,push_cast,seval]
    ·have e:aN (.mk k n s t l fs)=false:=by simp[aN,hk,hn,hs,ht]
     rw[e]
     simp(disch:=first|exact dI|fail) only[FP,Val.pv_mk,hk,hn,hs,ht,push_cast,seval]
   ·have e:aN (.mk k n s t l fs)=false:=by simp[aN,hk,hn,hs]
    rw[e]
    simp(disch:=first|exact dI|fail) only[FP,Val.pv_mk,hk,hn,hs,push_cast,seval]
  ·have e:aN (.mk k n s t l fs)=false:=by simp[aN,hk,hn]
   rw[e]
   simp(disch:=first|exact dI|fail) only[FP,Val.pv_mk,hk,hn,push_cast,seval]
 ·have e:aN (.mk k n s t l fs)=false:=by simp[aN,hk]
  rw[e]
  simp(disch:=first|exact dI|fail) only[FP,Val.pv_mk,hk,push_cast,seval]
theorem wn (n s:Int)(t:List UInt8)(l:List Val)(fs:List Fld):am Tryz.prog aE 244 [(Val.mk 1 n s t l fs).pv] (.bool (ak (.mk 1 n s t l fs))):=by
 refine am.intro dD (by simp[cb]) ?_
 by_cases hs:s=0
 ·by_cases ht:t=[]
  ·by_cases hl:l.length=0
   ·have hlI:(l.length:Int)=0:=by omega
    by_cases hf:fs.length=0
    ·have hfI:(fs.length:Int)=0:=by omega
     have e:ak (.mk 1 n s t l fs)=true:=by simp[ak,hs,ht,hl,hf]
     rw[e]
     simp(disch:=first|exact dI|fail) only[cb,Val.pv_mk,hs,ht,hl,hf,push_cast,seval]
    ·have hfI:¬ (fs.length:Int)=0:=by omega
     have e:ak (.mk 1 n s t l fs)=false:=by simp[ak,hs,ht,hl,hf]
     rw[e]
     simp(disch:=first|exact dI|fail) only[cb,Val.pv_mk,hs,ht,hl,hf,push_cast,seval]
   ·have hlI:¬ (l.length:Int)=0:=by omega
    have e:ak (.mk 1 n s t l fs)=false:=by simp[ak,hs,ht,hl]
    rw[e]
    simp(disch:=first|exact dI|fail) only[cb,Val.pv_mk,hs,ht,hl,push_cast,seval]
  ·have e:ak (.mk 1 n s t l fs)=false:=by simp[ak,hs,ht]
   rw[e]
   simp(disch:=first|exact dI|fail) only[cb,Val.pv_mk,hs,ht,push_cast,seval]
 ·have e:ak (.mk 1 n s t l fs)=false:=by simp[ak,hs]
  rw[e]
  simp(disch:=first|exact dI|fail) only[cb,Val.pv_mk,hs,push_cast,seval]
theorem wm (n s:Int)(t:List UInt8)(l:List Val)(fs:List Fld):am Tryz.prog aE 244 [(Val.mk 2 n s t l fs).pv] (.bool (ak (.mk 2 n s t l fs))):=by
 refine am.intro dD (by simp[cb]) ?_
 by_cases hs:s=0
 ·by_cases ht:t=[]
  ·by_cases hl:l.length=0
   ·have hlI:(l.length:Int)=0:=by omega
    by_cases hf:fs.length=0
    ·have hfI:(fs.length:Int)=0:=by omega
     have e:ak (.mk 2 n s t l fs)=true:=by simp[ak,hs,ht,hl,hf]
     rw[e]
     simp(disch:=first|exact dI|fail) only[cb,Val.pv_mk,hs,ht,hl,hf,push_cast,seval]
    ·have hfI:¬ (fs.length:Int)=0:=by omega
     have e:ak (.mk 2 n s t l fs)=false:=by simp[ak,hs,ht,hl,hf]
     rw[e]
     simp(disch:=first|exact dI|fail) only[cb,Val.pv_mk,hs,ht,hl,hf,push_cast,seval]
   ·have hlI:¬ (l.length:Int)=0:=by omega
    have e:ak (.mk 2 n s t l fs)=false:=by simp[ak,hs,ht,hl]
    rw[e]
    simp(disch:=first|exact dI|fail) only[cb,Val.pv_mk,hs,ht,hl,push_cast,seval]
  ·have e:ak (.mk 2 n s t l fs)=false:=by simp[ak,hs,ht]
   rw[e]
   simp(disch:=first|exact dI|fail) only[cb,Val.pv_mk,hs,ht,push_cast,seval]
 ·have e:ak (.mk 2 n s t l fs)=false:=by simp[ak,hs]
  rw[e]
  simp(disch:=first|exact dI|fail) only[cb,Val.pv_mk,hs,push_cast,seval]
theorem wl (n s:Int)(t:List UInt8)(l:List Val)(fs:List Fld):am Tryz.prog aE 244 [(Val.mk 3 n s t l fs).pv] (.bool (ak (.mk 3 n s t l fs))):=by
 refine am.intro dD (by simp[cb]) ?_
 by_cases ht:t=[]
 ·by_cases hl:l.length=0
  ·have hlI:(l.length:Int)=0:=by omega
   by_cases hf:fs.length=0
   ·have hfI:(fs.length:Int)=0:=by omega
    have e:ak (.mk 3 n s t l fs)=true:=by simp[ak,ht,hl,hf]
    rw[e]
    simp(disch:=first|exact dI|fail) only[cb,Val.pv_mk,ht,hl,hf,push_cast,seval]
   ·have hfI:¬ (fs.length:Int)=0:=by omega
    have e:ak (.mk 3 n s t l fs)=false:=by simp[ak,ht,hl,hf]
    rw[e]
    simp(disch:=first|exact dI|fail) only[cb,Val.pv_mk,ht,hl,hf,push_cast,seval]
  ·have hlI:¬ (l.length:Int)=0:=by omega
   have e:ak (.mk 3 n s t l fs)=false:=by simp[ak,ht,hl]
   rw[e]
   simp(disch:=first|exact dI|fail) only[cb,Val.pv_mk,ht,hl,push_cast,seval]
 ·have e:ak (.mk 3 n s t l fs)=false:=by simp[ak,ht]
  rw[e]
  simp(disch:=first|exact dI|fail) only[cb,Val.pv_mk,ht,push_cast,seval]
theorem wk (n s:Int)(t:List UInt8)(l:List Val)(fs:List Fld):am Tryz.prog aE 244 [(Val.mk 4 n s t l fs).pv] (.bool (ak (.mk 4 n s t l fs))):=by
 refine am.intro dD (by simp[cb]) ?_
 by_cases hn:n=0
 ·by_cases hs:s=0
  ·by_cases hl:l.length=0
   ·have hlI:(l.length:Int)=0:=by omega
    by_cases hf:fs.length=0
    ·have hfI:(fs.length:Int)=0:=by omega
     have e:ak (.mk 4 n s t l fs)=true:=by simp[ak,hn,hs,hl,hf]
     rw[e]
     simp(disch:=first|exact dI|fail) only[cb,Val.pv_mk,hn,hs,hl,hf,push_cast,seval]
    ·have hfI:¬ (fs.length:Int)=0:=by omega
     have e:ak (.mk 4 n s t l fs)=false:=by simp[ak,hn,hs,hl,hf]
     rw[e]
     simp(disch:=first|exact dI|fail) only[cb,Val.pv_mk,hn,hs,hl,hf,push_cast,seval]
   ·have hlI:¬ (l.length:Int)=0:=by omega
    have e:ak (.mk 4 n s t l fs)=false:=by simp[ak,hn,hs,hl]
    rw[e]
    simp(disch:=first|exact dI|fail) only[cb,Val.pv_mk,hn,hs,hl,push_cast,seval]
  ·have e:ak (.mk 4 n s t l fs)=false:=by simp[ak,hn,hs]
   rw[e]
   simp(disch:=first|exact dI|fail) only[cb,Val.pv_mk,hn,hs,push_cast,seval]
 ·have e:ak (.mk 4 n s t l fs)=false:=by simp[ak,hn]
  rw[e]
  simp(disch:=first|exact dI|fail) only[cb,Val.pv_mk,hn,push_cast,seval]
theorem wj (n s:Int)(t:List UInt8)(l:List Val)(fs:List Fld):am Tryz.prog aE 244 [(Val.mk 5 n s t l fs).pv] (.bool (ak (.mk 5 n s t l fs))):=by
 refine am.intro dD (by simp[cb]) ?_
 by_cases hn:n=0
 ·by_cases hs:s=0
  ·by_cases hl:l.length=0
   ·have hlI:(l.length:Int)=0:=by omega
    by_cases hf:fs.length=0
    ·have hfI:(fs.length:Int)=0:=by omega
     have e:ak (.mk 5 n s t l fs)=true:=by simp[ak,hn,hs,hl,hf]
     rw[e]
     simp(disch:=first|exact dI|fail) only[cb,Val.pv_mk,hn,hs,hl,hf,push_cast,seval]
    ·have hfI:¬ (fs.length:Int)=0:=by omega
     have e:ak (.mk 5 n s t l fs)=false:=by simp[ak,hn,hs,hl,hf]
     rw[e]
     simp(disch:=first|exact dI|fail) only[cb,Val.pv_mk,hn,hs,hl,hf,push_cast,seval]
   ·have hlI:¬ (l.length:Int)=0:=by omega
    have e:ak (.mk 5 n s t l fs)=false:=by simp[ak,hn,hs,hl]
    rw[e]
    simp(disch:=first|exact dI|fail) only[cb,Val.pv_mk,hn,hs,hl,push_cast,seval]
  ·have e:ak (.mk 5 n s t l fs)=false:=by simp[ak,hn,hs]
   rw[e]
   simp(disch:=first|exact dI|fail) only[cb,Val.pv_mk,hn,hs,push_cast,seval]
 ·have e:ak (.mk 5 n s t l fs)=false:=by simp[ak,hn]
  rw[e]
  simp(disch:=first|exact dI|fail) only[cb,Val.pv_mk,hn,push_cast,seval]
theorem wi (n s:Int)(t:List UInt8)(l:List Val)(fs:List Fld):am Tryz.prog aE 244 [(Val.mk 6 n s t l fs).pv] (.bool (ak (.mk 6 n s t l fs))):=by
 refine am.intro dD (by simp[cb]) ?_
 by_cases hs:s=0
 ·by_cases ht:t=[]
  ·by_cases hl:l.length=0
   ·have hlI:(l.length:Int)=0:=by omega
    by_cases hf:fs.length=0
    ·have hfI:(fs.length:Int)=0:=by omega
     have e:ak (.mk 6 n s t l fs)=true:=by simp[ak,hs,ht,hl,hf]
     rw[e]
     simp(disch:=first|exact dI|fail) only[cb,Val.pv_mk,hs,ht,hl,hf,push_cast,seval]
    ·have hfI:¬ (fs.length:Int)=0:=by omega
     have e:ak (.mk 6 n s t l fs)=false:=by simp[ak,hs,ht,hl,hf]
     rw[e]
     simp(disch:=first|exact dI|fail) only[cb,Val.pv_mk,hs,ht,hl,hf,push_cast,seval]
   ·have hlI:¬ (l.length:Int)=0:=by omega
    have e:ak (.mk 6 n s t l fs)=false:=by simp[ak,hs,ht,hl]
    rw[e]
    simp(disch:=first|exact dI|fail) only[cb,Val.pv_mk,hs,ht,hl,push_cast,seval]
  ·have e:ak (.mk 6 n s t l fs)=false:=by simp[ak,hs,ht]
   rw[e]
   simp(disch:=first|exact dI|fail) only[cb,Val.pv_mk,hs,ht,push_cast,seval]
 ·have e:ak (.mk 6 n s t l fs)=false:=by simp[ak,hs]
  rw[e]
  simp(disch:=first|exact dI|fail) only[cb,Val.pv_mk,hs,push_cast,seval]
theorem wh (n s:Int)(t:List UInt8)(l:List Val)(fs:List Fld):am Tryz.prog aE 244 [(Val.mk 7 n s t l fs).pv] (.bool (ak (.mk 7 n s t l fs))):=by
 refine am.intro dD (by simp[cb]) ?_
 by_cases hs:s=0
 ·by_cases ht:t=[]
  ·by_cases hl:l.length=0
   ·have hlI:(l.length:Int)=0:=by omega
    by_cases hf:fs.length=0
    ·have hfI:(fs.length:Int)=0:=by omega
     have e:ak (.mk 7 n s t l fs)=true:=by simp[ak,hs,ht,hl,hf]
     rw[e]
     simp(disch:=first|exact dI|fail) only[cb,Val.pv_mk,hs,ht,hl,hf,push_cast,seval]
    ·have hfI:¬ (fs.length:Int)=0:=by omega
     have e:ak (.mk 7 n s t l fs)=false:=by simp[ak,hs,ht,hl,hf]
     rw[e]
     simp(disch:=first|exact dI|fail) only[cb,Val.pv_mk,hs,ht,hl,hf,push_cast,seval]
   ·have hlI:¬ (l.length:Int)=0:=by omega
    have e:ak (.mk 7 n s t l fs)=false:=by simp[ak,hs,ht,hl]
    rw[e]
    simp(disch:=first|exact dI|fail) only[cb,Val.pv_mk,hs,ht,hl,push_cast,seval]
  ·have e:ak (.mk 7 n s t l fs)=false:=by simp[ak,hs,ht]
   rw[e]
   simp(disch:=first|exact dI|fail) only[cb,Val.pv_mk,hs,ht,push_cast,seval]
 ·have e:ak (.mk 7 n s t l fs)=false:=by simp[ak,hs]
  rw[e]
  simp(disch:=first|exact dI|fail) only[cb,Val.pv_mk,hs,push_cast,seval]
theorem wg (n s:Int)(t:List UInt8)(l:List Val)(fs:List Fld):am Tryz.prog aE 244 [(Val.mk 8 n s t l fs).pv] (.bool (ak (.mk 8 n s t l fs))):=by
 refine am.intro dD (by simp[cb]) ?_
 by_cases hn:n=0
 ·by_cases hs:s=0
  ·by_cases ht:t=[]
   ·by_cases hf:fs.length=0
    ·have hfI:(fs.length:Int)=0:=by omega
     have e:ak (.mk 8 n s t l fs)=true:=by simp[ak,hn,hs,ht,hf]
     rw[e]
     simp(disch:=first|exact dI|fail) only[cb,Val.pv_mk,hn,hs,ht,hf,push_cast,seval]
    ·have hfI:¬ (fs.length:Int)=0:=by omega
     have e:ak (.mk 8 n s t l fs)=false:=by simp[ak,hn,hs,ht,hf]
     rw[e]
     simp(disch:=first|exact dI|fail) only[cb,Val.pv_mk,hn,hs,ht,hf,push_cast,seval]
   ·have e:ak (.mk 8 n s t l fs)=false:=by simp[ak,hn,hs,ht]
    rw[e]
    simp(disch:=first|exact dI|fail) only[cb,Val.pv_mk,hn,hs,ht,push_cast,seval]
  ·have e:ak (.mk 8 n s t l fs)=false:=by simp[ak,hn,hs]
   rw[e]
   simp(disch:=first|exact dI|fail) only[cb,Val.pv_mk,hn,hs,push_cast,seval]
 ·have e:ak (.mk 8 n s t l fs)=false:=by simp[ak,hn]
  rw[e]
  simp(disch:=first|exact dI|fail) only[cb,Val.pv_mk,hn,push_cast,seval]
theorem we (n s:Int)(t:List UInt8)(l:List Val)(fs:List Fld):am Tryz.prog aE 244 [(Val.mk 9 n s t l fs).pv] (.bool (ak (.mk 9 n s t l fs))):=by
 refine am.intro dD (by simp[cb]) ?_
 by_cases hn:n=0
 ·by_cases hs:s=0
  ·by_cases ht:t=[]
   ·by_cases hl:l.length=0
    ·have hlI:(l.length:Int)=0:=by omega
     have e:ak (.mk 9 n s t l fs)=true:=by simp[ak,hn,hs,ht,hl]
     rw[e]
     simp(disch:=first|exact dI|fail) only[cb,Val.pv_mk,hn,hs,ht,hl,push_cast,seval]
    ·have hlI:¬ (l.length:Int)=0:=by omega
     have e:ak (.mk 9 n s t l fs)=false:=by simp[ak,hn,hs,ht,hl]
     rw[e]
     simp(disch:=first|exact dI|fail) only[cb,Val.pv_mk,hn,hs,ht,hl,push_cast,seval]
   ·have e:ak (.mk 9 n s t l fs)=false:=by simp[ak,hn,hs,ht]
    rw[e]
    simp(disch:=first|exact dI|fail) only[cb,Val.pv_mk,hn,hs,ht,push_cast,seval]
  ·have e:ak (.mk 9 n s t l fs)=false:=by simp[ak,hn,hs]
   rw[e]
   simp(disch:=first|exact dI|fail) only[cb,Val.pv_mk,hn,hs,push_cast,seval]
 ·have e:ak (.mk 9 n s t l fs)=false:=by simp[ak,hn]
  rw[e]
  simp(disch:=first|exact dI|fail) only[cb,Val.pv_mk,hn,push_cast,seval]
theorem rZ (n s:Int)(t:List UInt8)(l:List Val)(fs:List Fld):am Tryz.prog aE 244 [(Val.mk 10 n s t l fs).pv] (.bool (ak (.mk 10 n s t l fs))):=by
 refine am.intro dD (by simp[cb]) ?_
 by_cases hn:n=0
 ·by_cases hs:s=0
  ·by_cases hf:fs.length=0
   ·have hfI:(fs.length:Int)=0:=by omega
    have e:ak (.mk 10 n s t l fs)=true:=by simp[ak,hn,hs,hf]
    rw[e]
    simp(disch:=first|exact dI|fail) only[cb,Val.pv_mk,hn,hs,hf,push_cast,seval]
   ·have hfI:¬ (fs.length:Int)=0:=by omega
    have e:ak (.mk 10 n s t l fs)=false:=by simp[ak,hn,hs,hf]
    rw[e]
    simp(disch:=first|exact dI|fail) only[cb,Val.pv_mk,hn,hs,hf,push_cast,seval]
  ·have e:ak (.mk 10 n s t l fs)=false:=by simp[ak,hn,hs]
   rw[e]
   simp(disch:=first|exact dI|fail) only[cb,Val.pv_mk,hn,hs,push_cast,seval]
 ·have e:ak (.mk 10 n s t l fs)=false:=by simp[ak,hn]
  rw[e]
  simp(disch:=first|exact dI|fail) only[cb,Val.pv_mk,hn,push_cast,seval]
theorem Ha (v:Val)(hk:1≤v.kind∧v.kind≤10):am Tryz.prog aE 244 [v.pv] (.bool (ak v)):=by
 obtain⟨k,n,s,t,l,fs⟩:=v
 simp only[Val.kind] at hk
 have hc:k=1∨k=2∨k=3∨k=4∨k=5∨k=6∨k=7∨k=8∨k=9∨k=10:=by omega
 rcases hc with rfl | rfl | rfl | rfl | rfl | rfl | rfl | rfl | rfl | rfl
 ·exact wn n s t l fs
 ·exact wm n s t l fs
 ·exact wl n s t l fs
 ·exact wk n s t l fs
 ·exact wj n s t l fs
 ·exact wi n s t l fs
 ·exact wh n s t l fs
 ·exact wg n s t l fs
 ·exact we n s t l fs
 ·exact rZ n s t l fs
theorem oj (n s:Int)(t:List UInt8)(l:List Val)(fs:List Fld):am Tryz.prog aE 287 [(Val.mk 1 n s t l fs).pv] (.bool (!ak (.mk 1 n s t l fs))):=by
 refine am.intro dC (by simp[ca]) ?_
 by_cases hs:s=0
 ·by_cases ht:t=[]
  ·by_cases hl:l.length=0
   ·have hlI:(l.length:Int)=0:=by omega
    by_cases hf:fs.length=0
    ·have hfI:(fs.length:Int)=0:=by omega
     have e:ak (.mk 1 n s t l fs)=true:=by simp[ak,hs,ht,hl,hf]
     rw[e]
     simp(disch:=first|exact dI|fail) only[ca,Bool.not_true,Bool.not_false,Val.pv_mk,hs,ht,hl,hf,push_cast,seval]
    ·have hfI:¬ (fs.length:Int)=0:=by omega
     have e:ak (.mk 1 n s t l fs)=false:=by simp[ak,hs,ht,hl,hf]
     rw[e]
     simp(disch:=first|exact dI|fail) only[ca,Bool.not_true,Bool.not_false,Val.pv_mk,hs,ht,hl,hf,push_cast,seval]
   ·have hlI:¬ (l.length:Int)=0:=by omega
    have e:ak (.mk 1 n s t l fs)=false:=by simp[ak,hs,ht,hl]
    rw[e]
    simp(disch:=first|exact dI|fail) only[ca,Bool.not_true,Bool.not_false,Val.pv_mk,hs,ht,hl,push_cast,seval]
  ·have e:ak (.mk 1 n s t l fs)=false:=by simp[ak,hs,ht]
   rw[e]
   simp(disch:=first|exact dI|fail) only[ca,Bool.not_true,Bool.not_false,Val.pv_mk,hs,ht,push_cast,seval]
 ·have e:ak (.mk 1 n s t l fs)=false:=by simp[ak,hs]
  rw[e]
  simp(disch:=first|exact dI|fail) only[ca,Bool.not_true,Bool.not_false,Val.pv_mk,hs,push_cast,seval]
theorem oi (n s:Int)(t:List UInt8)(l:List Val)(fs:List Fld):am Tryz.prog aE 287 [(Val.mk 2 n s t l fs).pv] (.bool (!ak (.mk 2 n s t l fs))):=by
 refine am.intro dC (by simp[ca]) ?_
 by_cases hs:s=0
 ·by_cases ht:t=[]
  ·by_cases hl:l.length=0
   ·have hlI:(l.length:Int)=0:=by omega
    by_cases hf:fs.length=0
    ·have hfI:(fs.length:Int)=0:=by omega
     have e:ak (.mk 2 n s t l fs)=true:=by simp[ak,hs,ht,hl,hf]
     rw[e]
     simp(disch:=first|exact dI|fail) only[ca,Bool.not_true,Bool.not_false,Val.pv_mk,hs,ht,hl,hf,push_cast,seval]
    ·have hfI:¬ (fs.length:Int)=0:=by omega
     have e:ak (.mk 2 n s t l fs)=false:=by simp[ak,hs,ht,hl,hf]
     rw[e]
     simp(disch:=first|exact dI|fail) only[ca,Bool.not_true,Bool.not_false,Val.pv_mk,hs,ht,hl,hf,push_cast,seval]
   ·have hlI:¬ (l.length:Int)=0:=by omega
    have e:ak (.mk 2 n s t l fs)=false:=by simp[ak,hs,ht,hl]
    rw[e]
    simp(disch:=first|exact dI|fail) only[ca,Bool.not_true,Bool.not_false,Val.pv_mk,hs,ht,hl,push_cast,seval]
  ·have e:ak (.mk 2 n s t l fs)=false:=by simp[ak,hs,ht]
   rw[e]
   simp(disch:=first|exact dI|fail) only[ca,Bool.not_true,Bool.not_false,Val.pv_mk,hs,ht,push_cast,seval]
 ·have e:ak (.mk 2 n s t l fs)=false:=by simp[ak,hs]
  rw[e]
  simp(disch:=first|exact dI|fail) only[ca,Bool.not_true,Bool.not_false,Val.pv_mk,hs,push_cast,seval]
theorem oh (n s:Int)(t:List UInt8)(l:List Val)(fs:List Fld):am Tryz.prog aE 287 [(Val.mk 3 n s t l fs).pv] (.bool (!ak (.mk 3 n s t l fs))):=by
 refine am.intro dC (by simp[ca]) ?_
 by_cases ht:t=[]
 ·by_cases hl:l.length=0
  ·have hlI:(l.length:Int)=0:=by omega
   by_cases hf:fs.length=0
   ·have hfI:(fs.length:Int)=0:=by omega
    have e:ak (.mk 3 n s t l fs)=true:=by simp[ak,ht,hl,hf]
    rw[e]
    simp(disch:=first|exact dI|fail) only[ca,Bool.not_true,Bool.not_false,Val.pv_mk,ht,hl,hf,push_cast,seval]
   ·have hfI:¬ (fs.length:Int)=0:=by omega
    have e:ak (.mk 3 n s t l fs)=false:=by simp[ak,ht,hl,hf]
    rw[e]
    simp(disch:=first|exact dI|fail) only[ca,Bool.not_true,Bool.not_false,Val.pv_mk,ht,hl,hf,push_cast,seval]
  ·have hlI:¬ (l.length:Int)=0:=by omega
   have e:ak (.mk 3 n s t l fs)=false:=by simp[ak,ht,hl]
   rw[e]
   simp(disch:=first|exact dI|fail) only[ca,Bool.not_true,Bool.not_false,Val.pv_mk,ht,hl,push_cast,seval]
 ·have e:ak (.mk 3 n s t l fs)=false:=by simp[ak,ht]
  rw[e]
  simp(disch:=first|exact dI|fail) only[ca,Bool.not_true,Bool.not_false,Val.pv_mk,ht,push_cast,seval]
theorem og (n s:Int)(t:List UInt8)(l:List Val)(fs:List Fld):am Tryz.prog aE 287 [(Val.mk 4 n s t l fs).pv] (.bool (!ak (.mk 4 n s t l fs))):=by
 refine am.intro dC (by simp[ca]) ?_
 by_cases hn:n=0
 ·by_cases hs:s=0
  ·by_cases hl:l.length=0
   ·have hlI:(l.length:Int)=0:=by omega
    by_cases hf:fs.length=0
    ·have hfI:(fs.length:Int)=0:=by omega
     have e:ak (.mk 4 n s t l fs)=true:=by simp[ak,hn,hs,hl,hf]
     rw[e]
     simp(disch:=first|exact dI|fail) only[ca,Bool.not_true,Bool.not_false,Val.pv_mk,hn,hs,hl,hf,push_cast,seval]
    ·have hfI:¬ (fs.length:Int)=0:=by omega
     have e:ak (.mk 4 n s t l fs)=false:=by simp[ak,hn,hs,hl,hf]
     rw[e]
     simp(disch:=first|exact dI|fail) only[ca,Bool.not_true,Bool.not_false,Val.pv_mk,hn,hs,hl,hf,push_cast,seval]
   ·have hlI:¬ (l.length:Int)=0:=by omega
    have e:ak (.mk 4 n s t l fs)=false:=by simp[ak,hn,hs,hl]
    rw[e]
    simp(disch:=first|exact dI|fail) only[ca,Bool.not_true,Bool.not_false,Val.pv_mk,hn,hs,hl,push_cast,seval]
  ·have e:ak (.mk 4 n s t l fs)=false:=by simp[ak,hn,hs]
   rw[e]
   simp(disch:=first|exact dI|fail) only[ca,Bool.not_true,Bool.not_false,Val.pv_mk,hn,hs,push_cast,seval]
 ·have e:ak (.mk 4 n s t l fs)=false:=by simp[ak,hn]
  rw[e]
  simp(disch:=first|exact dI|fail) only[ca,Bool.not_true,Bool.not_false,Val.pv_mk,hn,push_cast,seval]
theorem oe (n s:Int)(t:List UInt8)(l:List Val)(fs:List Fld):am Tryz.prog aE 287 [(Val.mk 5 n s t l fs).pv] (.bool (!ak (.mk 5 n s t l fs))):=by
 refine am.intro dC (by simp[ca]) ?_
 by_cases hn:n=0
 ·by_cases hs:s=0
  ·by_cases hl:l.length=0
   ·have hlI:(l.length:Int)=0:=by omega
    by_cases hf:fs.length=0
    ·have hfI:(fs.length:Int)=0:=by omega
     have e:ak (.mk 5 n s t l fs)=true:=by simp[ak,hn,hs,hl,hf]
     rw[e]
     simp(disch:=first|exact dI|fail) only[ca,Bool.not_true,Bool.not_false,Val.pv_mk,hn,hs,hl,hf,push_cast,seval]
    ·have hfI:¬ (fs.length:Int)=0:=by omega
     have e:ak (.mk 5 n s t l fs)=false:=by simp[ak,hn,hs,hl,hf]
     rw[e]
     simp(disch:=first|exact dI|fail) only[ca,Bool.not_true,Bool.not_false,Val.pv_mk,hn,hs,hl,hf,push_cast,seval]
   ·have hlI:¬ (l.length:Int)=0:=by omega
    have e:ak (.mk 5 n s t l fs)=false:=by simp[ak,hn,hs,hl]
    rw[e]
    simp(disch:=first|exact dI|fail) only[ca,Bool.not_true,Bool.not_false,Val.pv_mk,hn,hs,hl,push_cast,seval]
  ·have e:ak (.mk 5 n s t l fs)=false:=by simp[ak,hn,hs]
   rw[e]
   simp(disch:=first|exact dI|fail) only[ca,Bool.not_true,Bool.not_false,Val.pv_mk,hn,hs,push_cast,seval]
 ·have e:ak (.mk 5 n s t l fs)=false:=by simp[ak,hn]
  rw[e]
  simp(disch:=first|exact dI|fail) only[ca,Bool.not_true,Bool.not_false,Val.pv_mk,hn,push_cast,seval]
theorem od (n s:Int)(t:List UInt8)(l:List Val)(fs:List Fld):am Tryz.prog aE 287 [(Val.mk 6 n s t l fs).pv] (.bool (!ak (.mk 6 n s t l fs))):=by
 refine am.intro dC (by simp[ca]) ?_
 by_cases hs:s=0
 ·by_cases ht:t=[]
  ·by_cases hl:l.length=0
   ·have hlI:(l.length:Int)=0:=by omega
    by_cases hf:fs.length=0
    ·have hfI:(fs.length:Int)=0:=by omega
     have e:ak (.mk 6 n s t l fs)=true:=by simp[ak,hs,ht,hl,hf]
     rw[e]
     simp(disch:=first|exact dI|fail) only[ca,Bool.not_true,Bool.not_false,Val.pv_mk,hs,ht,hl,hf,push_cast,seval]
    ·have hfI:¬ (fs.length:Int)=0:=by omega
     have e:ak (.mk 6 n s t l fs)=false:=by simp[ak,hs,ht,hl,hf]
     rw[e]
     simp(disch:=first|exact dI|fail) only[ca,Bool.not_true,Bool.not_false,Val.pv_mk,hs,ht,hl,hf,push_cast,seval]
   ·have hlI:¬ (l.length:Int)=0:=by omega
    have e:ak (.mk 6 n s t l fs)=false:=by simp[ak,hs,ht,hl]
    rw[e]
    simp(disch:=first|exact dI|fail) only[ca,Bool.not_true,Bool.not_false,Val.pv_mk,hs,ht,hl,push_cast,seval]
  ·have e:ak (.mk 6 n s t l fs)=false:=by simp[ak,hs,ht]
   rw[e]
   simp(disch:=first|exact dI|fail) only[ca,Bool.not_true,Bool.not_false,Val.pv_mk,hs,ht,push_cast,seval]
 ·have e:ak (.mk 6 n s t l fs)=false:=by simp[ak,hs]
  rw[e]
  simp(disch:=first|exact dI|fail) only[ca,Bool.not_true,Bool.not_false,Val.pv_mk,hs,push_cast,seval]
theorem oc (n s:Int)(t:List UInt8)(l:List Val)(fs:List Fld):am Tryz.prog aE 287 [(Val.mk 7 n s t l fs).pv] (.bool (!ak (.mk 7 n s t l fs))):=by
 refine am.intro dC (by simp[ca]) ?_
 by_cases hs:s=0
 ·by_cases ht:t=[]
  ·by_cases hl:l.length=0
   ·have hlI:(l.length:Int)=0:=by omega
    by_cases hf:fs.length=0
    ·have hfI:(fs.length:Int)=0:=by omega
     have e:ak (.mk 7 n s t l fs)=true:=by simp[ak,hs,ht,hl,hf]
     rw[e]
     simp(disch:=first|exact dI|fail) only[ca,Bool.not_true,Bool.not_false,Val.pv_mk,hs,ht,hl,hf,push_cast,seval]
    ·have hfI:¬ (fs.length:Int)=0:=by omega
     have e:ak (.mk 7 n s t l fs)=false:=by simp[ak,hs,ht,hl,hf]
     rw[e]
     simp(disch:=first|exact dI|fail) only[ca,Bool.not_true,Bool.not_false,Val.pv_mk,hs,ht,hl,hf,push_cast,seval]
   ·have hlI:¬ (l.length:Int)=0:=by omega
    have e:ak (.mk 7 n s t l fs)=false:=by simp[ak,hs,ht,hl]
    rw[e]
    simp(disch:=first|exact dI|fail) only[ca,Bool.not_true,Bool.not_false,Val.pv_mk,hs,ht,hl,push_cast,seval]
  ·have e:ak (.mk 7 n s t l fs)=false:=by simp[ak,hs,ht]
   rw[e]
   simp(disch:=first|exact dI|fail) only[ca,Bool.not_true,Bool.not_false,Val.pv_mk,hs,ht,push_cast,seval]
 ·have e:ak (.mk 7 n s t l fs)=false:=by simp[ak,hs]
  rw[e]
  simp(disch:=first|exact dI|fail) only[ca,Bool.not_true,Bool.not_false,Val.pv_mk,hs,push_cast,seval]
theorem ob (n s:Int)(t:List UInt8)(l:List Val)(fs:List Fld):am Tryz.prog aE 287 [(Val.mk 8 n s t l fs).pv] (.bool (!ak (.mk 8 n s t l fs))):=by
 refine am.intro dC (by simp[ca]) ?_
 by_cases hn:n=0
 ·by_cases hs:s=0
  ·by_cases ht:t=[]
   ·by_cases hf:fs.length=0
    ·have hfI:(fs.length:Int)=0:=by omega
     have e:ak (.mk 8 n s t l fs)=true:=by simp[ak,hn,hs,ht,hf]
     rw[e]
     simp(disch:=first|exact dI|fail) only[ca,Bool.not_true,Bool.not_false,Val.pv_mk,hn,hs,ht,hf,push_cast,seval]
    ·have hfI:¬ (fs.length:Int)=0:=by omega
     have e:ak (.mk 8 n s t l fs)=false:=by simp[ak,hn,hs,ht,hf]
     rw[e]
     simp(disch:=first|exact dI|fail) only[ca,Bool.not_true,Bool.not_false,Val.pv_mk,hn,hs,ht,hf,push_cast,seval]
   ·have e:ak (.mk 8 n s t l fs)=false:=by simp[ak,hn,hs,ht]
    rw[e]
    simp(disch:=first|exact dI|fail) only[ca,Bool.not_true,Bool.not_false,Val.pv_mk,hn,hs,ht,push_cast,seval]
  ·have e:ak (.mk 8 n s t l fs)=false:=by simp[ak,hn,hs]
   rw[e]
   simp(disch:=first|exact dI|fail) only[ca,Bool.not_true,Bool.not_false,Val.pv_mk,hn,hs,push_cast,seval]
 ·have e:ak (.mk 8 n s t l fs)=false:=by simp[ak,hn]
  rw[e]
  simp(disch:=first|exact dI|fail) only[ca,Bool.not_true,Bool.not_false,Val.pv_mk,hn,push_cast,seval]
theorem oa (n s:Int)(t:List UInt8)(l:List Val)(fs:List Fld):am Tryz.prog aE 287 [(Val.mk 9 n s t l fs).pv] (.bool (!ak (.mk 9 n s t l fs))):=by
 refine am.intro dC (by simp[ca]) ?_
 by_cases hn:n=0
 ·by_cases hs:s=0
  ·by_cases ht:t=[]
   ·by_cases hl:l.length=0
    ·have hlI:(l.length:Int)=0:=by omega
     have e:ak (.mk 9 n s t l fs)=true:=by simp[ak,hn,hs,ht,hl]
     rw[e]
     simp(disch:=first|exact dI|fail) only[ca,Bool.not_true,Bool.not_false,Val.pv_mk,hn,hs,ht,hl,push_cast,seval]
    ·have hlI:¬ (l.length:Int)=0:=by omega
     have e:ak (.mk 9 n s t l fs)=false:=by simp[ak,hn,hs,ht,hl]
     rw[e]
     simp(disch:=first|exact dI|fail) only[ca,Bool.not_true,Bool.not_false,Val.pv_mk,hn,hs,ht,hl,push_cast,seval]
   ·have e:ak (.mk 9 n s t l fs)=false:=by simp[ak,hn,hs,ht]
    rw[e]
    simp(disch:=first|exact dI|fail) only[ca,Bool.not_true,Bool.not_false,Val.pv_mk,hn,hs,ht,push_cast,seval]
  ·have e:ak (.mk 9 n s t l fs)=false:=by simp[ak,hn,hs]
   rw[e]
   simp(disch:=first|exact dI|fail) only[ca,Bool.not_true,Bool.not_false,Val.pv_mk,hn,hs,push_cast,seval]
 ·have e:ak (.mk 9 n s t l fs)=false:=by simp[ak,hn]
  rw[e]
  simp(disch:=first|exact dI|fail) only[ca,Bool.not_true,Bool.not_false,Val.pv_mk,hn,push_cast,seval]
theorem lR (n s:Int)(t:List UInt8)(l:List Val)(fs:List Fld):am Tryz.prog aE 287 [(Val.mk 10 n s t l fs).pv] (.bool (!ak (.mk 10 n s t l fs))):=by
 refine am.intro dC (by simp[ca]) ?_
 by_cases hn:n=0
 ·by_cases hs:s=0
  ·by_cases hf:fs.length=0
   ·have hfI:(fs.length:Int)=0:=by omega
    have e:ak (.mk 10 n s t l fs)=true:=by simp[ak,hn,hs,hf]
    rw[e]
    simp(disch:=first|exact dI|fail) only[ca,Bool.not_true,Bool.not_false,Val.pv_mk,hn,hs,hf,push_cast,seval]
   ·have hfI:¬ (fs.length:Int)=0:=by omega
    have e:ak (.mk 10 n s t l fs)=false:=by simp[ak,hn,hs,hf]
    rw[e]
    simp(disch:=first|exact dI|fail) only[ca,Bool.not_true,Bool.not_false,Val.pv_mk,hn,hs,hf,push_cast,seval]
  ·have e:ak (.mk 10 n s t l fs)=false:=by simp[ak,hn,hs]
   rw[e]
   simp(disch:=first|exact dI|fail) only[ca,Bool.not_true,Bool.not_false,Val.pv_mk,hn,hs,push_cast,seval]
 ·have e:ak (.mk 10 n s t l fs)=false:=by simp[ak,hn]
  rw[e]
  simp(disch:=first|exact dI|fail) only[ca,Bool.not_true,Bool.not_false,Val.pv_mk,hn,push_cast,seval]
theorem bI (v:Val)(hk:1≤v.kind∧v.kind≤10):am Tryz.prog aE 287 [v.pv] (.bool (!ak v)):=by
 obtain⟨k,n,s,t,l,fs⟩:=v
 simp only[Val.kind] at hk
 have hc:k=1∨k=2∨k=3∨k=4∨k=5∨k=6∨k=7∨k=8∨k=9∨k=10:=by omega
 rcases hc with rfl | rfl | rfl | rfl | rfl | rfl | rfl | rfl | rfl | rfl
 ·exact oj n s t l fs
 ·exact oi n s t l fs
 ·exact oh n s t l fs
 ·exact og n s t l fs
 ·exact oe n s t l fs
 ·exact od n s t l fs
 ·exact oc n s t l fs
 ·exact ob n s t l fs
 ·exact oa n s t l fs
 ·exact lR n s t l fs
end Go.Proofs.YtbaaokocnegdoaaGreatDoor
