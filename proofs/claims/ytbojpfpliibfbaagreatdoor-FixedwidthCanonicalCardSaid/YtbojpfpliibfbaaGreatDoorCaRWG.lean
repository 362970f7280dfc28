/- A part of the proof. -/
import Derived.Test.YtbojpfpliibfbaaGreatDoorCaRU3
set_option maxHeartbeats 16000000
set_option maxRecDepth 100000
set_option linter.unusedVariables false
set_option linter.unusedSimpArgs false
namespace Go.Proofs.YtbojpfpliibfbaaGreatDoor
open Go Go.Ab
attribute [local irreducible] vc
def upJ (f:List Fld)(j:Nat):Bool:=aR (((f[j]?).map Fld.name).getD []) (((f[j+1]?).map Fld.name).getD [])
def upB (f:List Fld):Bool:=xz (upJ f) (f.length - 1)
def ae:Val->Bool
 | .mk k i s t l f=>
   if k=1 then (decide (i=0)||decide (i=1))&&(decide (s=0)&&(decide (t=[])&&(decide (l.length=0)&&decide (f.length=0))))
   else if k=2\/k=6\/k=7 then decide (s=0)&&(decide (t=[])&&(decide (l.length=0)&&decide (f.length=0)))
   else if k=3 then decide (t=[])&&(decide (l.length=0)&&decide (f.length=0))
   else if k=4 then Lib.validD t&&(decide (i=0)&&(decide (s=0)&&(decide (l.length=0)&&decide (f.length=0))))
   else if k=5 then decide (i=0)&&(decide (s=0)&&(decide (l.length=0)&&decide (f.length=0)))
   else if k=8 then decide (i=0)&&(decide (s=0)&&(decide (t=[])&&decide (f.length=0)))
   else if k=9 then upB f&&(decide (i=0)&&(decide (s=0)&&(decide (t=[])&&decide (l.length=0))))
   else if k=10 then decide (l.length=1)&&(decide (i=0)&&(decide (s=0)&&decide (f.length=0)))
   else decide (i=0)&&(decide (s=0)&&(decide (t=[])&&(decide (l.length=0)&&decide (f.length=0))))
theorem ek (s:List UInt8):ag Tryz.prog au 165 [.str s] (.bool (Lib.validD s)):=by
 refine ag.intro Ry.2 (by simp[Ry]) ?_
 simp(disch:=try exact dI) only[Ry,push_cast,seval]
 refine ab.pure (dy s) rfl ?_
 exact qsZ
theorem bM (v:Val)(hm:v.fields.length<=9000000000000)(hm2:v.lst.length<=9000000000000)(ht0:v.text.length<=140737488351232):ag Tryz.prog au 135 [v.pv] (.bool (ae v)):=by
 obtain⟨k,i,s,t,l,f⟩:=v
 simp only[Val.fields,Val.lst,Val.text] at hm hm2 ht0
 refine ag.intro bK.2 (by simp[bK]) ?_
 by_cases hk1:k=1
 ·subst hk1
  by_cases hi:i=0
  ·by_cases hs:s=0
   ·by_cases ht:t=[]
    ·by_cases hl:l.length=0
     ·have hlI:(l.length:Int)=0:=by omega
      by_cases hf:f.length=0
      ·have hfI:(f.length:Int)=0:=by omega
       have e:ae (.mk 1 i s t l f)=true:=by simp[ae,hi,hs,ht,hl,hf]
       rw[e]
       simp(disch:=try exact dI) only[bK,Val.pv_mk,hi,hs,ht,push_cast,seval]
      ·have hfI:¬ (f.length:Int)=0:=by omega
       have e:ae (.mk 1 i s t l f)=false:=by simp[ae,hi,hs,ht,hl,hf]
       rw[e]
       simp(disch:=try exact dI) only[bK,Val.pv_mk,hi,hs,ht,push_cast,seval]
     ·have hlI:¬ (l.length:Int)=0:=by omega
      have e:ae (.mk 1 i s t l f)=false:=by simp[ae,hi,hs,ht,hl]
      rw[e]
      simp(disch:=try exact dI) only[bK,Val.pv_mk,hi,hs,ht,push_cast,seval]
    ·have e:ae (.mk 1 i s t l f)=false:=by simp[ae,hi,hs,ht]
     rw[e]
     simp(disch:=try exact dI) only[bK,Val.pv_mk,hi,hs,ht,push_cast,seval]
   ·have e:ae (.mk 1 i s t l f)=false:=by simp[ae,hi,hs]
    rw[e]
    simp(disch:=try exact dI) only[bK,Val.pv_mk,hi,hs,push_cast,seval]
  ·by_cases hj:i=1
   ·by_cases hs:s=0
    ·by_cases ht:t=[]
     ·by_cases hl:l.length=0
      ·have hlI:(l.length:Int)=0:=by omega
       by_cases hf:f.length=0
       ·have hfI:(f.length:Int)=0:=by omega
        have e:ae (.mk 1 i s t l f)=true:=by simp[ae,hi,hj,hs,ht,hl,hf]
        rw[e]
        simp(disch:=try exact dI) only[bK,Val.pv_mk,hi,hj,hs,ht,push_cast,seval]
       ·have hfI:¬ (f.length:Int)=0:=by omega
        have e:ae (.mk 1 i s t l f)=false:=by simp[ae,hi,hj,hs,ht,hl,hf]
        rw[e]
        simp(disch:=try exact dI) only[bK,Val.pv_mk,hi,hj,hs,ht,push_cast,seval]
      ·have hlI:¬ (l.length:Int)=0:=by omega
       have e:ae (.mk 1 i s t l f)=false:=by simp[ae,hi,hj,hs,ht,hl]
       rw[e]
       simp(disch:=try exact dI) only[bK,Val.pv_mk,hi,hj,hs,ht,push_cast,seval]
     ·have e:ae (.mk 1 i s t l f)=false:=by simp[ae,hi,hj,hs,ht]
      rw[e]
      simp(disch:=try exact dI) only[bK,Val.pv_mk,hi,hj,hs,ht,push_cast,seval]
    ·have e:ae (.mk 1 i s t l f)=false:=by simp[ae,hi,hj,hs]
     rw[e]
     simp(disch:=try exact dI) only[bK,Val.pv_mk,hi,hj,hs,push_cast,seval]
   ·have e:ae (.mk 1 i s t l f)=false:=by simp[ae,hi,hj]
    rw[e]
    simp(disch:=try exact dI) only[bK,Val.pv_mk,hi,hj,push_cast,seval]
 by_cases hk2:k=2
 ·subst hk2
  by_cases hs:s=0
  ·by_cases ht:t=[]
   ·by_cases hl:l.length=0
    ·have hlI:(l.length:Int)=0:=by omega
     by_cases hf:f.length=0
     ·have hfI:(f.length:Int)=0:=by omega
      have e:ae (.mk 2 i s t l f)=true:=by simp[ae,hs,ht,hl,hf]
      rw[e]
      simp(disch:=try exact dI) only[bK,Val.pv_mk,hs,ht,push_cast,seval]
     ·have hfI:¬ (f.length:Int)=0:=by omega
      have e:ae (.mk 2 i s t l f)=false:=by simp[ae,hs,ht,hl,hf]
      rw[e]
      simp(disch:=try exact dI) only[bK,Val.pv_mk,hs,ht,push_cast,seval]
    ·have hlI:¬ (l.length:Int)=0:=by omega
     have e:ae (.mk 2 i s t l f)=false:=by simp[ae,hs,ht,hl]
     rw[e]
     simp(disch:=try exact dI) only[bK,Val.pv_mk,hs,ht,push_cast,seval]
   ·have e:ae (.mk 2 i s t l f)=false:=by simp[ae,hs,ht]
    rw[e]
    simp(disch:=try exact dI) only[bK,Val.pv_mk,hs,ht,push_cast,seval]
  ·have e:ae (.mk 2 i s t l f)=false:=by simp[ae,hs]
   rw[e]
   simp(disch:=try exact dI) only[bK,Val.pv_mk,hs,push_cast,seval]
 by_cases hk3:k=3
 ·subst hk3
  by_cases ht:t=[]
  ·by_cases hl:l.length=0
   ·have hlI:(l.length:Int)=0:=by omega
    by_cases hf:f.length=0
    ·have hfI:(f.length:Int)=0:=by omega
     have e:ae (.mk 3 i s t l f)=true:=by simp[ae,ht,hl,hf]
     rw[e]
     simp(disch:=try exact dI) only[bK,Val.pv_mk,ht,push_cast,seval]
    ·have hfI:¬ (f.length:Int)=0:=by omega
     have e:ae (.mk 3 i s t l f)=false:=by simp[ae,ht,hl,hf]
     rw[e]
     simp(disch:=try exact dI) only[bK,Val.pv_mk,ht,push_cast,seval]
   ·have hlI:¬ (l.length:Int)=0:=by omega
    have e:ae (.mk 3 i s t l f)=false:=by simp[ae,ht,hl]
    rw[e]
    simp(disch:=try exact dI) only[bK,Val.pv_mk,ht,push_cast,seval]
  ·have e:ae (.mk 3 i s t l f)=false:=by simp[ae,ht]
   rw[e]
   simp(disch:=try exact dI) only[bK,Val.pv_mk,ht,push_cast,seval]
 by_cases hk4:k=4
 ·subst hk4
  cases hV:Lib.validD t with
  | false=>
    have e:ae (.mk 4 i s t l f)=false:=by simp[ae,hV]
    rw[e]
    simp(disch:=try exact dI) only[bK,Val.pv_mk,push_cast,seval]
    refine ab.pure (ek t) rfl ?_
    simp(disch:=try exact dI) only[hV,push_cast,seval]
  | true=>
    by_cases hi:i=0
    ·by_cases hs:s=0
     ·by_cases hl:l.length=0
      ·have hlI:(l.length:Int)=0:=by omega
       by_cases hf:f.length=0
       ·have hfI:(f.length:Int)=0:=by omega
        have e:ae (.mk 4 i s t l f)=true:=by simp[ae,hV,hi,hs,hl,hf]
        rw[e]
        simp(disch:=try exact dI) only[bK,Val.pv_mk,hi,hs,push_cast,seval]
        refine ab.pure (ek t) rfl ?_
        simp(disch:=try exact dI) only[hV,hi,hs,push_cast,seval]
       ·have hfI:¬ (f.length:Int)=0:=by omega
        have e:ae (.mk 4 i s t l f)=false:=by simp[ae,hV,hi,hs,hl,hf]
        rw[e]
        simp(disch:=try exact dI) only[bK,Val.pv_mk,hi,hs,push_cast,seval]
        refine ab.pure (ek t) rfl ?_
        simp(disch:=try exact dI) only[hV,hi,hs,push_cast,seval]
      ·have hlI:¬ (l.length:Int)=0:=by omega
       have e:ae (.mk 4 i s t l f)=false:=by simp[ae,hV,hi,hs,hl]
       rw[e]
       simp(disch:=try exact dI) only[bK,Val.pv_mk,hi,hs,push_cast,seval]
       refine ab.pure (ek t) rfl ?_
       simp(disch:=try exact dI) only[hV,hi,hs,push_cast,seval]
     ·have e:ae (.mk 4 i s t l f)=false:=by simp[ae,hV,hi,hs]
      rw[e]
      simp(disch:=try exact dI) only[bK,Val.pv_mk,hi,hs,push_cast,seval]
      refine ab.pure (ek t) rfl ?_
      simp(disch:=try exact dI) only[hV,hi,hs,push_cast,seval]
    ·have e:ae (.mk 4 i s t l f)=false:=by simp[ae,hV,hi]
     rw[e]
     simp(disch:=try exact dI) only[bK,Val.pv_mk,hi,push_cast,seval]
     refine ab.pure (ek t) rfl ?_
     simp(disch:=try exact dI) only[hV,hi,push_cast,seval]
 by_cases hk5:k=5
 ·subst hk5
  by_cases hi:i=0
  ·by_cases hs:s=0
   ·by_cases hl:l.length=0
    ·have hlI:(l.length:Int)=0:=by omega
     by_cases hf:f.length=0
     ·have hfI:(f.length:Int)=0:=by omega
      have e:ae (.mk 5 i s t l f)=true:=by simp[ae,hi,hs,hl,hf]
      rw[e]
      simp(disch:=try exact dI) only[bK,Val.pv_mk,hi,hs,push_cast,seval]
     ·have hfI:¬ (f.length:Int)=0:=by omega
      have e:ae (.mk 5 i s t l f)=false:=by simp[ae,hi,hs,hl,hf]
      rw[e]
      simp(disch:=try exact dI) only[bK,Val.pv_mk,hi,hs,push_cast,seval]
    ·have hlI:¬ (l.length:Int)=0:=by omega
     have e:ae (.mk 5 i s t l f)=false:=by simp[ae,hi,hs,hl]
     rw[e]
     simp(disch:=try exact dI) only[bK,Val.pv_mk,hi,hs,push_cast,seval]
   ·have e:ae (.mk 5 i s t l f)=false:=by simp[ae,hi,hs]
    rw[e]
    simp(disch:=try exact dI) only[bK,Val.pv_mk,hi,hs,push_cast,seval]
  ·have e:ae (.mk 5 i s t l f)=false:=by simp[ae,hi]
   rw[e]
   simp(disch:=try exact dI) only[bK,Val.pv_mk,hi,push_cast,seval]
 by_cases hk6:k=6
 ·subst hk6
  by_cases hs:s=0
  ·by_cases ht:t=[]
   ·by_cases hl:l.length=0
    ·have hlI:(l.length:Int)=0:=by omega
     by_cases hf:f.length=0
     ·have hfI:(f.length:Int)=0:=by omega
      have e:ae (.mk 6 i s t l f)=true:=by simp[ae,hs,ht,hl,hf]
      rw[e]
      simp(disch:=try exact dI) only[bK,Val.pv_mk,hs,ht,push_cast,seval]
     ·have hfI:¬ (f.length:Int)=0:=by omega
      have e:ae (.mk 6 i s t l f)=false:=by simp[ae,hs,ht,hl,hf]
      rw[e]
      simp(disch:=try exact dI) only[bK,Val.pv_mk,hs,ht,push_cast,seval]
    ·have hlI:¬ (l.length:Int)=0:=by omega
     have e:ae (.mk 6 i s t l f)=false:=by simp[ae,hs,ht,hl]
     rw[e]
     simp(disch:=try exact dI) only[bK,Val.pv_mk,hs,ht,push_cast,seval]
   ·have e:ae (.mk 6 i s t l f)=false:=by simp[ae,hs,ht]
    rw[e]
    simp(disch:=try exact dI) only[bK,Val.pv_mk,hs,ht,push_cast,seval]
  ·have e:ae (.mk 6 i s t l f)=false:=by simp[ae,hs]
   rw[e]
   simp(disch:=try exact dI) only[bK,Val.pv_mk,hs,push_cast,seval]
 by_cases hk7:k=7
 ·subst hk7
  by_cases hs:s=0
  ·by_cases ht:t=[]
   ·by_cases hl:l.length=0
    ·have hlI:(l.length:Int)=0:=by omega
     by_cases hf:f.length=0
     ·have hfI:(f.length:Int)=0:=by omega
      have e:ae (.mk 7 i s t l f)=true:=by simp[ae,hs,ht,hl,hf]
      rw[e]
      simp(disch:=try exact dI) only[bK,Val.pv_mk,hs,ht,push_cast,seval]
     ·have hfI:¬ (f.length:Int)=0:=by omega
      have e:ae (.mk 7 i s t l f)=false:=by simp[ae,hs,ht,hl,hf]
      rw[e]
      simp(disch:=try exact dI) only[bK,Val.pv_mk,hs,ht,push_cast,seval]
    ·have hlI:¬ (l.length:Int)=0:=by omega
     have e:ae (.mk 7 i s t l f)=false:=by simp[ae,hs,ht,hl]
     rw[e]
     simp(disch:=try exact dI) only[bK,Val.pv_mk,hs,ht,push_cast,seval]
   ·have e:ae (.mk 7 i s t l f)=false:=by simp[ae,hs,ht]
    rw[e]
    simp(disch:=try exact dI) only[bK,Val.pv_mk,hs,ht,push_cast,seval]
  ·have e:ae (.mk 7 i s t l f)=false:=by simp[ae,hs]
   rw[e]
   simp(disch:=try exact dI) only[bK,Val.pv_mk,hs,push_cast,seval]
 by_cases hk8:k=8
 ·subst hk8
  by_cases hi:i=0
  ·by_cases hs:s=0
   ·by_cases ht:t=[]
    ·by_cases hf:f.length=0
     ·have hfI:(f.length:Int)=0:=by omega
      have e:ae (.mk 8 i s t l f)=true:=by simp[ae,hi,hs,ht,hf]
      rw[e]
      simp(disch:=try exact dI) only[bK,Val.pv_mk,hi,hs,ht,push_cast,seval]
     ·have hfI:¬ (f.length:Int)=0:=by omega
      have e:ae (.mk 8 i s t l f)=false:=by simp[ae,hi,hs,ht,hf]
      rw[e]
      simp(disch:=try exact dI) only[bK,Val.pv_mk,hi,hs,ht,push_cast,seval]
    ·have e:ae (.mk 8 i s t l f)=false:=by simp[ae,hi,hs,ht]
     rw[e]
     simp(disch:=try exact dI) only[bK,Val.pv_mk,hi,hs,ht,push_cast,seval]
   ·have e:ae (.mk 8 i s t l f)=false:=by simp[ae,hi,hs]
    rw[e]
    simp(disch:=try exact dI) only[bK,Val.pv_mk,hi,hs,push_cast,seval]
  ·have e:ae (.mk 8 i s t l f)=false:=by simp[ae,hi]
   rw[e]
   simp(disch:=try exact dI) only[bK,Val.pv_mk,hi,push_cast,seval]
 by_cases hk9:k=9
 ·subst hk9
  cases hU:upB f with
  | false=>
    have e:ae (.mk 9 i s t l f)=false:=by simp[ae,hU]
    rw[e]
    simp(disch:=try exact dI) only[bK,Val.pv_mk,push_cast,seval]
    refine az ([]) (fun m:Nat=>[(4,.pv (.int .i64 ((m:Int)+1)))]) (fun m=>[]) (fun m=>m<=f.length - 1/\xz (upJ f) m=true) (fun m=>f.length - 1 - m) (0) ?_;intro e0 σ0 n0 h0;simp(disch:=try exact dI) only[push_cast,seval] at h0;obtain⟨rfl,rfl,rfl⟩:=h0;refine⟨?_,?_,?_⟩
    ·simp(disch:=try exact dI) only[Int.zero_add,push_cast,seval]
    ·exact⟨by omega,by simp[xz]⟩
    ·rintro m ⟨hm,hpre⟩
     by_cases hlt:m<f.length - 1
     ·have hltI:(m:Int)+1<f.length:=by omega
      have hsub:(m:Int)+1 - 1=m:=by omega
      obtain⟨x,hx⟩:∃ x,f[m]? = some x:=⟨_,List.getElem?_eq_getElem (by omega)⟩
      obtain⟨y,hy⟩:∃ y,f[m+1]? = some y:=⟨_,List.getElem?_eq_getElem (by omega)⟩
      have hu:upJ f m=aR x.name y.name:=by simp[upJ,hx,hy]
      obtain⟨xn,⟨x1,x2,x3,x4,x5,x6⟩⟩:=x
      obtain⟨yn,⟨y1,y2,y3,y4,y5,y6⟩⟩:=y
      simp only[Fld.name] at hu
      cases hb:aR xn yn with
      | false=>
        simp(disch:=try exact dI) only[hx,hy,hsub,Fld.pv_mk,Val.pv_mk,hb,push_cast,seval]
      | true=>
        simp(disch:=try exact dI) only[hx,hy,hsub,Fld.pv_mk,Val.pv_mk,hb,push_cast,seval]
        exact⟨m+1,aZ qsZ,⟨by omega,by rw[xz,hpre,hu,hb];rfl⟩,by omega⟩
     ·have hltI:¬ (m:Int)+1<f.length:=by omega
      obtain rfl:m=f.length - 1:=by omega
      rw[upB,hpre] at hU;cases hU
  | true=>
    by_cases hi:i=0
    ·by_cases hs:s=0
     ·by_cases ht:t=[]
      ·by_cases hl:l.length=0
       ·have hlI:(l.length:Int)=0:=by omega
        have e:ae (.mk 9 i s t l f)=true:=by simp[ae,hU,hi,hs,ht,hl]
        rw[e]
        simp(disch:=try exact dI) only[bK,Val.pv_mk,hi,hs,ht,push_cast,seval]
        refine az ([]) (fun m:Nat=>[(4,.pv (.int .i64 ((m:Int)+1)))]) (fun m=>[]) (fun m=>m<=f.length - 1) (fun m=>f.length - 1 - m) (0) ?_;intro e0 σ0 n0 h0;simp(disch:=try exact dI) only[push_cast,seval] at h0;obtain⟨rfl,rfl,rfl⟩:=h0;refine⟨?_,?_,?_⟩
        ·simp(disch:=try exact dI) only[Int.zero_add,push_cast,seval]
        ·exact Nat.zero_le _
        ·intro m hm
         by_cases hlt:m<f.length - 1
         ·have hltI:(m:Int)+1<f.length:=by omega
          have hsub:(m:Int)+1 - 1=m:=by omega
          obtain⟨x,hx⟩:∃ x,f[m]? = some x:=⟨_,List.getElem?_eq_getElem (by omega)⟩
          obtain⟨y,hy⟩:∃ y,f[m+1]? = some y:=⟨_,List.getElem?_eq_getElem (by omega)⟩
          have hu:upJ f m=aR x.name y.name:=by simp[upJ,hx,hy]
          obtain⟨xn,⟨x1,x2,x3,x4,x5,x6⟩⟩:=x
          obtain⟨yn,⟨y1,y2,y3,y4,y5,y6⟩⟩:=y
          simp only[Fld.name] at hu
          cases hb:aR xn yn with
          | false=>
            have hh:=dw.1 (show xz (upJ f) (f.length - 1)=true from hU) m hlt
            rw[hu,hb] at hh;cases hh
          | true=>
            simp(disch:=try exact dI) only[hx,hy,hsub,Fld.pv_mk,Val.pv_mk,hb,push_cast,seval]
            exact⟨m+1,aZ qsZ,by omega,by omega⟩
         ·have hltI:¬ (m:Int)+1<f.length:=by omega
          simp(disch:=try exact dI) only[hi,hs,ht,push_cast,seval]
       ·have hlI:¬ (l.length:Int)=0:=by omega
        have e:ae (.mk 9 i s t l f)=false:=by simp[ae,hU,hi,hs,ht,hl]
        rw[e]
        simp(disch:=try exact dI) only[bK,Val.pv_mk,hi,hs,ht,push_cast,seval]
        refine az ([]) (fun m:Nat=>[(4,.pv (.int .i64 ((m:Int)+1)))]) (fun m=>[]) (fun m=>m<=f.length - 1) (fun m=>f.length - 1 - m) (0) ?_;intro e0 σ0 n0 h0;simp(disch:=try exact dI) only[push_cast,seval] at h0;obtain⟨rfl,rfl,rfl⟩:=h0;refine⟨?_,?_,?_⟩
        ·simp(disch:=try exact dI) only[Int.zero_add,push_cast,seval]
        ·exact Nat.zero_le _
        ·intro m hm
         by_cases hlt:m<f.length - 1
         ·have hltI:(m:Int)+1<f.length:=by omega
          have hsub:(m:Int)+1 - 1=m:=by omega
          obtain⟨x,hx⟩:∃ x,f[m]? = some x:=⟨_,List.getElem?_eq_getElem (by omega)⟩
          obtain⟨y,hy⟩:∃ y,f[m+1]? = some y:=⟨_,List.getElem?_eq_getElem (by omega)⟩
          have hu:upJ f m=aR x.name y.name:=by simp[upJ,hx,hy]
          obtain⟨xn,⟨x1,x2,x3,x4,x5,x6⟩⟩:=x
          obtain⟨yn,⟨y1,y2,y3,y4,y5,y6⟩⟩:=y
          simp only[Fld.name] at hu
          cases hb:aR xn yn with
          | false=>
            have hh:=dw.1 (show xz (upJ f) (f.length - 1)=true from hU) m hlt
            rw[hu,hb] at hh;cases hh
          | true=>
            simp(disch:=try exact dI) only[hx,hy,hsub,Fld.pv_mk,Val.pv_mk,hb,push_cast,seval]
            exact⟨m+1,aZ qsZ,by omega,by omega⟩
         ·have hltI:¬ (m:Int)+1<f.length:=by omega
          simp(disch:=try exact dI) only[hi,hs,ht,push_cast,seval]
      ·have e:ae (.mk 9 i s t l f)=false:=by simp[ae,hU,hi,hs,ht]
       rw[e]
       simp(disch:=try exact dI) only[bK,Val.pv_mk,hi,hs,ht,push_cast,seval]
       refine az ([]) (fun m:Nat=>[(4,.pv (.int .i64 ((m:Int)+1)))]) (fun m=>[]) (fun m=>m<=f.length - 1) (fun m=>f.length - 1 - m) (0) ?_;intro e0 σ0 n0 h0;simp(disch:=try exact dI) only[push_cast,seval] at h0;obtain⟨rfl,rfl,rfl⟩:=h0;refine⟨?_,?_,?_⟩
       ·simp(disch:=try exact dI) only[Int.zero_add,push_cast,seval]
       ·exact Nat.zero_le _
       ·intro m hm
        by_cases hlt:m<f.length - 1
        ·have hltI:(m:Int)+1<f.length:=by omega
         have hsub:(m:Int)+1 - 1=m:=by omega
         obtain⟨x,hx⟩:∃ x,f[m]? = some x:=⟨_,List.getElem?_eq_getElem (by omega)⟩
         obtain⟨y,hy⟩:∃ y,f[m+1]? = some y:=⟨_,List.getElem?_eq_getElem (by omega)⟩
         have hu:upJ f m=aR x.name y.name:=by simp[upJ,hx,hy]
         obtain⟨xn,⟨x1,x2,x3,x4,x5,x6⟩⟩:=x
         obtain⟨yn,⟨y1,y2,y3,y4,y5,y6⟩⟩:=y
         simp only[Fld.name] at hu
         cases hb:aR xn yn with
         | false=>
           have hh:=dw.1 (show xz (upJ f) (f.length - 1)=true from hU) m hlt
           rw[hu,hb] at hh;cases hh
         | true=>
           simp(disch:=try exact dI) only[hx,hy,hsub,Fld.pv_mk,Val.pv_mk,hb,push_cast,seval]
           exact⟨m+1,aZ qsZ,by omega,by omega⟩
        ·have hltI:¬ (m:Int)+1<f.length:=by omega
         simp(disch:=try exact dI) only[hi,hs,ht,push_cast,seval]
     ·have e:ae (.mk 9 i s t l f)=false:=by simp[ae,hU,hi,hs]
      rw[e]
      simp(disch:=try exact dI) only[bK,Val.pv_mk,hi,hs,push_cast,seval]
      refine az ([]) (fun m:Nat=>[(4,.pv (.int .i64 ((m:Int)+1)))]) (fun m=>[]) (fun m=>m<=f.length - 1) (fun m=>f.length - 1 - m) (0) ?_;intro e0 σ0 n0 h0;simp(disch:=try exact dI) only[push_cast,seval] at h0;obtain⟨rfl,rfl,rfl⟩:=h0;refine⟨?_,?_,?_⟩
      ·simp(disch:=try exact dI) only[Int.zero_add,push_cast,seval]
      ·exact Nat.zero_le _
      ·intro m hm
       by_cases hlt:m<f.length - 1
       ·have hltI:(m:Int)+1<f.length:=by omega
        have hsub:(m:Int)+1 - 1=m:=by omega
        obtain⟨x,hx⟩:∃ x,f[m]? = some x:=⟨_,List.getElem?_eq_getElem (by omega)⟩
        obtain⟨y,hy⟩:∃ y,f[m+1]? = some y:=⟨_,List.getElem?_eq_getElem (by omega)⟩
        have hu:upJ f m=aR x.name y.name:=by simp[upJ,hx,hy]
        obtain⟨xn,⟨x1,x2,x3,x4,x5,x6⟩⟩:=x
        obtain⟨yn,⟨y1,y2,y3,y4,y5,y6⟩⟩:=y
        simp only[Fld.name] at hu
        cases hb:aR xn yn with
        | false=>
          have hh:=dw.1 (show xz (upJ f) (f.length - 1)=true from hU) m hlt
          rw[hu,hb] at hh;cases hh
        | true=>
          simp(disch:=try exact dI) only[hx,hy,hsub,Fld.pv_mk,Val.pv_mk,hb,push_cast,seval]
          exact⟨m+1,aZ qsZ,by omega,by omega⟩
       ·have hltI:¬ (m:Int)+1<f.length:=by omega
        simp(disch:=try exact dI) only[hi,hs,push_cast,seval]
    ·have e:ae (.mk 9 i s t l f)=false:=by simp[ae,hU,hi]
     rw[e]
     simp(disch:=try exact dI) only[bK,Val.pv_mk,hi,push_cast,seval]
     refine az ([]) (fun m:Nat=>[(4,.pv (.int .i64 ((m:Int)+1)))]) (fun m=>[]) (fun m=>m<=f.length - 1) (fun m=>f.length - 1 - m) (0) ?_;intro e0 σ0 n0 h0;simp(disch:=try exact dI) only[push_cast,seval] at h0;obtain⟨rfl,rfl,rfl⟩:=h0;refine⟨?_,?_,?_⟩
     ·simp(disch:=try exact dI) only[Int.zero_add,push_cast,seval]
     ·exact Nat.zero_le _
     ·intro m hm
      by_cases hlt:m<f.length - 1
      ·have hltI:(m:Int)+1<f.length:=by omega
       have hsub:(m:Int)+1 - 1=m:=by omega
       obtain⟨x,hx⟩:∃ x,f[m]? = some x:=⟨_,List.getElem?_eq_getElem (by omega)⟩
       obtain⟨y,hy⟩:∃ y,f[m+1]? = some y:=⟨_,List.getElem?_eq_getElem (by omega)⟩
       have hu:upJ f m=aR x.name y.name:=by simp[upJ,hx,hy]
       obtain⟨xn,⟨x1,x2,x3,x4,x5,x6⟩⟩:=x
       obtain⟨yn,⟨y1,y2,y3,y4,y5,y6⟩⟩:=y
       simp only[Fld.name] at hu
       cases hb:aR xn yn with
       | false=>
         have hh:=dw.1 (show xz (upJ f) (f.length - 1)=true from hU) m hlt
         rw[hu,hb] at hh;cases hh
       | true=>
         simp(disch:=try exact dI) only[hx,hy,hsub,Fld.pv_mk,Val.pv_mk,hb,push_cast,seval]
         exact⟨m+1,aZ qsZ,by omega,by omega⟩
      ·have hltI:¬ (m:Int)+1<f.length:=by omega
       simp(disch:=try exact dI) only[hi,push_cast,seval]
 by_cases hk10:k=10
 ·subst hk10
  by_cases hn:l.length=1
  ·have hnI:(l.length:Int)=1:=by omega
   by_cases hi:i=0
   ·by_cases hs:s=0
    ·by_cases hf:f.length=0
     ·have hfI:(f.length:Int)=0:=by omega
      have e:ae (.mk 10 i s t l f)=true:=by simp[ae,hn,hi,hs,hf]
      rw[e]
      simp(disch:=try exact dI) only[bK,Val.pv_mk,hi,hs,push_cast,seval]
     ·have hfI:¬ (f.length:Int)=0:=by omega
      have e:ae (.mk 10 i s t l f)=false:=by simp[ae,hn,hi,hs,hf]
      rw[e]
      simp(disch:=try exact dI) only[bK,Val.pv_mk,hi,hs,push_cast,seval]
    ·have e:ae (.mk 10 i s t l f)=false:=by simp[ae,hn,hi,hs]
     rw[e]
     simp(disch:=try exact dI) only[bK,Val.pv_mk,hi,hs,push_cast,seval]
   ·have e:ae (.mk 10 i s t l f)=false:=by simp[ae,hn,hi]
    rw[e]
    simp(disch:=try exact dI) only[bK,Val.pv_mk,hi,push_cast,seval]
  ·have hnI:¬ (l.length:Int)=1:=by omega
   have e:ae (.mk 10 i s t l f)=false:=by simp[ae,hn]
   rw[e]
   simp(disch:=try exact dI) only[bK,Val.pv_mk,push_cast,seval]
 by_cases hi:i=0
 ·by_cases hs:s=0
  ·by_cases ht:t=[]
   ·by_cases hl:l.length=0
    ·have hlI:(l.length:Int)=0:=by omega
     by_cases hf:f.length=0
     ·have hfI:(f.length:Int)=0:=by omega
      have e:ae (.mk k i s t l f)=true:=by simp[ae,hi,hs,ht,hl,hf,hk1,hk2,hk3,hk4,hk5,hk6,hk7,hk8,hk9,hk10]
      rw[e]
      simp(disch:=try exact dI) only[bK,Val.pv_mk,hi,hs,ht,push_cast,seval]
     ·have hfI:¬ (f.length:Int)=0:=by omega
      have e:ae (.mk k i s t l f)=false:=by simp[ae,hi,hs,ht,hl,hf,hk1,hk2,hk3,hk4,hk5,hk6,hk7,hk8,hk9,hk10]
      rw[e]
      simp(disch:=try exact dI) only[bK,Val.pv_mk,hi,hs,ht,push_cast,seval]
    ·have hlI:¬ (l.length:Int)=0:=by omega
     have e:ae (.mk k i s t l f)=false:=by simp[ae,hi,hs,ht,hl,hk1,hk2,hk3,hk4,hk5,hk6,hk7,hk8,hk9,hk10]
     rw[e]
     simp(disch:=try exact dI) only[bK,Val.pv_mk,hi,hs,ht,push_cast,seval]
   ·have e:ae (.mk k i s t l f)=false:=by simp[ae,hi,hs,ht,hk1,hk2,hk3,hk4,hk5,hk6,hk7,hk8,hk9,hk10]
    rw[e]
    simp(disch:=try exact dI) only[bK,Val.pv_mk,hi,hs,ht,push_cast,seval]
  ·have e:ae (.mk k i s t l f)=false:=by simp[ae,hi,hs,hk1,hk2,hk3,hk4,hk5,hk6,hk7,hk8,hk9,hk10]
   rw[e]
   simp(disch:=try exact dI) only[bK,Val.pv_mk,hi,hs,push_cast,seval]
 ·have e:ae (.mk k i s t l f)=false:=by simp[ae,hi,hk1,hk2,hk3,hk4,hk5,hk6,hk7,hk8,hk9,hk10]
  rw[e]
  simp(disch:=try exact dI) only[bK,Val.pv_mk,hi,push_cast,seval]
def dn (p n:List UInt8):List UInt8:=if p=[] then n else p++(46::n)
theorem sf (p n:List UInt8)(hp:p.length<=4000)(hn:n.length<=140737488351232):ag Tryz.prog au 195 [.str p,.str n] (.str (dn p n)):=by
 refine ag.intro PE.2 (by simp[PE]) ?_
 by_cases h:p=[]
 ·rw[dn,if_pos h]
  simp(disch:=try exact dI) only[PE,h,push_cast,seval]
 ·rw[dn,if_neg h]
  simp(disch:=try exact dI) only[PE,h,push_cast,seval]
def vF (mn mx:Int)(p:List UInt8)(n:Int):List Mis:=if n<mn\/mx<n then [.mk p 2] else []
theorem HG {mn mx n:Int}{p:List UInt8}(h:n<mn\/mx<n):vF mn mx p n=[.mk p 2]:=if_pos h
theorem Ng {mn mx n:Int}{p:List UInt8}(h:¬ (n<mn\/mx<n)):vF mn mx p n=[]:=if_neg h
end Go.Proofs.YtbojpfpliibfbaaGreatDoor
