/- A part of the proof. -/
import Derived.Test.YtbojpfpliibfbaaGreatDoorCaRR5
set_option maxHeartbeats 16000000
set_option maxRecDepth 100000
set_option linter.unusedVariables false
set_option linter.unusedSimpArgs false
namespace Go.Proofs.YtbojpfpliibfbaaGreatDoor
open Go Go.Ab
attribute [local irreducible] vc
def inB (n a b:Int):Bool:=decide (a<=n)&&decide (n<=b)
theorem o9 (n a b:Int):ag Tryz.prog au 228 [.int .i64 n,.int .i64 a,.int .i64 b] (.bool (inB n a b)):=by
 refine ag.intro O8.2 (by simp[O8]) ?_
 by_cases h1:a<=n
 ·by_cases h2:n<=b
  ·rw[show inB n a b=true by simp[inB,h1,h2]]
   simp(disch:=try exact dI) only[O8,push_cast,seval]
  ·rw[show inB n a b=false by simp[inB,h2]]
   simp(disch:=try exact dI) only[O8,push_cast,seval]
 ·rw[show inB n a b=false by simp[inB,h1]]
  simp(disch:=try exact dI) only[O8,push_cast,seval]
def lim (nm:List UInt8)(lo hi:Int)(b1 b2 b3 b4 b5:Bool):PV:=.agg [.str nm,.int .i64 lo,.int .i64 hi,.bool b1,.bool b2,.bool b3,.bool b4,.bool b5]
def aL (b1 b2 b3 b4 b5:Bool):Typ->Bool
 | .mk k m M s w e f=>(!b1&&!(decide (m=0)&&decide (M=0)))||((!b2&&!decide (s=0))||((!b3&&!decide (w.length=0))||((!b4&&!decide (e.length=0))||(!b5&&!decide (f.length=0)))))
theorem BK (k m M s:Int)(w:List (List UInt8))(e:List Typ)(f:List TFd)(nm:List UInt8)(lo hi:Int):ag Tryz.prog au 230 [(Typ.mk k m M s w e f).pv,lim nm lo hi false false false false false] (.int .i64 (if aL false false false false false (.mk k m M s w e f)=true then 3 else 0)):=by
 refine ag.intro dL.2 (by simp[dL]) ?_
 by_cases hm:m=0
 ·by_cases hM:M=0
  ·by_cases hs:s=0
   ·by_cases hw:w.length=0
    ·have hwI:¬ (0:Int)<(w.length:Int):=by omega
     by_cases he:e.length=0
     ·have heI:¬ (0:Int)<(e.length:Int):=by omega
      by_cases hf:f.length=0
      ·have hfI:¬ (0:Int)<(f.length:Int):=by omega
       rw[show (if aL false false false false false (.mk k m M s w e f)=true then (3:Int) else 0)=0 by simp[aL,hm,hM,hs,hw,he,hf]]
       simp(disch:=try exact dI) only[dL,Typ.pv_mk,lim,hm,hM,hs,push_cast,seval]
      ·have hfI:(0:Int)<(f.length:Int):=by omega
       rw[show (if aL false false false false false (.mk k m M s w e f)=true then (3:Int) else 0)=3 by simp[aL,hm,hM,hs,hw,he,hf]]
       simp(disch:=try exact dI) only[dL,Typ.pv_mk,lim,hm,hM,hs,push_cast,seval]
     ·have heI:(0:Int)<(e.length:Int):=by omega
      rw[show (if aL false false false false false (.mk k m M s w e f)=true then (3:Int) else 0)=3 by simp[aL,hm,hM,hs,hw,he]]
      simp(disch:=try exact dI) only[dL,Typ.pv_mk,lim,hm,hM,hs,push_cast,seval]
    ·have hwI:(0:Int)<(w.length:Int):=by omega
     rw[show (if aL false false false false false (.mk k m M s w e f)=true then (3:Int) else 0)=3 by simp[aL,hm,hM,hs,hw]]
     simp(disch:=try exact dI) only[dL,Typ.pv_mk,lim,hm,hM,hs,push_cast,seval]
   ·rw[show (if aL false false false false false (.mk k m M s w e f)=true then (3:Int) else 0)=3 by simp[aL,hm,hM,hs]]
    simp(disch:=try exact dI) only[dL,Typ.pv_mk,lim,hm,hM,hs,push_cast,seval]
  ·rw[show (if aL false false false false false (.mk k m M s w e f)=true then (3:Int) else 0)=3 by simp[aL,hm,hM]]
   simp(disch:=try exact dI) only[dL,Typ.pv_mk,lim,hm,hM,push_cast,seval]
 ·rw[show (if aL false false false false false (.mk k m M s w e f)=true then (3:Int) else 0)=3 by simp[aL,hm]]
  simp(disch:=try exact dI) only[dL,Typ.pv_mk,lim,hm,push_cast,seval]
theorem BN (k m M s:Int)(w:List (List UInt8))(e:List Typ)(f:List TFd)(nm:List UInt8)(lo hi:Int):ag Tryz.prog au 230 [(Typ.mk k m M s w e f).pv,lim nm lo hi true false false false false] (.int .i64 (if aL true false false false false (.mk k m M s w e f)=true then 3 else 0)):=by
 refine ag.intro dL.2 (by simp[dL]) ?_
 by_cases hs:s=0
 ·by_cases hw:w.length=0
  ·have hwI:¬ (0:Int)<(w.length:Int):=by omega
   by_cases he:e.length=0
   ·have heI:¬ (0:Int)<(e.length:Int):=by omega
    by_cases hf:f.length=0
    ·have hfI:¬ (0:Int)<(f.length:Int):=by omega
     rw[show (if aL true false false false false (.mk k m M s w e f)=true then (3:Int) else 0)=0 by simp[aL,hs,hw,he,hf]]
     simp(disch:=try exact dI) only[dL,Typ.pv_mk,lim,hs,push_cast,seval]
    ·have hfI:(0:Int)<(f.length:Int):=by omega
     rw[show (if aL true false false false false (.mk k m M s w e f)=true then (3:Int) else 0)=3 by simp[aL,hs,hw,he,hf]]
     simp(disch:=try exact dI) only[dL,Typ.pv_mk,lim,hs,push_cast,seval]
   ·have heI:(0:Int)<(e.length:Int):=by omega
    rw[show (if aL true false false false false (.mk k m M s w e f)=true then (3:Int) else 0)=3 by simp[aL,hs,hw,he]]
    simp(disch:=try exact dI) only[dL,Typ.pv_mk,lim,hs,push_cast,seval]
  ·have hwI:(0:Int)<(w.length:Int):=by omega
   rw[show (if aL true false false false false (.mk k m M s w e f)=true then (3:Int) else 0)=3 by simp[aL,hs,hw]]
   simp(disch:=try exact dI) only[dL,Typ.pv_mk,lim,hs,push_cast,seval]
 ·rw[show (if aL true false false false false (.mk k m M s w e f)=true then (3:Int) else 0)=3 by simp[aL,hs]]
  simp(disch:=try exact dI) only[dL,Typ.pv_mk,lim,hs,push_cast,seval]
theorem BM (k m M s:Int)(w:List (List UInt8))(e:List Typ)(f:List TFd)(nm:List UInt8)(lo hi:Int):ag Tryz.prog au 230 [(Typ.mk k m M s w e f).pv,lim nm lo hi true true false false false] (.int .i64 (if aL true true false false false (.mk k m M s w e f)=true then 3 else 0)):=by
 refine ag.intro dL.2 (by simp[dL]) ?_
 by_cases hw:w.length=0
 ·have hwI:¬ (0:Int)<(w.length:Int):=by omega
  by_cases he:e.length=0
  ·have heI:¬ (0:Int)<(e.length:Int):=by omega
   by_cases hf:f.length=0
   ·have hfI:¬ (0:Int)<(f.length:Int):=by omega
    rw[show (if aL true true false false false (.mk k m M s w e f)=true then (3:Int) else 0)=0 by simp[aL,hw,he,hf]]
    simp(disch:=try exact dI) only[dL,Typ.pv_mk,lim,push_cast,seval]
   ·have hfI:(0:Int)<(f.length:Int):=by omega
    rw[show (if aL true true false false false (.mk k m M s w e f)=true then (3:Int) else 0)=3 by simp[aL,hw,he,hf]]
    simp(disch:=try exact dI) only[dL,Typ.pv_mk,lim,push_cast,seval]
  ·have heI:(0:Int)<(e.length:Int):=by omega
   rw[show (if aL true true false false false (.mk k m M s w e f)=true then (3:Int) else 0)=3 by simp[aL,hw,he]]
   simp(disch:=try exact dI) only[dL,Typ.pv_mk,lim,push_cast,seval]
 ·have hwI:(0:Int)<(w.length:Int):=by omega
  rw[show (if aL true true false false false (.mk k m M s w e f)=true then (3:Int) else 0)=3 by simp[aL,hw]]
  simp(disch:=try exact dI) only[dL,Typ.pv_mk,lim,push_cast,seval]
theorem BI (k m M s:Int)(w:List (List UInt8))(e:List Typ)(f:List TFd)(nm:List UInt8)(lo hi:Int):ag Tryz.prog au 230 [(Typ.mk k m M s w e f).pv,lim nm lo hi true false true false false] (.int .i64 (if aL true false true false false (.mk k m M s w e f)=true then 3 else 0)):=by
 refine ag.intro dL.2 (by simp[dL]) ?_
 by_cases hs:s=0
 ·by_cases he:e.length=0
  ·have heI:¬ (0:Int)<(e.length:Int):=by omega
   by_cases hf:f.length=0
   ·have hfI:¬ (0:Int)<(f.length:Int):=by omega
    rw[show (if aL true false true false false (.mk k m M s w e f)=true then (3:Int) else 0)=0 by simp[aL,hs,he,hf]]
    simp(disch:=try exact dI) only[dL,Typ.pv_mk,lim,hs,push_cast,seval]
   ·have hfI:(0:Int)<(f.length:Int):=by omega
    rw[show (if aL true false true false false (.mk k m M s w e f)=true then (3:Int) else 0)=3 by simp[aL,hs,he,hf]]
    simp(disch:=try exact dI) only[dL,Typ.pv_mk,lim,hs,push_cast,seval]
  ·have heI:(0:Int)<(e.length:Int):=by omega
   rw[show (if aL true false true false false (.mk k m M s w e f)=true then (3:Int) else 0)=3 by simp[aL,hs,he]]
   simp(disch:=try exact dI) only[dL,Typ.pv_mk,lim,hs,push_cast,seval]
 ·rw[show (if aL true false true false false (.mk k m M s w e f)=true then (3:Int) else 0)=3 by simp[aL,hs]]
  simp(disch:=try exact dI) only[dL,Typ.pv_mk,lim,hs,push_cast,seval]
theorem BL (k m M s:Int)(w:List (List UInt8))(e:List Typ)(f:List TFd)(nm:List UInt8)(lo hi:Int):ag Tryz.prog au 230 [(Typ.mk k m M s w e f).pv,lim nm lo hi true false false true false] (.int .i64 (if aL true false false true false (.mk k m M s w e f)=true then 3 else 0)):=by
 refine ag.intro dL.2 (by simp[dL]) ?_
 by_cases hs:s=0
 ·by_cases hw:w.length=0
  ·have hwI:¬ (0:Int)<(w.length:Int):=by omega
   by_cases hf:f.length=0
   ·have hfI:¬ (0:Int)<(f.length:Int):=by omega
    rw[show (if aL true false false true false (.mk k m M s w e f)=true then (3:Int) else 0)=0 by simp[aL,hs,hw,hf]]
    simp(disch:=try exact dI) only[dL,Typ.pv_mk,lim,hs,push_cast,seval]
   ·have hfI:(0:Int)<(f.length:Int):=by omega
    rw[show (if aL true false false true false (.mk k m M s w e f)=true then (3:Int) else 0)=3 by simp[aL,hs,hw,hf]]
    simp(disch:=try exact dI) only[dL,Typ.pv_mk,lim,hs,push_cast,seval]
  ·have hwI:(0:Int)<(w.length:Int):=by omega
   rw[show (if aL true false false true false (.mk k m M s w e f)=true then (3:Int) else 0)=3 by simp[aL,hs,hw]]
   simp(disch:=try exact dI) only[dL,Typ.pv_mk,lim,hs,push_cast,seval]
 ·rw[show (if aL true false false true false (.mk k m M s w e f)=true then (3:Int) else 0)=3 by simp[aL,hs]]
  simp(disch:=try exact dI) only[dL,Typ.pv_mk,lim,hs,push_cast,seval]
theorem BJ (k m M s:Int)(w:List (List UInt8))(e:List Typ)(f:List TFd)(nm:List UInt8)(lo hi:Int):ag Tryz.prog au 230 [(Typ.mk k m M s w e f).pv,lim nm lo hi false false false false true] (.int .i64 (if aL false false false false true (.mk k m M s w e f)=true then 3 else 0)):=by
 refine ag.intro dL.2 (by simp[dL]) ?_
 by_cases hm:m=0
 ·by_cases hM:M=0
  ·by_cases hs:s=0
   ·by_cases hw:w.length=0
    ·have hwI:¬ (0:Int)<(w.length:Int):=by omega
     by_cases he:e.length=0
     ·have heI:¬ (0:Int)<(e.length:Int):=by omega
      rw[show (if aL false false false false true (.mk k m M s w e f)=true then (3:Int) else 0)=0 by simp[aL,hm,hM,hs,hw,he]]
      simp(disch:=try exact dI) only[dL,Typ.pv_mk,lim,hm,hM,hs,push_cast,seval]
     ·have heI:(0:Int)<(e.length:Int):=by omega
      rw[show (if aL false false false false true (.mk k m M s w e f)=true then (3:Int) else 0)=3 by simp[aL,hm,hM,hs,hw,he]]
      simp(disch:=try exact dI) only[dL,Typ.pv_mk,lim,hm,hM,hs,push_cast,seval]
    ·have hwI:(0:Int)<(w.length:Int):=by omega
     rw[show (if aL false false false false true (.mk k m M s w e f)=true then (3:Int) else 0)=3 by simp[aL,hm,hM,hs,hw]]
     simp(disch:=try exact dI) only[dL,Typ.pv_mk,lim,hm,hM,hs,push_cast,seval]
   ·rw[show (if aL false false false false true (.mk k m M s w e f)=true then (3:Int) else 0)=3 by simp[aL,hm,hM,hs]]
    simp(disch:=try exact dI) only[dL,Typ.pv_mk,lim,hm,hM,hs,push_cast,seval]
  ·rw[show (if aL false false false false true (.mk k m M s w e f)=true then (3:Int) else 0)=3 by simp[aL,hm,hM]]
   simp(disch:=try exact dI) only[dL,Typ.pv_mk,lim,hm,hM,push_cast,seval]
 ·rw[show (if aL false false false false true (.mk k m M s w e f)=true then (3:Int) else 0)=3 by simp[aL,hm]]
  simp(disch:=try exact dI) only[dL,Typ.pv_mk,lim,hm,push_cast,seval]
def fQ (w:List UInt8):Val:=.mk 4 0 0 w [] []
def n8 (w:List UInt8):Int:=if gh w.length 1024 5=0 then (if Lib.validD w=true then 0 else 16) else gh w.length 1024 5
theorem IK (w:List UInt8):ag Tryz.prog au 166 [.str w] (fQ w).pv:=by
 refine ag.intro Mh.2 (by simp[Mh]) ?_
 simp only[fQ,Val.pv_mk,List.map_nil]
 simp(disch:=try exact dI) only[Mh,push_cast,seval]
theorem Ai (w:List UInt8):eR 1 1 (fQ w)=[(1,fQ w)]:=by
 simp[eR,cx,fQ,Val.kind]
theorem GH (w:List UInt8):pu 0 (eR 1 1 (fQ w))=n8 w:=by
 rw[Ai,pu,yS (by omega) (by simp) (by simp[ba,fQ]) (by simp[fQ,Val.kind]) (by simp[aD,fQ])]
 simp only[pu]
 have e:bG (fQ w)=n8 w:=rfl
 rw[e]
 split
 ·rename_i h;exact h.symm
 ·rfl
theorem CF (w:List UInt8)(hw:w.length<=140737488351232):ag Tryz.prog au 233 [(fQ w).pv] (.int .i64 (n8 w)):=by
 have:=tV 1 (fQ w) (by simp[kU,cx,fQ,Val.kind]) (by simp[fQ,Val.ok_mk,I64,hw])
 rw[GH] at this
 exact this
def iO:Option (List UInt8)->List (List UInt8)->Int
 | _,[]=>0
 | p,w::r=>if n8 w=0 then (if p=some w then 7 else if (p.any fun q=>aR w q)=true then 24 else iO (some w) r) else n8 w
theorem pS {ws:List (List UInt8)}{i:Nat}{w:List UInt8}(h:ws[i]? = some w)(p:Option (List UInt8)):iO p (ws.drop i)=if n8 w=0 then (if p=some w then 7 else if (p.any fun q=>aR w q)=true then 24 else iO (some w) (ws.drop (i+1))) else n8 w:=by
 have hi:i<ws.length:=(List.getElem?_eq_some_iff.1 h).1
 have he:ws[i]=w:=(List.getElem?_eq_some_iff.1 h).2
 rw[List.drop_eq_getElem_cons hi,he,iO]
def qH (ws:List (List UInt8))(i:Nat):Option (List UInt8):=if i=0 then none else ws[i - 1]?
def eH (m M:Int)(ws:List (List UInt8)):Int:=if ¬ (m=0/\M=0) then 3 else if 64<ws.length then 9 else iO none ws
theorem DJ (k m M s:Int)(ws:List (List UInt8))(e:List Typ)(f:List TFd)(hw:∀ w∈ws,w.length<=140737488351232):ag Tryz.prog au 231 [(Typ.mk k m M s ws e f).pv] (.int .i64 (eH m M ws)):=by
 refine ag.intro Mc.2 (by simp[Mc]) ?_
 by_cases hm:m=0
 ·by_cases hM:M=0
  ·by_cases h64:64<ws.length
   ·rw[show eH m M ws=9 by simp[eH,hm,hM,h64]]
    simp(disch:=try exact dI) only[Mc,Typ.pv_mk,hm,hM,push_cast,seval]
   ·rw[show eH m M ws=iO none ws by simp[eH,hm,hM,h64]]
    obtain⟨R,hR⟩:∃ R,R=iO none ws:=⟨_,rfl⟩
    rw[<- hR]
    simp(disch:=try exact dI) only[Mc,Typ.pv_mk,hm,hM,push_cast,seval]
    refine az ([]) (fun i:Nat=>[(23,.pv (.int .i64 (i:Int)))]) (fun _=>[]) (fun i=>i<=ws.length/\R=iO (qH ws i) (ws.drop i)) (fun i=>ws.length - i) (0) ?_;intro e0 σ0 n0 h0;simp(disch:=try exact dI) only[push_cast,seval] at h0;obtain⟨rfl,rfl,rfl⟩:=h0;refine⟨?_,?_,?_⟩
    ·exact qsZ
    ·exact⟨by omega,by simpa[qH] using hR⟩
    rintro i ⟨hi,hr⟩
    by_cases hlt:i<ws.length
    ·have hltI:(i:Int)<(ws.length:Int):=by omega
     obtain⟨w,hwi⟩:∃ w,ws[i]? = some w:=⟨_,List.getElem?_eq_getElem hlt⟩
     have hcp:(ws.map PV.str)[i]? = some (.str w):=by simp[hwi]
     have ht:=IK w
     have hc:=CF w (hw w (List.mem_of_getElem? hwi))
     simp only[fQ,Val.pv_mk,List.map_nil] at ht hc
     rw[pS hwi] at hr
     have hnext:qH ws (i+1)=some w:=by simp[qH,hwi]
     generalize n8 w=z at hc hr
     by_cases hz:z=0
     ·subst hz
      rw[if_pos rfl] at hr
      by_cases hi0:i=0
      ·have hiI:¬ (0:Int)<(i:Int):=by omega
       have hpn:qH ws i=none:=if_pos hi0
       rw[hpn,if_neg (by simp),if_neg (by simp),<- hnext] at hr
       simp(disch:=try exact dI) only[hcp,push_cast,seval]
       refine ab.pure ht rfl ?_
       refine zgZ ?_
       refine ab.pure hc rfl ?_
       refine zgZ ?_
       exact⟨i+1,aZ qsZ,⟨by omega,hr⟩,by omega⟩
      ·obtain⟨j,rfl⟩:∃ j,i=j+1:=⟨i - 1,by omega⟩
       obtain⟨q,hq'⟩:∃ q,ws[j]? = some q:=⟨_,List.getElem?_eq_getElem (by omega)⟩
       have hpn:qH ws (j+1)=some q:=by simp[qH,hq']
       have hcq:(ws.map PV.str)[j]? = some (.str q):=by simp[hq']
       rw[hpn] at hr
       by_cases hq:w=q
       ·subst hq
        rw[if_pos rfl] at hr
        subst hr
        simp(disch:=try exact dI) only[hcp,Int.add_sub_cancel,push_cast,seval]
        refine ab.pure ht rfl ?_
        refine zgZ ?_
        refine ab.pure hc rfl ?_
        simp(disch:=try exact dI) only[hcq,Int.add_sub_cancel,push_cast,seval]
       ·rw[if_neg (by simpa using fun e=>hq e.symm)] at hr
        cases hlt2:aR w q with
        | true=>
          rw[if_pos (by simpa using hlt2)] at hr
          subst hr
          simp(disch:=try exact dI) only[hcp,Int.add_sub_cancel,push_cast,seval]
          refine ab.pure ht rfl ?_
          refine zgZ ?_
          refine ab.pure hc rfl ?_
          simp(disch:=try exact dI) only[hcq,Int.add_sub_cancel,hq,hlt2,push_cast,seval]
        | false=>
          rw[if_neg (by simp[hlt2]),<- hnext] at hr
          simp(disch:=try exact dI) only[hcp,Int.add_sub_cancel,push_cast,seval]
          refine ab.pure ht rfl ?_
          refine zgZ ?_
          refine ab.pure hc rfl ?_
          simp(disch:=try exact dI) only[hcq,Int.add_sub_cancel,hq,hlt2,push_cast,seval]
          exact⟨j+1+1,aZ qsZ,⟨by omega,hr⟩,by omega⟩
     ·rw[if_neg hz] at hr
      subst hr
      simp(disch:=try exact dI) only[hcp,push_cast,seval]
      refine ab.pure ht rfl ?_
      refine zgZ ?_
      refine ab.pure hc rfl ?_
      exact qsZ
    ·have hie:i=ws.length:=by omega
     subst hie
     rw[List.drop_length] at hr
     rw[show R=0 from hr]
     exact qsZ
  ·rw[show eH m M ws=3 by simp[eH,hM]]
   simp(disch:=try exact dI) only[Mc,Typ.pv_mk,hm,hM,push_cast,seval]
 ·rw[show eH m M ws=3 by simp[eH,hm]]
  simp(disch:=try exact dI) only[Mc,Typ.pv_mk,hm,push_cast,seval]
def nT (n:Int)(nm:List UInt8)(g:TFd):Bool:=decide (g.name=nm)||decide (g.number=n)
def eN (n:Int)(nm:List UInt8)(nd k m M s:Int)(w:List (List UInt8))(e:List Typ)(fs:List TFd)(d:List Val):List AV:=
 [.pv (.int .i64 n),.pv (.str nm),.pv (.int .i64 nd),.pv (.int .i64 k),.pv (.int .i64 m),.pv (.int .i64 M),.pv (.int .i64 s),.pv (.list (w.map PV.str)),.pv (.list (e.map Typ.pv)),.pv (.list (fs.map TFd.pv)),.pv (.list (d.map Val.pv))]
section
variable (n:Int)(nm:List UInt8)(nd k m M s:Int)(w:List (List UInt8))(e:List Typ)(fs:List TFd)(d:List Val)
theorem NY (g:TFd):bf Tryz.prog au 1 259 [.pv g.pv,.ptr 0 0] [.cells 54 true (eN n nm nd k m M s w e fs d)] (.pv (.bool (nT n nm g))) [.cells 54 true (eN n nm nd k m M s w e fs d)]:=by
 obtain⟨n',nm',nd',⟨k',m',M',s',w',e',fs'⟩,d'⟩:=g
 by_cases h1:nm'=nm
 ·rw[show nT n nm (TFd.mk n' nm' nd' (Typ.mk k' m' M' s' w' e' fs') d')=true by simp[nT,TFd.name,h1]]
  refine bf.intro G7.2 (by simp[G7]) ?_
  simp(disch:=try exact dI) only[G7,TFd.pv_mk,Typ.pv_mk,h1,eN,push_cast,seval]
  exact aG [] qsZ
 ·by_cases h2:n'=n
  ·rw[show nT n nm (TFd.mk n' nm' nd' (Typ.mk k' m' M' s' w' e' fs') d')=true by simp[nT,TFd.number,h2]]
   refine bf.intro G7.2 (by simp[G7]) ?_
   simp(disch:=try exact dI) only[G7,TFd.pv_mk,Typ.pv_mk,h1,h2,eN,push_cast,seval]
   exact aG [] qsZ
  ·rw[show nT n nm (TFd.mk n' nm' nd' (Typ.mk k' m' M' s' w' e' fs') d')=false by simp[nT,TFd.name,TFd.number,h1,h2]]
   refine bf.intro G7.2 (by simp[G7]) ?_
   simp(disch:=try exact dI) only[G7,TFd.pv_mk,Typ.pv_mk,h1,h2,eN,push_cast,seval]
   exact aG [] qsZ
end
section
variable (n:Int)(nm:List UInt8)(nd k m M s:Int)(w:List (List UInt8))(e:List Typ)(fs:List TFd)(d:List Val)
theorem Br (l:List TFd)(hl:l.length<=9000000000000) :
  bf Tryz.prog au 1 193 [.pv (.list (l.map TFd.pv)),.clo 259 [] [.ptr 0 0]] [.cells 54 true (eN n nm nd k m M s w e fs d)] (.pv (.int .i64 (eC (nT n nm) l 0))) [.cells 54 true (eN n nm nd k m M s w e fs d)]:=by
 have hq:=fun x=>NY n nm nd k m M s w e fs d x
 generalize nT n nm=q at *
 simp only[eN] at hq ⊢
 refine bf.intro Md.2 (by simp[Md]) ?_
 simp(disch:=try exact dI) only[Md,push_cast,seval]
 refine az ([]) (fun m:Nat=>[(8,.pv (.int .i64 (m:Int)))]) (fun m=>[]) (fun m=>m<=l.length/\eC q l 0=eC q (l.drop m) m) (fun m=>l.length - m) (0) ?_;intro e0 σ0 n0 h0;simp(disch:=try exact dI) only[push_cast,seval] at h0;obtain⟨rfl,rfl,rfl⟩:=h0;refine⟨?_,?_,?_⟩
 ·exact qsZ
 ·exact⟨by omega,by simp⟩
 ·rintro m ⟨hm,he⟩
  by_cases hlt:m<l.length
  ·have hltI:(m:Int)<l.length:=by omega
   obtain⟨x,hx⟩:∃ x,l[m]? = some x:=⟨_,List.getElem?_eq_getElem hlt⟩
   have hcall:=hq x
   simp(disch:=try exact dI) only[hx,TFd.cells_len,TFd.isAgg,push_cast,seval]
   refine ab.lentK hcall [0] rfl qsZ qsZ ?_
   cases hqx:q x with
   | true=>
     rw[he,eA hx hqx]
     refine zgZ ?_
     exact aG [] qsZ
   | false=>
     rw[cK hx hqx] at he
     refine zgZ ?_
     exact⟨m+1,aZ qsZ,⟨by omega,he⟩,by omega⟩
  ·have hltI:¬ (m:Int)<l.length:=by omega
   rw[he,eB hlt]
   refine zgZ ?_
   exact aG [] qsZ
theorem rK (l:List TFd)(hl:l.length<=9000000000000) :
  bf Tryz.prog au 1 129 [.pv (.list (l.map TFd.pv)),.clo 259 [] [.ptr 0 0]] [.cells 54 true (eN n nm nd k m M s w e fs d)] (.pv (.bool (l.any (nT n nm)))) [.cells 54 true (eN n nm nd k m M s w e fs d)]:=by
 have h94:=Br n nm nd k m M s w e fs d l hl
 have hfa:=dr (p:=nT n nm) l
 simp only[eN] at h94 ⊢
 refine bf.intro Ij.2 (by simp[Ij]) ?_
 rcases bL (p:=nT n nm) l 0 with ⟨h1,h2⟩ | ⟨k,x,h1,h2,h3⟩
 ·rw[h2] at h94
  rw[h1] at hfa
  rw[<- hfa]
  simp(disch:=try exact dI) only[Ij,push_cast,seval]
  refine ab.lentK h94 [0] rfl qsZ qsZ ?_
  refine zgZ ?_
  exact aG [] (by simp(disch:=try exact dI) only[Option.isSome_none,push_cast,seval])
 ·rw[h3] at h94
  rw[h2] at hfa
  rw[<- hfa]
  have hk:(0:Int)<=((0+k:Nat):Int):=by omega
  generalize ((0+k:Nat):Int)=z at *
  simp(disch:=try exact dI) only[Ij,push_cast,seval]
  refine ab.lentK h94 [0] rfl qsZ qsZ ?_
  refine zgZ ?_
  exact aG [] (by simp(disch:=try exact dI) only[Option.isSome_some,push_cast,seval])
end
end Go.Proofs.YtbojpfpliibfbaaGreatDoor
