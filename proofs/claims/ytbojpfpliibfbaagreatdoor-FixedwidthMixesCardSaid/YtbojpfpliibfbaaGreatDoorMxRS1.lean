/- A part of the proof. -/
import Derived.Test.YtbojpfpliibfbaaGreatDoorMxRR5
set_option maxHeartbeats 16000000
set_option maxRecDepth 100000
set_option linter.unusedVariables false
set_option linter.unusedSimpArgs false
namespace Go.Proofs.YtbojpfpliibfbaaGreatDoor
open Go Go.Ab
attribute [local irreducible] vc
def inB (n a b:Int):Bool:=decide (a<=n)&&decide (n<=b)
theorem pq (n a b:Int):ag Tryz.prog aq 228 [.int .i64 n,.int .i64 a,.int .i64 b] (.bool (inB n a b)):=by
 refine ag.intro QL.2 (by simp[QL]) ?_
 by_cases h1:a<=n
 ·by_cases h2:n<=b
  ·rw[show inB n a b=true by simp[inB,h1,h2]]
   simp(disch:=try exact dI) only[QL,push_cast,seval]
  ·rw[show inB n a b=false by simp[inB,h2]]
   simp(disch:=try exact dI) only[QL,push_cast,seval]
 ·rw[show inB n a b=false by simp[inB,h1]]
  simp(disch:=try exact dI) only[QL,push_cast,seval]
def lim (nm:List UInt8)(lo hi:Int)(b1 b2 b3 b4 b5:Bool):PV:=.agg [.str nm,.int .i64 lo,.int .i64 hi,.bool b1,.bool b2,.bool b3,.bool b4,.bool b5]
def aK (b1 b2 b3 b4 b5:Bool):Typ->Bool
 | .mk k m M s w e f=>(!b1&&!(decide (m=0)&&decide (M=0)))||((!b2&&!decide (s=0))||((!b3&&!decide (w.length=0))||((!b4&&!decide (e.length=0))||(!b5&&!decide (f.length=0)))))
theorem CV (k m M s:Int)(w:List (List UInt8))(e:List Typ)(f:List TFd)(nm:List UInt8)(lo hi:Int):ag Tryz.prog aq 230 [(Typ.mk k m M s w e f).pv,lim nm lo hi false false false false false] (.int .i64 (if aK false false false false false (.mk k m M s w e f)=true then 3 else 0)):=by
 refine ag.intro dG.2 (by simp[dG]) ?_
 by_cases hm:m=0
 ·by_cases hM:M=0
  ·by_cases hs:s=0
   ·by_cases hw:w.length=0
    ·have hwI:¬ (0:Int)<(w.length:Int):=by omega
     by_cases he:e.length=0
     ·have heI:¬ (0:Int)<(e.length:Int):=by omega
      by_cases hf:f.length=0
      ·have hfI:¬ (0:Int)<(f.length:Int):=by omega
       rw[show (if aK false false false false false (.mk k m M s w e f)=true then (3:Int) else 0)=0 by simp[aK,hm,hM,hs,hw,he,hf]]
       simp(disch:=try exact dI) only[dG,Typ.pv_mk,lim,hm,hM,hs,push_cast,seval]
      ·have hfI:(0:Int)<(f.length:Int):=by omega
       rw[show (if aK false false false false false (.mk k m M s w e f)=true then (3:Int) else 0)=3 by simp[aK,hm,hM,hs,hw,he,hf]]
       simp(disch:=try exact dI) only[dG,Typ.pv_mk,lim,hm,hM,hs,push_cast,seval]
     ·have heI:(0:Int)<(e.length:Int):=by omega
      rw[show (if aK false false false false false (.mk k m M s w e f)=true then (3:Int) else 0)=3 by simp[aK,hm,hM,hs,hw,he]]
      simp(disch:=try exact dI) only[dG,Typ.pv_mk,lim,hm,hM,hs,push_cast,seval]
    ·have hwI:(0:Int)<(w.length:Int):=by omega
     rw[show (if aK false false false false false (.mk k m M s w e f)=true then (3:Int) else 0)=3 by simp[aK,hm,hM,hs,hw]]
     simp(disch:=try exact dI) only[dG,Typ.pv_mk,lim,hm,hM,hs,push_cast,seval]
   ·rw[show (if aK false false false false false (.mk k m M s w e f)=true then (3:Int) else 0)=3 by simp[aK,hm,hM,hs]]
    simp(disch:=try exact dI) only[dG,Typ.pv_mk,lim,hm,hM,hs,push_cast,seval]
  ·rw[show (if aK false false false false false (.mk k m M s w e f)=true then (3:Int) else 0)=3 by simp[aK,hm,hM]]
   simp(disch:=try exact dI) only[dG,Typ.pv_mk,lim,hm,hM,push_cast,seval]
 ·rw[show (if aK false false false false false (.mk k m M s w e f)=true then (3:Int) else 0)=3 by simp[aK,hm]]
  simp(disch:=try exact dI) only[dG,Typ.pv_mk,lim,hm,push_cast,seval]
theorem CY (k m M s:Int)(w:List (List UInt8))(e:List Typ)(f:List TFd)(nm:List UInt8)(lo hi:Int):ag Tryz.prog aq 230 [(Typ.mk k m M s w e f).pv,lim nm lo hi true false false false false] (.int .i64 (if aK true false false false false (.mk k m M s w e f)=true then 3 else 0)):=by
 refine ag.intro dG.2 (by simp[dG]) ?_
 by_cases hs:s=0
 ·by_cases hw:w.length=0
  ·have hwI:¬ (0:Int)<(w.length:Int):=by omega
   by_cases he:e.length=0
   ·have heI:¬ (0:Int)<(e.length:Int):=by omega
    by_cases hf:f.length=0
    ·have hfI:¬ (0:Int)<(f.length:Int):=by omega
     rw[show (if aK true false false false false (.mk k m M s w e f)=true then (3:Int) else 0)=0 by simp[aK,hs,hw,he,hf]]
     simp(disch:=try exact dI) only[dG,Typ.pv_mk,lim,hs,push_cast,seval]
    ·have hfI:(0:Int)<(f.length:Int):=by omega
     rw[show (if aK true false false false false (.mk k m M s w e f)=true then (3:Int) else 0)=3 by simp[aK,hs,hw,he,hf]]
     simp(disch:=try exact dI) only[dG,Typ.pv_mk,lim,hs,push_cast,seval]
   ·have heI:(0:Int)<(e.length:Int):=by omega
    rw[show (if aK true false false false false (.mk k m M s w e f)=true then (3:Int) else 0)=3 by simp[aK,hs,hw,he]]
    simp(disch:=try exact dI) only[dG,Typ.pv_mk,lim,hs,push_cast,seval]
  ·have hwI:(0:Int)<(w.length:Int):=by omega
   rw[show (if aK true false false false false (.mk k m M s w e f)=true then (3:Int) else 0)=3 by simp[aK,hs,hw]]
   simp(disch:=try exact dI) only[dG,Typ.pv_mk,lim,hs,push_cast,seval]
 ·rw[show (if aK true false false false false (.mk k m M s w e f)=true then (3:Int) else 0)=3 by simp[aK,hs]]
  simp(disch:=try exact dI) only[dG,Typ.pv_mk,lim,hs,push_cast,seval]
theorem CX (k m M s:Int)(w:List (List UInt8))(e:List Typ)(f:List TFd)(nm:List UInt8)(lo hi:Int):ag Tryz.prog aq 230 [(Typ.mk k m M s w e f).pv,lim nm lo hi true true false false false] (.int .i64 (if aK true true false false false (.mk k m M s w e f)=true then 3 else 0)):=by
 refine ag.intro dG.2 (by simp[dG]) ?_
 by_cases hw:w.length=0
 ·have hwI:¬ (0:Int)<(w.length:Int):=by omega
  by_cases he:e.length=0
  ·have heI:¬ (0:Int)<(e.length:Int):=by omega
   by_cases hf:f.length=0
   ·have hfI:¬ (0:Int)<(f.length:Int):=by omega
    rw[show (if aK true true false false false (.mk k m M s w e f)=true then (3:Int) else 0)=0 by simp[aK,hw,he,hf]]
    simp(disch:=try exact dI) only[dG,Typ.pv_mk,lim,push_cast,seval]
   ·have hfI:(0:Int)<(f.length:Int):=by omega
    rw[show (if aK true true false false false (.mk k m M s w e f)=true then (3:Int) else 0)=3 by simp[aK,hw,he,hf]]
    simp(disch:=try exact dI) only[dG,Typ.pv_mk,lim,push_cast,seval]
  ·have heI:(0:Int)<(e.length:Int):=by omega
   rw[show (if aK true true false false false (.mk k m M s w e f)=true then (3:Int) else 0)=3 by simp[aK,hw,he]]
   simp(disch:=try exact dI) only[dG,Typ.pv_mk,lim,push_cast,seval]
 ·have hwI:(0:Int)<(w.length:Int):=by omega
  rw[show (if aK true true false false false (.mk k m M s w e f)=true then (3:Int) else 0)=3 by simp[aK,hw]]
  simp(disch:=try exact dI) only[dG,Typ.pv_mk,lim,push_cast,seval]
theorem CT (k m M s:Int)(w:List (List UInt8))(e:List Typ)(f:List TFd)(nm:List UInt8)(lo hi:Int):ag Tryz.prog aq 230 [(Typ.mk k m M s w e f).pv,lim nm lo hi true false true false false] (.int .i64 (if aK true false true false false (.mk k m M s w e f)=true then 3 else 0)):=by
 refine ag.intro dG.2 (by simp[dG]) ?_
 by_cases hs:s=0
 ·by_cases he:e.length=0
  ·have heI:¬ (0:Int)<(e.length:Int):=by omega
   by_cases hf:f.length=0
   ·have hfI:¬ (0:Int)<(f.length:Int):=by omega
    rw[show (if aK true false true false false (.mk k m M s w e f)=true then (3:Int) else 0)=0 by simp[aK,hs,he,hf]]
    simp(disch:=try exact dI) only[dG,Typ.pv_mk,lim,hs,push_cast,seval]
   ·have hfI:(0:Int)<(f.length:Int):=by omega
    rw[show (if aK true false true false false (.mk k m M s w e f)=true then (3:Int) else 0)=3 by simp[aK,hs,he,hf]]
    simp(disch:=try exact dI) only[dG,Typ.pv_mk,lim,hs,push_cast,seval]
  ·have heI:(0:Int)<(e.length:Int):=by omega
   rw[show (if aK true false true false false (.mk k m M s w e f)=true then (3:Int) else 0)=3 by simp[aK,hs,he]]
   simp(disch:=try exact dI) only[dG,Typ.pv_mk,lim,hs,push_cast,seval]
 ·rw[show (if aK true false true false false (.mk k m M s w e f)=true then (3:Int) else 0)=3 by simp[aK,hs]]
  simp(disch:=try exact dI) only[dG,Typ.pv_mk,lim,hs,push_cast,seval]
theorem CW (k m M s:Int)(w:List (List UInt8))(e:List Typ)(f:List TFd)(nm:List UInt8)(lo hi:Int):ag Tryz.prog aq 230 [(Typ.mk k m M s w e f).pv,lim nm lo hi true false false true false] (.int .i64 (if aK true false false true false (.mk k m M s w e f)=true then 3 else 0)):=by
 refine ag.intro dG.2 (by simp[dG]) ?_
 by_cases hs:s=0
 ·by_cases hw:w.length=0
  ·have hwI:¬ (0:Int)<(w.length:Int):=by omega
   by_cases hf:f.length=0
   ·have hfI:¬ (0:Int)<(f.length:Int):=by omega
    rw[show (if aK true false false true false (.mk k m M s w e f)=true then (3:Int) else 0)=0 by simp[aK,hs,hw,hf]]
    simp(disch:=try exact dI) only[dG,Typ.pv_mk,lim,hs,push_cast,seval]
   ·have hfI:(0:Int)<(f.length:Int):=by omega
    rw[show (if aK true false false true false (.mk k m M s w e f)=true then (3:Int) else 0)=3 by simp[aK,hs,hw,hf]]
    simp(disch:=try exact dI) only[dG,Typ.pv_mk,lim,hs,push_cast,seval]
  ·have hwI:(0:Int)<(w.length:Int):=by omega
   rw[show (if aK true false false true false (.mk k m M s w e f)=true then (3:Int) else 0)=3 by simp[aK,hs,hw]]
   simp(disch:=try exact dI) only[dG,Typ.pv_mk,lim,hs,push_cast,seval]
 ·rw[show (if aK true false false true false (.mk k m M s w e f)=true then (3:Int) else 0)=3 by simp[aK,hs]]
  simp(disch:=try exact dI) only[dG,Typ.pv_mk,lim,hs,push_cast,seval]
theorem CU (k m M s:Int)(w:List (List UInt8))(e:List Typ)(f:List TFd)(nm:List UInt8)(lo hi:Int):ag Tryz.prog aq 230 [(Typ.mk k m M s w e f).pv,lim nm lo hi false false false false true] (.int .i64 (if aK false false false false true (.mk k m M s w e f)=true then 3 else 0)):=by
 refine ag.intro dG.2 (by simp[dG]) ?_
 by_cases hm:m=0
 ·by_cases hM:M=0
  ·by_cases hs:s=0
   ·by_cases hw:w.length=0
    ·have hwI:¬ (0:Int)<(w.length:Int):=by omega
     by_cases he:e.length=0
     ·have heI:¬ (0:Int)<(e.length:Int):=by omega
      rw[show (if aK false false false false true (.mk k m M s w e f)=true then (3:Int) else 0)=0 by simp[aK,hm,hM,hs,hw,he]]
      simp(disch:=try exact dI) only[dG,Typ.pv_mk,lim,hm,hM,hs,push_cast,seval]
     ·have heI:(0:Int)<(e.length:Int):=by omega
      rw[show (if aK false false false false true (.mk k m M s w e f)=true then (3:Int) else 0)=3 by simp[aK,hm,hM,hs,hw,he]]
      simp(disch:=try exact dI) only[dG,Typ.pv_mk,lim,hm,hM,hs,push_cast,seval]
    ·have hwI:(0:Int)<(w.length:Int):=by omega
     rw[show (if aK false false false false true (.mk k m M s w e f)=true then (3:Int) else 0)=3 by simp[aK,hm,hM,hs,hw]]
     simp(disch:=try exact dI) only[dG,Typ.pv_mk,lim,hm,hM,hs,push_cast,seval]
   ·rw[show (if aK false false false false true (.mk k m M s w e f)=true then (3:Int) else 0)=3 by simp[aK,hm,hM,hs]]
    simp(disch:=try exact dI) only[dG,Typ.pv_mk,lim,hm,hM,hs,push_cast,seval]
  ·rw[show (if aK false false false false true (.mk k m M s w e f)=true then (3:Int) else 0)=3 by simp[aK,hm,hM]]
   simp(disch:=try exact dI) only[dG,Typ.pv_mk,lim,hm,hM,push_cast,seval]
 ·rw[show (if aK false false false false true (.mk k m M s w e f)=true then (3:Int) else 0)=3 by simp[aK,hm]]
  simp(disch:=try exact dI) only[dG,Typ.pv_mk,lim,hm,push_cast,seval]
def fR (w:List UInt8):Val:=.mk 4 0 0 w [] []
def oc (w:List UInt8):Int:=if iv w.length 1024 5=0 then (if Lib.validD w=true then 0 else 16) else iv w.length 1024 5
theorem Ke (w:List UInt8):ag Tryz.prog aq 166 [.str w] (fR w).pv:=by
 refine ag.intro NC.2 (by simp[NC]) ?_
 simp only[fR,Val.pv_mk,List.map_nil]
 simp(disch:=try exact dI) only[NC,push_cast,seval]
theorem Bv (w:List UInt8):eQ 1 1 (fR w)=[(1,fR w)]:=by
 simp[eQ,cy,fR,Val.kind]
theorem H4 (w:List UInt8):qo 0 (eQ 1 1 (fR w))=oc w:=by
 rw[Bv,qo,Al (by omega) (by simp) (by simp[bv,fR]) (by simp[fR,Val.kind]) (by simp[eN,fR])]
 simp only[qo]
 have e:bJ (fR w)=oc w:=rfl
 rw[e]
 split
 ·rename_i h;exact h.symm
 ·rfl
theorem DM (w:List UInt8)(hw:w.length<=140737488351232):ag Tryz.prog aq 233 [(fR w).pv] (.int .i64 (oc w)):=by
 have:=ur 1 (fR w) (by simp[ly,cy,fR,Val.kind]) (by simp[fR,Val.ok_mk,I64,hw])
 rw[H4] at this
 exact this
def iN:Option (List UInt8)->List (List UInt8)->Int
 | _,[]=>0
 | p,w::r=>if oc w=0 then (if p=some w then 7 else if (p.any fun q=>bj w q)=true then 24 else iN (some w) r) else oc w
theorem qv {ws:List (List UInt8)}{i:Nat}{w:List UInt8}(h:ws[i]? = some w)(p:Option (List UInt8)):iN p (ws.drop i)=if oc w=0 then (if p=some w then 7 else if (p.any fun q=>bj w q)=true then 24 else iN (some w) (ws.drop (i+1))) else oc w:=by
 have hi:i<ws.length:=(List.getElem?_eq_some_iff.1 h).1
 have he:ws[i]=w:=(List.getElem?_eq_some_iff.1 h).2
 rw[List.drop_eq_getElem_cons hi,he,iN]
def ri (ws:List (List UInt8))(i:Nat):Option (List UInt8):=if i=0 then none else ws[i - 1]?
def eB (m M:Int)(ws:List (List UInt8)):Int:=if ¬ (m=0/\M=0) then 3 else if 64<ws.length then 9 else iN none ws
theorem EW (k m M s:Int)(ws:List (List UInt8))(e:List Typ)(f:List TFd)(hw:∀ w∈ws,w.length<=140737488351232):ag Tryz.prog aq 231 [(Typ.mk k m M s ws e f).pv] (.int .i64 (eB m M ws)):=by
 refine ag.intro Nw.2 (by simp[Nw]) ?_
 by_cases hm:m=0
 ·by_cases hM:M=0
  ·by_cases h64:64<ws.length
   ·rw[show eB m M ws=9 by simp[eB,hm,hM,h64]]
    simp(disch:=try exact dI) only[Nw,Typ.pv_mk,hm,hM,push_cast,seval]
   ·rw[show eB m M ws=iN none ws by simp[eB,hm,hM,h64]]
    obtain⟨R,hR⟩:∃ R,R=iN none ws:=⟨_,rfl⟩
    rw[<- hR]
    simp(disch:=try exact dI) only[Nw,Typ.pv_mk,hm,hM,push_cast,seval]
    refine az ([]) (fun i:Nat=>[(23,.pv (.int .i64 (i:Int)))]) (fun _=>[]) (fun i=>i<=ws.length/\R=iN (ri ws i) (ws.drop i)) (fun i=>ws.length - i) (0) ?_;intro e0 σ0 n0 h0;simp(disch:=try exact dI) only[push_cast,seval] at h0;obtain⟨rfl,rfl,rfl⟩:=h0;refine⟨?_,?_,?_⟩
    ·exact qsZ
    ·exact⟨by omega,by simpa[ri] using hR⟩
    rintro i ⟨hi,hr⟩
    by_cases hlt:i<ws.length
    ·have hltI:(i:Int)<(ws.length:Int):=by omega
     obtain⟨w,hwi⟩:∃ w,ws[i]? = some w:=⟨_,List.getElem?_eq_getElem hlt⟩
     have hcp:(ws.map PV.str)[i]? = some (.str w):=by simp[hwi]
     have ht:=Ke w
     have hc:=DM w (hw w (List.mem_of_getElem? hwi))
     simp only[fR,Val.pv_mk,List.map_nil] at ht hc
     rw[qv hwi] at hr
     have hnext:ri ws (i+1)=some w:=by simp[ri,hwi]
     generalize oc w=z at hc hr
     by_cases hz:z=0
     ·subst hz
      rw[if_pos rfl] at hr
      by_cases hi0:i=0
      ·have hiI:¬ (0:Int)<(i:Int):=by omega
       have hpn:ri ws i=none:=if_pos hi0
       rw[hpn,if_neg (by simp),if_neg (by simp),<- hnext] at hr
       simp(disch:=try exact dI) only[hcp,push_cast,seval]
       refine ab.pure ht rfl ?_
       refine zgZ ?_
       refine ab.pure hc rfl ?_
       refine zgZ ?_
       exact⟨i+1,aV qsZ,⟨by omega,hr⟩,by omega⟩
      ·obtain⟨j,rfl⟩:∃ j,i=j+1:=⟨i - 1,by omega⟩
       obtain⟨q,hq'⟩:∃ q,ws[j]? = some q:=⟨_,List.getElem?_eq_getElem (by omega)⟩
       have hpn:ri ws (j+1)=some q:=by simp[ri,hq']
       have hcq:(ws.map PV.str)[j]? = some (.str q):=by simp[hq']
       rw[hpn] at hr
       by_cases hq:w=q
       ·subst hq
        rw[if_pos rfl] at hr
        subst hr
        simp(disch:=try exact dI) only[hcp,Int.add_sub_cancel,push_cast,seval]
        refine ab.pure ht rfl ?_
        refine zgZ ?_
        refine ab.pure hc rfl ?_
        simp(disch:=try exact dI) only[hcq,Int.add_sub_cancel,push_cast,seval]
       ·rw[if_neg (by simpa using fun e=>hq e.symm)] at hr
        cases hlt2:bj w q with
        | true=>
          rw[if_pos (by simpa using hlt2)] at hr
          subst hr
          simp(disch:=try exact dI) only[hcp,Int.add_sub_cancel,push_cast,seval]
          refine ab.pure ht rfl ?_
          refine zgZ ?_
          refine ab.pure hc rfl ?_
          simp(disch:=try exact dI) only[hcq,Int.add_sub_cancel,hq,hlt2,push_cast,seval]
        | false=>
          rw[if_neg (by simp[hlt2]),<- hnext] at hr
          simp(disch:=try exact dI) only[hcp,Int.add_sub_cancel,push_cast,seval]
          refine ab.pure ht rfl ?_
          refine zgZ ?_
          refine ab.pure hc rfl ?_
          simp(disch:=try exact dI) only[hcq,Int.add_sub_cancel,hq,hlt2,push_cast,seval]
          exact⟨j+1+1,aV qsZ,⟨by omega,hr⟩,by omega⟩
     ·rw[if_neg hz] at hr
      subst hr
      simp(disch:=try exact dI) only[hcp,push_cast,seval]
      refine ab.pure ht rfl ?_
      refine zgZ ?_
      refine ab.pure hc rfl ?_
      exact qsZ
    ·have hie:i=ws.length:=by omega
     subst hie
     rw[List.drop_length] at hr
     rw[show R=0 from hr]
     exact qsZ
  ·rw[show eB m M ws=3 by simp[eB,hM]]
   simp(disch:=try exact dI) only[Nw,Typ.pv_mk,hm,hM,push_cast,seval]
 ·rw[show eB m M ws=3 by simp[eB,hm]]
  simp(disch:=try exact dI) only[Nw,Typ.pv_mk,hm,push_cast,seval]
def nV (n:Int)(nm:List UInt8)(g:TFd):Bool:=decide (g.name=nm)||decide (g.number=n)
def eJ (n:Int)(nm:List UInt8)(nd k m M s:Int)(w:List (List UInt8))(e:List Typ)(fs:List TFd)(d:List Val):List AV:=
 [.pv (.int .i64 n),.pv (.str nm),.pv (.int .i64 nd),.pv (.int .i64 k),.pv (.int .i64 m),.pv (.int .i64 M),.pv (.int .i64 s),.pv (.list (w.map PV.str)),.pv (.list (e.map Typ.pv)),.pv (.list (fs.map TFd.pv)),.pv (.list (d.map Val.pv))]
section
variable (n:Int)(nm:List UInt8)(nd k m M s:Int)(w:List (List UInt8))(e:List Typ)(fs:List TFd)(d:List Val)
theorem Pw (g:TFd):bO Tryz.prog aq 1 259 [.pv g.pv,.ptr 0 0] [.cells 54 true (eJ n nm nd k m M s w e fs d)] (.pv (.bool (nV n nm g))) [.cells 54 true (eJ n nm nd k m M s w e fs d)]:=by
 obtain⟨n',nm',nd',⟨k',m',M',s',w',e',fs'⟩,d'⟩:=g
 by_cases h1:nm'=nm
 ·rw[show nV n nm (TFd.mk n' nm' nd' (Typ.mk k' m' M' s' w' e' fs') d')=true by simp[nV,TFd.name,h1]]
  refine bO.intro ID.2 (by simp[ID]) ?_
  simp(disch:=try exact dI) only[ID,TFd.pv_mk,Typ.pv_mk,h1,eJ,push_cast,seval]
  exact aM [] qsZ
 ·by_cases h2:n'=n
  ·rw[show nV n nm (TFd.mk n' nm' nd' (Typ.mk k' m' M' s' w' e' fs') d')=true by simp[nV,TFd.number,h2]]
   refine bO.intro ID.2 (by simp[ID]) ?_
   simp(disch:=try exact dI) only[ID,TFd.pv_mk,Typ.pv_mk,h1,h2,eJ,push_cast,seval]
   exact aM [] qsZ
  ·rw[show nV n nm (TFd.mk n' nm' nd' (Typ.mk k' m' M' s' w' e' fs') d')=false by simp[nV,TFd.name,TFd.number,h1,h2]]
   refine bO.intro ID.2 (by simp[ID]) ?_
   simp(disch:=try exact dI) only[ID,TFd.pv_mk,Typ.pv_mk,h1,h2,eJ,push_cast,seval]
   exact aM [] qsZ
end
section
variable (n:Int)(nm:List UInt8)(nd k m M s:Int)(w:List (List UInt8))(e:List Typ)(fs:List TFd)(d:List Val)
theorem CE (l:List TFd)(hl:l.length<=9000000000000) :
  bO Tryz.prog aq 1 193 [.pv (.list (l.map TFd.pv)),.clo 259 [] [.ptr 0 0]] [.cells 54 true (eJ n nm nd k m M s w e fs d)] (.pv (.int .i64 (dF (nV n nm) l 0))) [.cells 54 true (eJ n nm nd k m M s w e fs d)]:=by
 have hq:=fun x=>Pw n nm nd k m M s w e fs d x
 generalize nV n nm=q at *
 simp only[eJ] at hq ⊢
 refine bO.intro Nx.2 (by simp[Nx]) ?_
 simp(disch:=try exact dI) only[Nx,push_cast,seval]
 refine az ([]) (fun m:Nat=>[(8,.pv (.int .i64 (m:Int)))]) (fun m=>[]) (fun m=>m<=l.length/\dF q l 0=dF q (l.drop m) m) (fun m=>l.length - m) (0) ?_;intro e0 σ0 n0 h0;simp(disch:=try exact dI) only[push_cast,seval] at h0;obtain⟨rfl,rfl,rfl⟩:=h0;refine⟨?_,?_,?_⟩
 ·exact qsZ
 ·exact⟨by omega,by simp⟩
 ·rintro m ⟨hm,he⟩
  by_cases hlt:m<l.length
  ·have hltI:(m:Int)<l.length:=by omega
   obtain⟨x,hx⟩:∃ x,l[m]? = some x:=⟨_,List.getElem?_eq_getElem hlt⟩
   have hcall:=hq x
   simp(disch:=try exact dI) only[hx,TFd.cells_len,TFd.isAgg,push_cast,seval]
   refine ab.lentK hcall [0] rfl qsZ qsZ ?_
   cases hqx:q x with
   | true=>
     rw[he,dA hx hqx]
     refine zgZ ?_
     exact aM [] qsZ
   | false=>
     rw[ci hx hqx] at he
     refine zgZ ?_
     exact⟨m+1,aV qsZ,⟨by omega,he⟩,by omega⟩
  ·have hltI:¬ (m:Int)<l.length:=by omega
   rw[he,dB hlt]
   refine zgZ ?_
   exact aM [] qsZ
theorem su (l:List TFd)(hl:l.length<=9000000000000) :
  bO Tryz.prog aq 1 129 [.pv (.list (l.map TFd.pv)),.clo 259 [] [.ptr 0 0]] [.cells 54 true (eJ n nm nd k m M s w e fs d)] (.pv (.bool (l.any (nV n nm)))) [.cells 54 true (eJ n nm nd k m M s w e fs d)]:=by
 have h94:=CE n nm nd k m M s w e fs d l hl
 have hfa:=dr (p:=nV n nm) l
 simp only[eJ] at h94 ⊢
 refine bO.intro JK.2 (by simp[JK]) ?_
 rcases bA (p:=nV n nm) l 0 with ⟨h1,h2⟩ | ⟨k,x,h1,h2,h3⟩
 ·rw[h2] at h94
  rw[h1] at hfa
  rw[<- hfa]
  simp(disch:=try exact dI) only[JK,push_cast,seval]
  refine ab.lentK h94 [0] rfl qsZ qsZ ?_
  refine zgZ ?_
  exact aM [] (by simp(disch:=try exact dI) only[Option.isSome_none,push_cast,seval])
 ·rw[h3] at h94
  rw[h2] at hfa
  rw[<- hfa]
  have hk:(0:Int)<=((0+k:Nat):Int):=by omega
  generalize ((0+k:Nat):Int)=z at *
  simp(disch:=try exact dI) only[JK,push_cast,seval]
  refine ab.lentK h94 [0] rfl qsZ qsZ ?_
  refine zgZ ?_
  exact aM [] (by simp(disch:=try exact dI) only[Option.isSome_some,push_cast,seval])
end
end Go.Proofs.YtbojpfpliibfbaaGreatDoor
