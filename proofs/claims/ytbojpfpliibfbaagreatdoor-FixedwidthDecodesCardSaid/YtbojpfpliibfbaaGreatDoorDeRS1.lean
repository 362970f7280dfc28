/- A part of the proof. -/
import Derived.Test.YtbojpfpliibfbaaGreatDoorDeRR4
set_option maxHeartbeats 16000000
set_option maxRecDepth 100000
set_option linter.unusedVariables false
set_option linter.unusedSimpArgs false
namespace Go.Proofs.YtbojpfpliibfbaaGreatDoor
open Go Go.Ab
attribute [local irreducible] vc
def inB (n a b:Int):Bool:=decide (a<=n)&&decide (n<=b)
theorem px (n a b:Int):ak Tryz.prog ap 228 [.int .i64 n,.int .i64 a,.int .i64 b] (.bool (inB n a b)):=by
 refine ak.intro Pr.2 (by simp[Pr]) ?_
 by_cases h1:a<=n
 ·by_cases h2:n<=b
  ·rw[show inB n a b=true by simp[inB,h1,h2]]
   simp(disch:=try exact dI) only[Pr,push_cast,seval]
  ·rw[show inB n a b=false by simp[inB,h2]]
   simp(disch:=try exact dI) only[Pr,push_cast,seval]
 ·rw[show inB n a b=false by simp[inB,h1]]
  simp(disch:=try exact dI) only[Pr,push_cast,seval]
theorem kJ (n a b:Int):ak Tryz.prog ap 182 [.int .i64 n,.int .i64 a,.int .i64 b] (.bool (inB n a b)):=by
 refine ak.intro Pu.2 (by simp[Pu]) ?_
 by_cases h1:a<=n
 ·by_cases h2:n<=b
  ·rw[show inB n a b=true by simp[inB,h1,h2]]
   simp(disch:=try exact dI) only[Pu,push_cast,seval]
  ·rw[show inB n a b=false by simp[inB,h2]]
   simp(disch:=try exact dI) only[Pu,push_cast,seval]
 ·rw[show inB n a b=false by simp[inB,h1]]
  simp(disch:=try exact dI) only[Pu,push_cast,seval]
def lim (nm:List UInt8)(lo hi:Int)(b1 b2 b3 b4 b5:Bool):PV:=.agg [.str nm,.int .i64 lo,.int .i64 hi,.bool b1,.bool b2,.bool b3,.bool b4,.bool b5]
def aE (b1 b2 b3 b4 b5:Bool):Typ->Bool
 | .mk k m M s w e f=>(!b1&&!(decide (m=0)&&decide (M=0)))||((!b2&&!decide (s=0))||((!b3&&!decide (w.length=0))||((!b4&&!decide (e.length=0))||(!b5&&!decide (f.length=0)))))
theorem B1 (k m M s:Int)(w:List (List UInt8))(e:List Typ)(f:List TFd)(nm:List UInt8)(lo hi:Int):ak Tryz.prog ap 230 [(Typ.mk k m M s w e f).pv,lim nm lo hi false false false false false] (.int .i64 (if aE false false false false false (.mk k m M s w e f)=true then 3 else 0)):=by
 refine ak.intro dJ.2 (by simp[dJ]) ?_
 by_cases hm:m=0
 ·by_cases hM:M=0
  ·by_cases hs:s=0
   ·by_cases hw:w.length=0
    ·have hwI:¬ (0:Int)<(w.length:Int):=by omega
     by_cases he:e.length=0
     ·have heI:¬ (0:Int)<(e.length:Int):=by omega
      by_cases hf:f.length=0
      ·have hfI:¬ (0:Int)<(f.length:Int):=by omega
       rw[show (if aE false false false false false (.mk k m M s w e f)=true then (3:Int) else 0)=0 by simp[aE,hm,hM,hs,hw,he,hf]]
       simp(disch:=try exact dI) only[dJ,Typ.pv_mk,lim,hm,hM,hs,push_cast,seval]
      ·have hfI:(0:Int)<(f.length:Int):=by omega
       rw[show (if aE false false false false false (.mk k m M s w e f)=true then (3:Int) else 0)=3 by simp[aE,hm,hM,hs,hw,he,hf]]
       simp(disch:=try exact dI) only[dJ,Typ.pv_mk,lim,hm,hM,hs,push_cast,seval]
     ·have heI:(0:Int)<(e.length:Int):=by omega
      rw[show (if aE false false false false false (.mk k m M s w e f)=true then (3:Int) else 0)=3 by simp[aE,hm,hM,hs,hw,he]]
      simp(disch:=try exact dI) only[dJ,Typ.pv_mk,lim,hm,hM,hs,push_cast,seval]
    ·have hwI:(0:Int)<(w.length:Int):=by omega
     rw[show (if aE false false false false false (.mk k m M s w e f)=true then (3:Int) else 0)=3 by simp[aE,hm,hM,hs,hw]]
     simp(disch:=try exact dI) only[dJ,Typ.pv_mk,lim,hm,hM,hs,push_cast,seval]
   ·rw[show (if aE false false false false false (.mk k m M s w e f)=true then (3:Int) else 0)=3 by simp[aE,hm,hM,hs]]
    simp(disch:=try exact dI) only[dJ,Typ.pv_mk,lim,hm,hM,hs,push_cast,seval]
  ·rw[show (if aE false false false false false (.mk k m M s w e f)=true then (3:Int) else 0)=3 by simp[aE,hm,hM]]
   simp(disch:=try exact dI) only[dJ,Typ.pv_mk,lim,hm,hM,push_cast,seval]
 ·rw[show (if aE false false false false false (.mk k m M s w e f)=true then (3:Int) else 0)=3 by simp[aE,hm]]
  simp(disch:=try exact dI) only[dJ,Typ.pv_mk,lim,hm,push_cast,seval]
theorem B4 (k m M s:Int)(w:List (List UInt8))(e:List Typ)(f:List TFd)(nm:List UInt8)(lo hi:Int):ak Tryz.prog ap 230 [(Typ.mk k m M s w e f).pv,lim nm lo hi true false false false false] (.int .i64 (if aE true false false false false (.mk k m M s w e f)=true then 3 else 0)):=by
 refine ak.intro dJ.2 (by simp[dJ]) ?_
 by_cases hs:s=0
 ·by_cases hw:w.length=0
  ·have hwI:¬ (0:Int)<(w.length:Int):=by omega
   by_cases he:e.length=0
   ·have heI:¬ (0:Int)<(e.length:Int):=by omega
    by_cases hf:f.length=0
    ·have hfI:¬ (0:Int)<(f.length:Int):=by omega
     rw[show (if aE true false false false false (.mk k m M s w e f)=true then (3:Int) else 0)=0 by simp[aE,hs,hw,he,hf]]
     simp(disch:=try exact dI) only[dJ,Typ.pv_mk,lim,hs,push_cast,seval]
    ·have hfI:(0:Int)<(f.length:Int):=by omega
     rw[show (if aE true false false false false (.mk k m M s w e f)=true then (3:Int) else 0)=3 by simp[aE,hs,hw,he,hf]]
     simp(disch:=try exact dI) only[dJ,Typ.pv_mk,lim,hs,push_cast,seval]
   ·have heI:(0:Int)<(e.length:Int):=by omega
    rw[show (if aE true false false false false (.mk k m M s w e f)=true then (3:Int) else 0)=3 by simp[aE,hs,hw,he]]
    simp(disch:=try exact dI) only[dJ,Typ.pv_mk,lim,hs,push_cast,seval]
  ·have hwI:(0:Int)<(w.length:Int):=by omega
   rw[show (if aE true false false false false (.mk k m M s w e f)=true then (3:Int) else 0)=3 by simp[aE,hs,hw]]
   simp(disch:=try exact dI) only[dJ,Typ.pv_mk,lim,hs,push_cast,seval]
 ·rw[show (if aE true false false false false (.mk k m M s w e f)=true then (3:Int) else 0)=3 by simp[aE,hs]]
  simp(disch:=try exact dI) only[dJ,Typ.pv_mk,lim,hs,push_cast,seval]
theorem B3 (k m M s:Int)(w:List (List UInt8))(e:List Typ)(f:List TFd)(nm:List UInt8)(lo hi:Int):ak Tryz.prog ap 230 [(Typ.mk k m M s w e f).pv,lim nm lo hi true true false false false] (.int .i64 (if aE true true false false false (.mk k m M s w e f)=true then 3 else 0)):=by
 refine ak.intro dJ.2 (by simp[dJ]) ?_
 by_cases hw:w.length=0
 ·have hwI:¬ (0:Int)<(w.length:Int):=by omega
  by_cases he:e.length=0
  ·have heI:¬ (0:Int)<(e.length:Int):=by omega
   by_cases hf:f.length=0
   ·have hfI:¬ (0:Int)<(f.length:Int):=by omega
    rw[show (if aE true true false false false (.mk k m M s w e f)=true then (3:Int) else 0)=0 by simp[aE,hw,he,hf]]
    simp(disch:=try exact dI) only[dJ,Typ.pv_mk,lim,push_cast,seval]
   ·have hfI:(0:Int)<(f.length:Int):=by omega
    rw[show (if aE true true false false false (.mk k m M s w e f)=true then (3:Int) else 0)=3 by simp[aE,hw,he,hf]]
    simp(disch:=try exact dI) only[dJ,Typ.pv_mk,lim,push_cast,seval]
  ·have heI:(0:Int)<(e.length:Int):=by omega
   rw[show (if aE true true false false false (.mk k m M s w e f)=true then (3:Int) else 0)=3 by simp[aE,hw,he]]
   simp(disch:=try exact dI) only[dJ,Typ.pv_mk,lim,push_cast,seval]
 ·have hwI:(0:Int)<(w.length:Int):=by omega
  rw[show (if aE true true false false false (.mk k m M s w e f)=true then (3:Int) else 0)=3 by simp[aE,hw]]
  simp(disch:=try exact dI) only[dJ,Typ.pv_mk,lim,push_cast,seval]
theorem BZ (k m M s:Int)(w:List (List UInt8))(e:List Typ)(f:List TFd)(nm:List UInt8)(lo hi:Int):ak Tryz.prog ap 230 [(Typ.mk k m M s w e f).pv,lim nm lo hi true false true false false] (.int .i64 (if aE true false true false false (.mk k m M s w e f)=true then 3 else 0)):=by
 refine ak.intro dJ.2 (by simp[dJ]) ?_
 by_cases hs:s=0
 ·by_cases he:e.length=0
  ·have heI:¬ (0:Int)<(e.length:Int):=by omega
   by_cases hf:f.length=0
   ·have hfI:¬ (0:Int)<(f.length:Int):=by omega
    rw[show (if aE true false true false false (.mk k m M s w e f)=true then (3:Int) else 0)=0 by simp[aE,hs,he,hf]]
    simp(disch:=try exact dI) only[dJ,Typ.pv_mk,lim,hs,push_cast,seval]
   ·have hfI:(0:Int)<(f.length:Int):=by omega
    rw[show (if aE true false true false false (.mk k m M s w e f)=true then (3:Int) else 0)=3 by simp[aE,hs,he,hf]]
    simp(disch:=try exact dI) only[dJ,Typ.pv_mk,lim,hs,push_cast,seval]
  ·have heI:(0:Int)<(e.length:Int):=by omega
   rw[show (if aE true false true false false (.mk k m M s w e f)=true then (3:Int) else 0)=3 by simp[aE,hs,he]]
   simp(disch:=try exact dI) only[dJ,Typ.pv_mk,lim,hs,push_cast,seval]
 ·rw[show (if aE true false true false false (.mk k m M s w e f)=true then (3:Int) else 0)=3 by simp[aE,hs]]
  simp(disch:=try exact dI) only[dJ,Typ.pv_mk,lim,hs,push_cast,seval]
theorem B2 (k m M s:Int)(w:List (List UInt8))(e:List Typ)(f:List TFd)(nm:List UInt8)(lo hi:Int):ak Tryz.prog ap 230 [(Typ.mk k m M s w e f).pv,lim nm lo hi true false false true false] (.int .i64 (if aE true false false true false (.mk k m M s w e f)=true then 3 else 0)):=by
 refine ak.intro dJ.2 (by simp[dJ]) ?_
 by_cases hs:s=0
 ·by_cases hw:w.length=0
  ·have hwI:¬ (0:Int)<(w.length:Int):=by omega
   by_cases hf:f.length=0
   ·have hfI:¬ (0:Int)<(f.length:Int):=by omega
    rw[show (if aE true false false true false (.mk k m M s w e f)=true then (3:Int) else 0)=0 by simp[aE,hs,hw,hf]]
    simp(disch:=try exact dI) only[dJ,Typ.pv_mk,lim,hs,push_cast,seval]
   ·have hfI:(0:Int)<(f.length:Int):=by omega
    rw[show (if aE true false false true false (.mk k m M s w e f)=true then (3:Int) else 0)=3 by simp[aE,hs,hw,hf]]
    simp(disch:=try exact dI) only[dJ,Typ.pv_mk,lim,hs,push_cast,seval]
  ·have hwI:(0:Int)<(w.length:Int):=by omega
   rw[show (if aE true false false true false (.mk k m M s w e f)=true then (3:Int) else 0)=3 by simp[aE,hs,hw]]
   simp(disch:=try exact dI) only[dJ,Typ.pv_mk,lim,hs,push_cast,seval]
 ·rw[show (if aE true false false true false (.mk k m M s w e f)=true then (3:Int) else 0)=3 by simp[aE,hs]]
  simp(disch:=try exact dI) only[dJ,Typ.pv_mk,lim,hs,push_cast,seval]
theorem B0 (k m M s:Int)(w:List (List UInt8))(e:List Typ)(f:List TFd)(nm:List UInt8)(lo hi:Int):ak Tryz.prog ap 230 [(Typ.mk k m M s w e f).pv,lim nm lo hi false false false false true] (.int .i64 (if aE false false false false true (.mk k m M s w e f)=true then 3 else 0)):=by
 refine ak.intro dJ.2 (by simp[dJ]) ?_
 by_cases hm:m=0
 ·by_cases hM:M=0
  ·by_cases hs:s=0
   ·by_cases hw:w.length=0
    ·have hwI:¬ (0:Int)<(w.length:Int):=by omega
     by_cases he:e.length=0
     ·have heI:¬ (0:Int)<(e.length:Int):=by omega
      rw[show (if aE false false false false true (.mk k m M s w e f)=true then (3:Int) else 0)=0 by simp[aE,hm,hM,hs,hw,he]]
      simp(disch:=try exact dI) only[dJ,Typ.pv_mk,lim,hm,hM,hs,push_cast,seval]
     ·have heI:(0:Int)<(e.length:Int):=by omega
      rw[show (if aE false false false false true (.mk k m M s w e f)=true then (3:Int) else 0)=3 by simp[aE,hm,hM,hs,hw,he]]
      simp(disch:=try exact dI) only[dJ,Typ.pv_mk,lim,hm,hM,hs,push_cast,seval]
    ·have hwI:(0:Int)<(w.length:Int):=by omega
     rw[show (if aE false false false false true (.mk k m M s w e f)=true then (3:Int) else 0)=3 by simp[aE,hm,hM,hs,hw]]
     simp(disch:=try exact dI) only[dJ,Typ.pv_mk,lim,hm,hM,hs,push_cast,seval]
   ·rw[show (if aE false false false false true (.mk k m M s w e f)=true then (3:Int) else 0)=3 by simp[aE,hm,hM,hs]]
    simp(disch:=try exact dI) only[dJ,Typ.pv_mk,lim,hm,hM,hs,push_cast,seval]
  ·rw[show (if aE false false false false true (.mk k m M s w e f)=true then (3:Int) else 0)=3 by simp[aE,hm,hM]]
   simp(disch:=try exact dI) only[dJ,Typ.pv_mk,lim,hm,hM,push_cast,seval]
 ·rw[show (if aE false false false false true (.mk k m M s w e f)=true then (3:Int) else 0)=3 by simp[aE,hm]]
  simp(disch:=try exact dI) only[dJ,Typ.pv_mk,lim,hm,push_cast,seval]
def dL (w:List UInt8):Val:=.mk 4 0 0 w [] []
def lE (w:List UInt8):Int:=if cU w.length 1024 5=0 then (if Lib.validD w=true then 0 else 16) else cU w.length 1024 5
theorem IU (w:List UInt8):ak Tryz.prog ap 166 [.str w] (dL w).pv:=by
 refine ak.intro Mp.2 (by simp[Mp]) ?_
 simp only[dL,Val.pv_mk,List.map_nil]
 simp(disch:=try exact dI) only[Mp,push_cast,seval]
theorem Ao (w:List UInt8):cJ 1 1 (dL w)=[(1,dL w)]:=by
 simp[cJ,bg,dL,Val.kind]
theorem uw (w:List UInt8):jn 0 (cJ 1 1 (dL w))=lE w:=by
 rw[Ao,jn,zc (by omega) (by simp) (by simp[aS,dL]) (by simp[dL,Val.kind]) (by simp[bj,dL])]
 simp only[jn]
 have e:bd (dL w)=lE w:=rfl
 rw[e]
 split
 ·rename_i h;exact h.symm
 ·rfl
theorem CW (w:List UInt8)(hw:w.length<=140737488351232):ak Tryz.prog ap 233 [(dL w).pv] (.int .i64 (lE w)):=by
 have:=uC 1 (dL w) (by simp[cW,bg,dL,Val.kind]) (by simp[dL,Val.ok_mk,I64,hw])
 rw[uw] at this
 exact this
def eN:Option (List UInt8)->List (List UInt8)->Int
 | _,[]=>0
 | p,w::r=>if lE w=0 then (if p=some w then 7 else if (p.any fun q=>bf w q)=true then 24 else eN (some w) r) else lE w
theorem jO {ws:List (List UInt8)}{i:Nat}{w:List UInt8}(h:ws[i]? = some w)(p:Option (List UInt8)):eN p (ws.drop i)=if lE w=0 then (if p=some w then 7 else if (p.any fun q=>bf w q)=true then 24 else eN (some w) (ws.drop (i+1))) else lE w:=by
 have hi:i<ws.length:=(List.getElem?_eq_some_iff.1 h).1
 have he:ws[i]=w:=(List.getElem?_eq_some_iff.1 h).2
 rw[List.drop_eq_getElem_cons hi,he,eN]
def gH (ws:List (List UInt8))(i:Nat):Option (List UInt8):=if i=0 then none else ws[i - 1]?
def bA (m M:Int)(ws:List (List UInt8)):Int:=if ¬ (m=0/\M=0) then 3 else if 64<ws.length then 9 else eN none ws
theorem DZ (k m M s:Int)(ws:List (List UInt8))(e:List Typ)(f:List TFd)(hw:∀ w∈ws,w.length<=140737488351232):ak Tryz.prog ap 231 [(Typ.mk k m M s ws e f).pv] (.int .i64 (bA m M ws)):=by
 refine ak.intro Me.2 (by simp[Me]) ?_
 by_cases hm:m=0
 ·by_cases hM:M=0
  ·by_cases h64:64<ws.length
   ·rw[show bA m M ws=9 by simp[bA,hm,hM,h64]]
    simp(disch:=try exact dI) only[Me,Typ.pv_mk,hm,hM,push_cast,seval]
   ·rw[show bA m M ws=eN none ws by simp[bA,hm,hM,h64]]
    obtain⟨R,hR⟩:∃ R,R=eN none ws:=⟨_,rfl⟩
    rw[<- hR]
    simp(disch:=try exact dI) only[Me,Typ.pv_mk,hm,hM,push_cast,seval]
    refine am ([]) (fun i:Nat=>[(23,.pv (.int .i64 (i:Int)))]) (fun _=>[]) (fun i=>i<=ws.length/\R=eN (gH ws i) (ws.drop i)) (fun i=>ws.length - i) (0) ?_;intro e0 σ0 n0 h0;simp(disch:=try exact dI) only[push_cast,seval] at h0;obtain⟨rfl,rfl,rfl⟩:=h0;refine⟨?_,?_,?_⟩
    ·exact qsZ
    ·exact⟨by omega,by simpa[gH] using hR⟩
    rintro i ⟨hi,hr⟩
    by_cases hlt:i<ws.length
    ·have hltI:(i:Int)<(ws.length:Int):=by omega
     obtain⟨w,hwi⟩:∃ w,ws[i]? = some w:=⟨_,List.getElem?_eq_getElem hlt⟩
     have hcp:(ws.map PV.str)[i]? = some (.str w):=by simp[hwi]
     have ht:=IU w
     have hc:=CW w (hw w (List.mem_of_getElem? hwi))
     simp only[dL,Val.pv_mk,List.map_nil] at ht hc
     rw[jO hwi] at hr
     have hnext:gH ws (i+1)=some w:=by simp[gH,hwi]
     generalize lE w=z at hc hr
     by_cases hz:z=0
     ·subst hz
      rw[if_pos rfl] at hr
      by_cases hi0:i=0
      ·have hiI:¬ (0:Int)<(i:Int):=by omega
       have hpn:gH ws i=none:=if_pos hi0
       rw[hpn,if_neg (by simp),if_neg (by simp),<- hnext] at hr
       simp(disch:=try exact dI) only[hcp,push_cast,seval]
       refine ab.pure ht rfl ?_
       refine zgZ ?_
       refine ab.pure hc rfl ?_
       refine zgZ ?_
       exact⟨i+1,aI qsZ,⟨by omega,hr⟩,by omega⟩
      ·obtain⟨j,rfl⟩:∃ j,i=j+1:=⟨i - 1,by omega⟩
       obtain⟨q,hq'⟩:∃ q,ws[j]? = some q:=⟨_,List.getElem?_eq_getElem (by omega)⟩
       have hpn:gH ws (j+1)=some q:=by simp[gH,hq']
       have hcq:(ws.map PV.str)[j]? = some (.str q):=by simp[hq']
       rw[hpn] at hr
       by_cases hq:w=q
       ·subst hq
        rw[if_pos rfl] at hr
        subst hr
        simp(disch:=try exact dI) only[hcp,Int.add_sub_cancel,push_cast,seval]
        refine ab.pure ht rfl ?_
        refine zgZ ?_
        refine ab.pure hc rfl ?_
        simp(disch:=try exact dI) only[hcq,Int.add_sub_cancel,push_cast,seval]
       ·rw[if_neg (by simpa using fun e=>hq e.symm)] at hr
        cases hlt2:bf w q with
        | true=>
          rw[if_pos (by simpa using hlt2)] at hr
          subst hr
          simp(disch:=try exact dI) only[hcp,Int.add_sub_cancel,push_cast,seval]
          refine ab.pure ht rfl ?_
          refine zgZ ?_
          refine ab.pure hc rfl ?_
          simp(disch:=try exact dI) only[hcq,Int.add_sub_cancel,hq,hlt2,push_cast,seval]
        | false=>
          rw[if_neg (by simp[hlt2]),<- hnext] at hr
          simp(disch:=try exact dI) only[hcp,Int.add_sub_cancel,push_cast,seval]
          refine ab.pure ht rfl ?_
          refine zgZ ?_
          refine ab.pure hc rfl ?_
          simp(disch:=try exact dI) only[hcq,Int.add_sub_cancel,hq,hlt2,push_cast,seval]
          exact⟨j+1+1,aI qsZ,⟨by omega,hr⟩,by omega⟩
     ·rw[if_neg hz] at hr
      subst hr
      simp(disch:=try exact dI) only[hcp,push_cast,seval]
      refine ab.pure ht rfl ?_
      refine zgZ ?_
      refine ab.pure hc rfl ?_
      exact qsZ
    ·have hie:i=ws.length:=by omega
     subst hie
     rw[List.drop_length] at hr
     rw[show R=0 from hr]
     exact qsZ
  ·rw[show bA m M ws=3 by simp[bA,hM]]
   simp(disch:=try exact dI) only[Me,Typ.pv_mk,hm,hM,push_cast,seval]
 ·rw[show bA m M ws=3 by simp[bA,hm]]
  simp(disch:=try exact dI) only[Me,Typ.pv_mk,hm,push_cast,seval]
def i7 (n:Int)(nm:List UInt8)(g:TFd):Bool:=decide (g.name=nm)||decide (g.number=n)
def eG (n:Int)(nm:List UInt8)(nd k m M s:Int)(w:List (List UInt8))(e:List Typ)(fs:List TFd)(d:List Val):List AV:=
 [.pv (.int .i64 n),.pv (.str nm),.pv (.int .i64 nd),.pv (.int .i64 k),.pv (.int .i64 m),.pv (.int .i64 M),.pv (.int .i64 s),.pv (.list (w.map PV.str)),.pv (.list (e.map Typ.pv)),.pv (.list (fs.map TFd.pv)),.pv (.list (d.map Val.pv))]
section
variable (n:Int)(nm:List UInt8)(nd k m M s:Int)(w:List (List UInt8))(e:List Typ)(fs:List TFd)(d:List Val)
theorem N8 (g:TFd):bK Tryz.prog ap 1 259 [.pv g.pv,.ptr 0 0] [.cells 54 true (eG n nm nd k m M s w e fs d)] (.pv (.bool (i7 n nm g))) [.cells 54 true (eG n nm nd k m M s w e fs d)]:=by
 obtain⟨n',nm',nd',⟨k',m',M',s',w',e',fs'⟩,d'⟩:=g
 by_cases h1:nm'=nm
 ·rw[show i7 n nm (TFd.mk n' nm' nd' (Typ.mk k' m' M' s' w' e' fs') d')=true by simp[i7,TFd.name,h1]]
  refine bK.intro Hw.2 (by simp[Hw]) ?_
  simp(disch:=try exact dI) only[Hw,TFd.pv_mk,Typ.pv_mk,h1,eG,push_cast,seval]
  exact aJ [] qsZ
 ·by_cases h2:n'=n
  ·rw[show i7 n nm (TFd.mk n' nm' nd' (Typ.mk k' m' M' s' w' e' fs') d')=true by simp[i7,TFd.number,h2]]
   refine bK.intro Hw.2 (by simp[Hw]) ?_
   simp(disch:=try exact dI) only[Hw,TFd.pv_mk,Typ.pv_mk,h1,h2,eG,push_cast,seval]
   exact aJ [] qsZ
  ·rw[show i7 n nm (TFd.mk n' nm' nd' (Typ.mk k' m' M' s' w' e' fs') d')=false by simp[i7,TFd.name,TFd.number,h1,h2]]
   refine bK.intro Hw.2 (by simp[Hw]) ?_
   simp(disch:=try exact dI) only[Hw,TFd.pv_mk,Typ.pv_mk,h1,h2,eG,push_cast,seval]
   exact aJ [] qsZ
end
section
variable (n:Int)(nm:List UInt8)(nd k m M s:Int)(w:List (List UInt8))(e:List Typ)(fs:List TFd)(d:List Val)
theorem BH (l:List TFd)(hl:l.length<=9000000000000) :
  bK Tryz.prog ap 1 193 [.pv (.list (l.map TFd.pv)),.clo 259 [] [.ptr 0 0]] [.cells 54 true (eG n nm nd k m M s w e fs d)] (.pv (.int .i64 (dt (i7 n nm) l 0))) [.cells 54 true (eG n nm nd k m M s w e fs d)]:=by
 have hq:=fun x=>N8 n nm nd k m M s w e fs d x
 generalize i7 n nm=q at *
 simp only[eG] at hq ⊢
 refine bK.intro Mh.2 (by simp[Mh]) ?_
 simp(disch:=try exact dI) only[Mh,push_cast,seval]
 refine am ([]) (fun m:Nat=>[(8,.pv (.int .i64 (m:Int)))]) (fun m=>[]) (fun m=>m<=l.length/\dt q l 0=dt q (l.drop m) m) (fun m=>l.length - m) (0) ?_;intro e0 σ0 n0 h0;simp(disch:=try exact dI) only[push_cast,seval] at h0;obtain⟨rfl,rfl,rfl⟩:=h0;refine⟨?_,?_,?_⟩
 ·exact qsZ
 ·exact⟨by omega,by simp⟩
 ·rintro m ⟨hm,he⟩
  by_cases hlt:m<l.length
  ·have hltI:(m:Int)<l.length:=by omega
   obtain⟨x,hx⟩:∃ x,l[m]? = some x:=⟨_,List.getElem?_eq_getElem hlt⟩
   have hcall:=hq x
   simp(disch:=try exact dI) only[hx,TFd.cells_len,TFd.isAgg,push_cast,seval]
   refine ab.lentK hcall [0] rfl qsZ qsZ ?_
   cases hqx:q x with
   | true=>
     rw[he,di hx hqx]
     refine zgZ ?_
     exact aJ [] qsZ
   | false=>
     rw[b9 hx hqx] at he
     refine zgZ ?_
     exact⟨m+1,aI qsZ,⟨by omega,he⟩,by omega⟩
  ·have hltI:¬ (m:Int)<l.length:=by omega
   rw[he,dj hlt]
   refine zgZ ?_
   exact aJ [] qsZ
theorem r6 (l:List TFd)(hl:l.length<=9000000000000) :
  bK Tryz.prog ap 1 129 [.pv (.list (l.map TFd.pv)),.clo 259 [] [.ptr 0 0]] [.cells 54 true (eG n nm nd k m M s w e fs d)] (.pv (.bool (l.any (i7 n nm)))) [.cells 54 true (eG n nm nd k m M s w e fs d)]:=by
 have h94:=BH n nm nd k m M s w e fs d l hl
 have hfa:=dz (p:=i7 n nm) l
 simp only[eG] at h94 ⊢
 refine bK.intro Iw.2 (by simp[Iw]) ?_
 rcases bp (p:=i7 n nm) l 0 with ⟨h1,h2⟩ | ⟨k,x,h1,h2,h3⟩
 ·rw[h2] at h94
  rw[h1] at hfa
  rw[<- hfa]
  simp(disch:=try exact dI) only[Iw,push_cast,seval]
  refine ab.lentK h94 [0] rfl qsZ qsZ ?_
  refine zgZ ?_
  exact aJ [] (by simp(disch:=try exact dI) only[Option.isSome_none,push_cast,seval])
 ·rw[h3] at h94
  rw[h2] at hfa
  rw[<- hfa]
  have hk:(0:Int)<=((0+k:Nat):Int):=by omega
  generalize ((0+k:Nat):Int)=z at *
  simp(disch:=try exact dI) only[Iw,push_cast,seval]
  refine ab.lentK h94 [0] rfl qsZ qsZ ?_
  refine zgZ ?_
  exact aJ [] (by simp(disch:=try exact dI) only[Option.isSome_some,push_cast,seval])
end
def cC (k:Int)(before:List TFd):TFd->Int
 | .mk n nm nd _ d=>if bz nm=false then 12 else if inB n 1 9999=false then 2 else if before.any (i7 n nm)=true then 7 else if inB nd 1 3=false then 11 else if k=10/\¬ nd=1 then 11
   else if nd=3/\d.length=0 then 4 else if 1<d.length then 3 else if ¬ nd=3/\0<d.length then 3 else 0
theorem GK (k m M s:Int)(w:List (List UInt8))(e:List Typ)(fs:List TFd)(hl:fs.length<=9000000000000)(i:Nat)(g:TFd)(hg:fs[i]? = some g) :
  ak Tryz.prog ap 232 [(Typ.mk k m M s w e fs).pv,.int .i64 (i:Int)] (.int .i64 (cC k (fs.take i) g)):=by
 obtain⟨n,nm,nd,⟨k',m',M',s',w',e',f'⟩,d⟩:=g
 have hlt:i<fs.length:=by
  rcases Nat.lt_or_ge i fs.length with h | h
  ·exact h
  ·rw[List.getElem?_eq_none h] at hg;cases hg
 have hfp:(fs.map TFd.pv)[i]? = some (TFd.mk n nm nd (.mk k' m' M' s' w' e' f') d).pv:=by simp[hg]
 have hn:=rC nm
 have hi1:=px n 1 9999
 have hi2:=px nd 1 3
 have hc:=r6 n nm nd k' m' M' s' w' e' f' d (fs.take i) (by simp;omega)
 rw[List.map_take] at hc
 simp only[eG] at hc
 simp only[cC]
 generalize (fs.take i).any (i7 n nm)=q at hc ⊢
 refine ak.intro RQ.2 (by simp[RQ]) ?_
 generalize bz nm=b1 at hn ⊢
 generalize inB n 1 9999=b2 at hi1 ⊢
 generalize inB nd 1 3=b3 at hi2 ⊢
 simp(disch:=try exact dI) only[RQ,Typ.pv_mk,TFd.pv_mk,hg,Option.map_some,push_cast,seval]
 refine ab.pure hn rfl ?_
 cases b1 with
 | false=>simp(disch:=try exact dI) only[push_cast,seval]
 | true=>
 refine zgZ ?_
 refine ab.pure hi1 rfl ?_
 cases b2 with
 | false=>simp(disch:=try exact dI) only[push_cast,seval]
 | true=>
 refine zgZ ?_
 refine ab.lentK hc [3] rfl qsZ qsZ ?_
 cases q with
 | true=>simp(disch:=try exact dI) only[push_cast,seval]
 | false=>
 refine zgZ ?_
 refine ab.pure hi2 rfl ?_
 cases b3 with
 | false=>simp(disch:=try exact dI) only[push_cast,seval]
 | true=>
 by_cases hk:k=10/\¬ nd=1
 ·obtain⟨hk,hnd⟩:=hk
  subst hk
  rw[if_pos (show (10:Int)=10/\¬ nd=1 from⟨rfl,hnd⟩)]
  simp(disch:=try exact dI) only[hnd,push_cast,seval]
 rw[if_neg hk]
 have hfin:∀ (x:Int),x=(if nd=3/\d.length=0 then (4:Int) else if 1<d.length then 3 else if ¬ nd=3/\0<d.length then 3 else 0)->x=4/\nd=3/\d.length=0\/x=3/\1<d.length\/x=3/\¬ nd=3/\d.length=1\/x=0/\nd=3/\d.length=1\/x=0/\¬ nd=3/\d.length=0:=by
  intro x hx
  split at hx
  ·omega
  ·split at hx
   ·omega
   ·split at hx<;>omega
 obtain⟨x,hx⟩:∃ x,x=(if nd=3/\d.length=0 then (4:Int) else if 1<d.length then 3 else if ¬ nd=3/\0<d.length then 3 else 0):=⟨_,rfl⟩
 have hc5:=hfin x hx
 rw[<- hx]
 clear hfin hx
 have hk':k=10/\nd=1\/¬ k=10:=by
  by_cases h:k=10
  ·exact .inl ⟨h,Decidable.byContradiction fun hh=>hk ⟨h,hh⟩⟩
  ·exact .inr h
 clear hk
 rcases hc5 with ⟨rfl,rfl,h0⟩ | ⟨rfl,h1⟩ | ⟨rfl,hnd,h0⟩ | ⟨rfl,rfl,h0⟩ | ⟨rfl,hnd,h0⟩
 ·rcases hk' with ⟨_,hh⟩ | hk
  ·exact absurd hh (by decide)
  ·have h0I:(d.length:Int)=0:=by omega
   simp(disch:=try exact dI) only[hk,h0I,push_cast,seval]
 ·have h0I:¬ (d.length:Int)=0:=by omega
  have h1I:(1:Int)<d.length:=by omega
  rcases hk' with ⟨rfl,rfl⟩ | hk
  ·simp(disch:=try exact dI) only[h0I,h1I,push_cast,seval]
  ·by_cases hnd:nd=3
   ·simp(disch:=try exact dI) only[hk,hnd,h0I,h1I,push_cast,seval]
   ·simp(disch:=try exact dI) only[hk,hnd,h0I,h1I,push_cast,seval]
 ·have h0I:(d.length:Int)=1:=by omega
  rcases hk' with ⟨rfl,rfl⟩ | hk
  ·simp(disch:=try exact dI) only[h0I,push_cast,seval]
  ·simp(disch:=try exact dI) only[hk,hnd,h0I,push_cast,seval]
 ·have h0I:(d.length:Int)=1:=by omega
  rcases hk' with ⟨_,hh⟩ | hk
  ·exact absurd hh (by decide)
  ·simp(disch:=try exact dI) only[hk,h0I,push_cast,seval]
 ·have h0I:(d.length:Int)=0:=by omega
  rcases hk' with ⟨rfl,rfl⟩ | hk
  ·simp(disch:=try exact dI) only[h0I,push_cast,seval]
  ·simp(disch:=try exact dI) only[hk,hnd,h0I,push_cast,seval]
end Go.Proofs.YtbojpfpliibfbaaGreatDoor
