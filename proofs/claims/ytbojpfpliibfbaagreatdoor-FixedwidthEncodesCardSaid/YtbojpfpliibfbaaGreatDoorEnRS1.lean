/- A part of the proof. -/
import Derived.Test.YtbojpfpliibfbaaGreatDoorEnRR5
set_option maxHeartbeats 16000000
set_option maxRecDepth 100000
set_option linter.unusedVariables false
set_option linter.unusedSimpArgs false
-- many steps
namespace Go.Proofs.YtbojpfpliibfbaaGreatDoor
open Go Go.Ab
attribute [local irreducible] vc
def inB (n a b:Int):Bool:=decide (a<=n)&&decide (n<=b)
theorem e7 (n a b:Int):am Tryz.prog az 228 [.int .i64 n,.int .i64 a,.int .i64 b] (.bool (inB n a b)):=by
 refine am.intro M4.2 (by simp[M4]) ?_
 by_cases h1:a<=n
 ·by_cases h2:n<=b
  ·rw[show inB n a b=true by simp[inB,h1,h2]]
   simp(disch:=try exact dI) only[M4,push_cast,seval]
  ·rw[show inB n a b=false by simp[inB,h2]]
   simp(disch:=try exact dI) only[M4,push_cast,seval]
 ·rw[show inB n a b=false by simp[inB,h1]]
  simp(disch:=try exact dI) only[M4,push_cast,seval]
theorem bf (n a b:Int):am Tryz.prog az 182 [.int .i64 n,.int .i64 a,.int .i64 b] (.bool (inB n a b)):=by
 refine am.intro M8.2 (by simp[M8]) ?_
 by_cases h1:a<=n
 ·by_cases h2:n<=b
  ·rw[show inB n a b=true by simp[inB,h1,h2]]
   simp(disch:=try exact dI) only[M8,push_cast,seval]
  ·rw[show inB n a b=false by simp[inB,h2]]
   simp(disch:=try exact dI) only[M8,push_cast,seval]
 ·rw[show inB n a b=false by simp[inB,h1]]
  simp(disch:=try exact dI) only[M8,push_cast,seval]
def lim (nm:List UInt8)(lo hi:Int)(b1 b2 b3 b4 b5:Bool):PV:=.agg [.str nm,.int .i64 lo,.int .i64 hi,.bool b1,.bool b2,.bool b3,.bool b4,.bool b5]
def aw (b1 b2 b3 b4 b5:Bool):Typ->Bool
 | .mk k m M s w e f=>(!b1&&!(decide (m=0)&&decide (M=0)))||((!b2&&!decide (s=0))||((!b3&&!decide (w.length=0))||((!b4&&!decide (e.length=0))||(!b5&&!decide (f.length=0)))))
theorem Ap (k m M s:Int)(w:List (List UInt8))(e:List Typ)(f:List TFd)(nm:List UInt8)(lo hi:Int):am Tryz.prog az 230 [(Typ.mk k m M s w e f).pv,lim nm lo hi false false false false false] (.int .i64 (if aw false false false false false (.mk k m M s w e f)=true then 3 else 0)):=by
 refine am.intro d9.2 (by simp[d9]) ?_
 by_cases hm:m=0
 ·by_cases hM:M=0
  ·by_cases hs:s=0
   ·by_cases hw:w.length=0
    ·have hwI:¬ (0:Int)<(w.length:Int):=by omega
     by_cases he:e.length=0
     ·have heI:¬ (0:Int)<(e.length:Int):=by omega
      by_cases hf:f.length=0
      ·have hfI:¬ (0:Int)<(f.length:Int):=by omega
       rw[show (if aw false false false false false (.mk k m M s w e f)=true then (3:Int) else 0)=0 by simp[aw,hm,hM,hs,hw,he,hf]]
       simp(disch:=try exact dI) only[d9,Typ.pv_mk,lim,hm,hM,hs,push_cast,seval]
      ·have hfI:(0:Int)<(f.length:Int):=by omega
       rw[show (if aw false false false false false (.mk k m M s w e f)=true then (3:Int) else 0)=3 by simp[aw,hm,hM,hs,hw,he,hf]]
       simp(disch:=try exact dI) only[d9,Typ.pv_mk,lim,hm,hM,hs,push_cast,seval]
     ·have heI:(0:Int)<(e.length:Int):=by omega
      rw[show (if aw false false false false false (.mk k m M s w e f)=true then (3:Int) else 0)=3 by simp[aw,hm,hM,hs,hw,he]]
      simp(disch:=try exact dI) only[d9,Typ.pv_mk,lim,hm,hM,hs,push_cast,seval]
    ·have hwI:(0:Int)<(w.length:Int):=by omega
     rw[show (if aw false false false false false (.mk k m M s w e f)=true then (3:Int) else 0)=3 by simp[aw,hm,hM,hs,hw]]
     simp(disch:=try exact dI) only[d9,Typ.pv_mk,lim,hm,hM,hs,push_cast,seval]
   ·rw[show (if aw false false false false false (.mk k m M s w e f)=true then (3:Int) else 0)=3 by simp[aw,hm,hM,hs]]
    simp(disch:=try exact dI) only[d9,Typ.pv_mk,lim,hm,hM,hs,push_cast,seval]
  ·rw[show (if aw false false false false false (.mk k m M s w e f)=true then (3:Int) else 0)=3 by simp[aw,hm,hM]]
   simp(disch:=try exact dI) only[d9,Typ.pv_mk,lim,hm,hM,push_cast,seval]
 ·rw[show (if aw false false false false false (.mk k m M s w e f)=true then (3:Int) else 0)=3 by simp[aw,hm]]
  simp(disch:=try exact dI) only[d9,Typ.pv_mk,lim,hm,push_cast,seval]
theorem gP (k m M s:Int)(w:List (List UInt8))(e:List Typ)(f:List TFd)(nm:List UInt8)(lo hi:Int):am Tryz.prog az 230 [(Typ.mk k m M s w e f).pv,lim nm lo hi true false false false false] (.int .i64 (if aw true false false false false (.mk k m M s w e f)=true then 3 else 0)):=by
 refine am.intro d9.2 (by simp[d9]) ?_
 by_cases hs:s=0
 ·by_cases hw:w.length=0
  ·have hwI:¬ (0:Int)<(w.length:Int):=by omega
   by_cases he:e.length=0
   ·have heI:¬ (0:Int)<(e.length:Int):=by omega
    by_cases hf:f.length=0
    ·have hfI:¬ (0:Int)<(f.length:Int):=by omega
     rw[show (if aw true false false false false (.mk k m M s w e f)=true then (3:Int) else 0)=0 by simp[aw,hs,hw,he,hf]]
     simp(disch:=try exact dI) only[d9,Typ.pv_mk,lim,hs,push_cast,seval]
    ·have hfI:(0:Int)<(f.length:Int):=by omega
     rw[show (if aw true false false false false (.mk k m M s w e f)=true then (3:Int) else 0)=3 by simp[aw,hs,hw,he,hf]]
     simp(disch:=try exact dI) only[d9,Typ.pv_mk,lim,hs,push_cast,seval]
   ·have heI:(0:Int)<(e.length:Int):=by omega
    rw[show (if aw true false false false false (.mk k m M s w e f)=true then (3:Int) else 0)=3 by simp[aw,hs,hw,he]]
    simp(disch:=try exact dI) only[d9,Typ.pv_mk,lim,hs,push_cast,seval]
  ·have hwI:(0:Int)<(w.length:Int):=by omega
   rw[show (if aw true false false false false (.mk k m M s w e f)=true then (3:Int) else 0)=3 by simp[aw,hs,hw]]
   simp(disch:=try exact dI) only[d9,Typ.pv_mk,lim,hs,push_cast,seval]
 ·rw[show (if aw true false false false false (.mk k m M s w e f)=true then (3:Int) else 0)=3 by simp[aw,hs]]
  simp(disch:=try exact dI) only[d9,Typ.pv_mk,lim,hs,push_cast,seval]
theorem Ar (k m M s:Int)(w:List (List UInt8))(e:List Typ)(f:List TFd)(nm:List UInt8)(lo hi:Int):am Tryz.prog az 230 [(Typ.mk k m M s w e f).pv,lim nm lo hi true true false false false] (.int .i64 (if aw true true false false false (.mk k m M s w e f)=true then 3 else 0)):=by
 refine am.intro d9.2 (by simp[d9]) ?_
 by_cases hw:w.length=0
 ·have hwI:¬ (0:Int)<(w.length:Int):=by omega
  by_cases he:e.length=0
  ·have heI:¬ (0:Int)<(e.length:Int):=by omega
   by_cases hf:f.length=0
   ·have hfI:¬ (0:Int)<(f.length:Int):=by omega
    rw[show (if aw true true false false false (.mk k m M s w e f)=true then (3:Int) else 0)=0 by simp[aw,hw,he,hf]]
    simp(disch:=try exact dI) only[d9,Typ.pv_mk,lim,push_cast,seval]
   ·have hfI:(0:Int)<(f.length:Int):=by omega
    rw[show (if aw true true false false false (.mk k m M s w e f)=true then (3:Int) else 0)=3 by simp[aw,hw,he,hf]]
    simp(disch:=try exact dI) only[d9,Typ.pv_mk,lim,push_cast,seval]
  ·have heI:(0:Int)<(e.length:Int):=by omega
   rw[show (if aw true true false false false (.mk k m M s w e f)=true then (3:Int) else 0)=3 by simp[aw,hw,he]]
   simp(disch:=try exact dI) only[d9,Typ.pv_mk,lim,push_cast,seval]
 ·have hwI:(0:Int)<(w.length:Int):=by omega
  rw[show (if aw true true false false false (.mk k m M s w e f)=true then (3:Int) else 0)=3 by simp[aw,hw]]
  simp(disch:=try exact dI) only[d9,Typ.pv_mk,lim,push_cast,seval]
theorem Ao (k m M s:Int)(w:List (List UInt8))(e:List Typ)(f:List TFd)(nm:List UInt8)(lo hi:Int):am Tryz.prog az 230 [(Typ.mk k m M s w e f).pv,lim nm lo hi true false true false false] (.int .i64 (if aw true false true false false (.mk k m M s w e f)=true then 3 else 0)):=by
 refine am.intro d9.2 (by simp[d9]) ?_
 by_cases hs:s=0
 ·by_cases he:e.length=0
  ·have heI:¬ (0:Int)<(e.length:Int):=by omega
   by_cases hf:f.length=0
   ·have hfI:¬ (0:Int)<(f.length:Int):=by omega
    rw[show (if aw true false true false false (.mk k m M s w e f)=true then (3:Int) else 0)=0 by simp[aw,hs,he,hf]]
    simp(disch:=try exact dI) only[d9,Typ.pv_mk,lim,hs,push_cast,seval]
   ·have hfI:(0:Int)<(f.length:Int):=by omega
    rw[show (if aw true false true false false (.mk k m M s w e f)=true then (3:Int) else 0)=3 by simp[aw,hs,he,hf]]
    simp(disch:=try exact dI) only[d9,Typ.pv_mk,lim,hs,push_cast,seval]
  ·have heI:(0:Int)<(e.length:Int):=by omega
   rw[show (if aw true false true false false (.mk k m M s w e f)=true then (3:Int) else 0)=3 by simp[aw,hs,he]]
   simp(disch:=try exact dI) only[d9,Typ.pv_mk,lim,hs,push_cast,seval]
 ·rw[show (if aw true false true false false (.mk k m M s w e f)=true then (3:Int) else 0)=3 by simp[aw,hs]]
  simp(disch:=try exact dI) only[d9,Typ.pv_mk,lim,hs,push_cast,seval]
theorem Aq (k m M s:Int)(w:List (List UInt8))(e:List Typ)(f:List TFd)(nm:List UInt8)(lo hi:Int):am Tryz.prog az 230 [(Typ.mk k m M s w e f).pv,lim nm lo hi true false false true false] (.int .i64 (if aw true false false true false (.mk k m M s w e f)=true then 3 else 0)):=by
 refine am.intro d9.2 (by simp[d9]) ?_
 by_cases hs:s=0
 ·by_cases hw:w.length=0
  ·have hwI:¬ (0:Int)<(w.length:Int):=by omega
   by_cases hf:f.length=0
   ·have hfI:¬ (0:Int)<(f.length:Int):=by omega
    rw[show (if aw true false false true false (.mk k m M s w e f)=true then (3:Int) else 0)=0 by simp[aw,hs,hw,hf]]
    simp(disch:=try exact dI) only[d9,Typ.pv_mk,lim,hs,push_cast,seval]
   ·have hfI:(0:Int)<(f.length:Int):=by omega
    rw[show (if aw true false false true false (.mk k m M s w e f)=true then (3:Int) else 0)=3 by simp[aw,hs,hw,hf]]
    simp(disch:=try exact dI) only[d9,Typ.pv_mk,lim,hs,push_cast,seval]
  ·have hwI:(0:Int)<(w.length:Int):=by omega
   rw[show (if aw true false false true false (.mk k m M s w e f)=true then (3:Int) else 0)=3 by simp[aw,hs,hw]]
   simp(disch:=try exact dI) only[d9,Typ.pv_mk,lim,hs,push_cast,seval]
 ·rw[show (if aw true false false true false (.mk k m M s w e f)=true then (3:Int) else 0)=3 by simp[aw,hs]]
  simp(disch:=try exact dI) only[d9,Typ.pv_mk,lim,hs,push_cast,seval]
theorem ow (k m M s:Int)(w:List (List UInt8))(e:List Typ)(f:List TFd)(nm:List UInt8)(lo hi:Int):am Tryz.prog az 230 [(Typ.mk k m M s w e f).pv,lim nm lo hi false false false false true] (.int .i64 (if aw false false false false true (.mk k m M s w e f)=true then 3 else 0)):=by
 refine am.intro d9.2 (by simp[d9]) ?_
 by_cases hm:m=0
 ·by_cases hM:M=0
  ·by_cases hs:s=0
   ·by_cases hw:w.length=0
    ·have hwI:¬ (0:Int)<(w.length:Int):=by omega
     by_cases he:e.length=0
     ·have heI:¬ (0:Int)<(e.length:Int):=by omega
      rw[show (if aw false false false false true (.mk k m M s w e f)=true then (3:Int) else 0)=0 by simp[aw,hm,hM,hs,hw,he]]
      simp(disch:=try exact dI) only[d9,Typ.pv_mk,lim,hm,hM,hs,push_cast,seval]
     ·have heI:(0:Int)<(e.length:Int):=by omega
      rw[show (if aw false false false false true (.mk k m M s w e f)=true then (3:Int) else 0)=3 by simp[aw,hm,hM,hs,hw,he]]
      simp(disch:=try exact dI) only[d9,Typ.pv_mk,lim,hm,hM,hs,push_cast,seval]
    ·have hwI:(0:Int)<(w.length:Int):=by omega
     rw[show (if aw false false false false true (.mk k m M s w e f)=true then (3:Int) else 0)=3 by simp[aw,hm,hM,hs,hw]]
     simp(disch:=try exact dI) only[d9,Typ.pv_mk,lim,hm,hM,hs,push_cast,seval]
   ·rw[show (if aw false false false false true (.mk k m M s w e f)=true then (3:Int) else 0)=3 by simp[aw,hm,hM,hs]]
    simp(disch:=try exact dI) only[d9,Typ.pv_mk,lim,hm,hM,hs,push_cast,seval]
  ·rw[show (if aw false false false false true (.mk k m M s w e f)=true then (3:Int) else 0)=3 by simp[aw,hm,hM]]
   simp(disch:=try exact dI) only[d9,Typ.pv_mk,lim,hm,hM,push_cast,seval]
 ·rw[show (if aw false false false false true (.mk k m M s w e f)=true then (3:Int) else 0)=3 by simp[aw,hm]]
  simp(disch:=try exact dI) only[d9,Typ.pv_mk,lim,hm,push_cast,seval]
end Go.Proofs.YtbojpfpliibfbaaGreatDoor
-- many steps
namespace Go.Proofs.YtbojpfpliibfbaaGreatDoor
open Go Go.Ab
attribute [local irreducible] vc
def eb (w:List UInt8):Val:=.mk 4 0 0 w [] []
def kW (w:List UInt8):Int:=if cZ w.length 1024 5=0 then (if Lib.validD w=true then 0 else 16) else cZ w.length 1024 5
theorem Hj (w:List UInt8):am Tryz.prog az 166 [.str w] (eb w).pv:=by
 refine am.intro Pv.2 (by simp[Pv]) ?_
 simp only[eb,Val.pv_mk,List.map_nil]
 simp(disch:=try exact dI) only[Pv,push_cast,seval]
theorem yC (w:List UInt8):dj 1 1 (eb w)=[(1,eb w)]:=by
 simp[dj,bk,eb,Val.kind]
theorem sG (w:List UInt8):jx 0 (dj 1 1 (eb w))=kW w:=by
 rw[yC,jx,xv (by omega) (by simp) (by simp[aU,eb]) (by simp[eb,Val.kind]) (by simp[aq,eb])]
 simp only[jx]
 have e:bI (eb w)=kW w:=rfl
 rw[e]
 split
 ·rename_i h;exact h.symm
 ·rfl
theorem Bf (w:List UInt8)(hw:w.length<=140737488351232):am Tryz.prog az 233 [(eb w).pv] (.int .i64 (kW w)):=by
 have:=sK 1 (eb w) (by simp[dA,bk,eb,Val.kind]) (by simp[eb,Val.ok_mk,I64,hw])
 rw[sG] at this
 exact this
def fe:Option (List UInt8)->List (List UInt8)->Int
 | _,[]=>0
 | p,w::r=>if kW w=0 then (if p=some w then 7 else if (p.any fun q=>aP w q)=true then 24 else fe (some w) r) else kW w
theorem jD {ws:List (List UInt8)}{i:Nat}{w:List UInt8}(h:ws[i]? = some w)(p:Option (List UInt8)):fe p (ws.drop i)=if kW w=0 then (if p=some w then 7 else if (p.any fun q=>aP w q)=true then 24 else fe (some w) (ws.drop (i+1))) else kW w:=by
 have hi:i<ws.length:=(List.getElem?_eq_some_iff.1 h).1
 have he:ws[i]=w:=(List.getElem?_eq_some_iff.1 h).2
 rw[List.drop_eq_getElem_cons hi,he,fe]
def gH (ws:List (List UInt8))(i:Nat):Option (List UInt8):=if i=0 then none else ws[i - 1]?
def bG (m M:Int)(ws:List (List UInt8)):Int:=if ¬ (m=0/\M=0) then 3 else if 64<ws.length then 9 else fe none ws
theorem Cd (k m M s:Int)(ws:List (List UInt8))(e:List Typ)(f:List TFd)(hw:∀ w∈ws,w.length<=140737488351232):am Tryz.prog az 231 [(Typ.mk k m M s ws e f).pv] (.int .i64 (bG m M ws)):=by
 refine am.intro Ks.2 (by simp[Ks]) ?_
 by_cases hm:m=0
 ·by_cases hM:M=0
  ·by_cases h64:64<ws.length
   ·rw[show bG m M ws=9 by simp[bG,hm,hM,h64]]
    simp(disch:=try exact dI) only[Ks,Typ.pv_mk,hm,hM,push_cast,seval]
   ·rw[show bG m M ws=fe none ws by simp[bG,hm,hM,h64]]
    obtain⟨R,hR⟩:∃ R,R=fe none ws:=⟨_,rfl⟩
    rw[<- hR]
    simp(disch:=try exact dI) only[Ks,Typ.pv_mk,hm,hM,push_cast,seval]
    refine au ([]) (fun i:Nat=>[(23,.pv (.int .i64 (i:Int)))]) (fun _=>[]) (fun i=>i<=ws.length/\R=fe (gH ws i) (ws.drop i)) (fun i=>ws.length - i) (0) ?_;intro e0 σ0 n0 h0;simp(disch:=try exact dI) only[push_cast,seval] at h0;obtain⟨rfl,rfl,rfl⟩:=h0;refine⟨?_,?_,?_⟩
    ·exact qsZ
    ·exact⟨by omega,by simpa[gH] using hR⟩
    rintro i ⟨hi,hr⟩
    by_cases hlt:i<ws.length
    ·have hltI:(i:Int)<(ws.length:Int):=by omega
     obtain⟨w,hwi⟩:∃ w,ws[i]? = some w:=⟨_,List.getElem?_eq_getElem hlt⟩
     have hcp:(ws.map PV.str)[i]? = some (.str w):=by simp[hwi]
     have ht:=Hj w
     have hc:=Bf w (hw w (List.mem_of_getElem? hwi))
     simp only[eb,Val.pv_mk,List.map_nil] at ht hc
     rw[jD hwi] at hr
     have hnext:gH ws (i+1)=some w:=by simp[gH,hwi]
     generalize kW w=z at hc hr
     by_cases hz:z=0
     ·subst hz
      rw[if_pos rfl] at hr
      by_cases hi0:i=0
      ·have hiI:¬ (0:Int)<(i:Int):=by omega
       have hpn:gH ws i=none:=if_pos hi0
       rw[hpn,if_neg (by simp),if_neg (by simp),<- hnext] at hr
       simp(disch:=try exact dI) only[hcp,push_cast,seval]
       refine ab.pure ht rfl ?_
       refine zgZ ?_
       refine ab.pure hc rfl ?_
       refine zgZ ?_
       exact⟨i+1,aM qsZ,⟨by omega,hr⟩,by omega⟩
      ·obtain⟨j,rfl⟩:∃ j,i=j+1:=⟨i - 1,by omega⟩
       obtain⟨q,hq'⟩:∃ q,ws[j]? = some q:=⟨_,List.getElem?_eq_getElem (by omega)⟩
       have hpn:gH ws (j+1)=some q:=by simp[gH,hq']
       have hcq:(ws.map PV.str)[j]? = some (.str q):=by simp[hq']
       rw[hpn] at hr
       by_cases hq:w=q
       ·subst hq
        rw[if_pos rfl] at hr
        subst hr
        simp(disch:=try exact dI) only[hcp,Int.add_sub_cancel,push_cast,seval]
        refine ab.pure ht rfl ?_
        refine zgZ ?_
        refine ab.pure hc rfl ?_
        simp(disch:=try exact dI) only[hcq,Int.add_sub_cancel,push_cast,seval]
       ·rw[if_neg (by simpa using fun e=>hq e.symm)] at hr
        cases hlt2:aP w q with
        | true=>
          rw[if_pos (by simpa using hlt2)] at hr
          subst hr
          simp(disch:=try exact dI) only[hcp,Int.add_sub_cancel,push_cast,seval]
          refine ab.pure ht rfl ?_
          refine zgZ ?_
          refine ab.pure hc rfl ?_
          simp(disch:=try exact dI) only[hcq,Int.add_sub_cancel,hq,hlt2,push_cast,seval]
        | false=>
          rw[if_neg (by simp[hlt2]),<- hnext] at hr
          simp(disch:=try exact dI) only[hcp,Int.add_sub_cancel,push_cast,seval]
          refine ab.pure ht rfl ?_
          refine zgZ ?_
          refine ab.pure hc rfl ?_
          simp(disch:=try exact dI) only[hcq,Int.add_sub_cancel,hq,hlt2,push_cast,seval]
          exact⟨j+1+1,aM qsZ,⟨by omega,hr⟩,by omega⟩
     ·rw[if_neg hz] at hr
      subst hr
      simp(disch:=try exact dI) only[hcp,push_cast,seval]
      refine ab.pure ht rfl ?_
      refine zgZ ?_
      refine ab.pure hc rfl ?_
      exact qsZ
    ·have hie:i=ws.length:=by omega
     subst hie
     rw[List.drop_length] at hr
     rw[show R=0 from hr]
     exact qsZ
  ·rw[show bG m M ws=3 by simp[bG,hM]]
   simp(disch:=try exact dI) only[Ks,Typ.pv_mk,hm,hM,push_cast,seval]
 ·rw[show bG m M ws=3 by simp[bG,hm]]
  simp(disch:=try exact dI) only[Ks,Typ.pv_mk,hm,push_cast,seval]
end Go.Proofs.YtbojpfpliibfbaaGreatDoor
-- many steps
namespace Go.Proofs.YtbojpfpliibfbaaGreatDoor
open Go Go.Ab
attribute [local irreducible] vc
def ky (n:Int)(nm:List UInt8)(g:TFd):Bool:=decide (g.name=nm)||decide (g.number=n)
def eV (n:Int)(nm:List UInt8)(nd k m M s:Int)(w:List (List UInt8))(e:List Typ)(fs:List TFd)(d:List Val):List AV:=
 [.pv (.int .i64 n),.pv (.str nm),.pv (.int .i64 nd),.pv (.int .i64 k),.pv (.int .i64 m),.pv (.int .i64 M),.pv (.int .i64 s),.pv (.list (w.map PV.str)),.pv (.list (e.map Typ.pv)),.pv (.list (fs.map TFd.pv)),.pv (.list (d.map Val.pv))]
section
variable (n:Int)(nm:List UInt8)(nd k m M s:Int)(w:List (List UInt8))(e:List Typ)(fs:List TFd)(d:List Val)
theorem L9 (g:TFd):bn Tryz.prog az 1 259 [.pv g.pv,.ptr 0 0] [.cells 54 true (eV n nm nd k m M s w e fs d)] (.pv (.bool (ky n nm g))) [.cells 54 true (eV n nm nd k m M s w e fs d)]:=by
 obtain⟨n',nm',nd',⟨k',m',M',s',w',e',fs'⟩,d'⟩:=g
 by_cases h1:nm'=nm
 ·rw[show ky n nm (TFd.mk n' nm' nd' (Typ.mk k' m' M' s' w' e' fs') d')=true by simp[ky,TFd.name,h1]]
  refine bn.intro FN.2 (by simp[FN]) ?_
  simp(disch:=try exact dI) only[FN,TFd.pv_mk,Typ.pv_mk,h1,eV,push_cast,seval]
  exact aL [] qsZ
 ·by_cases h2:n'=n
  ·rw[show ky n nm (TFd.mk n' nm' nd' (Typ.mk k' m' M' s' w' e' fs') d')=true by simp[ky,TFd.number,h2]]
   refine bn.intro FN.2 (by simp[FN]) ?_
   simp(disch:=try exact dI) only[FN,TFd.pv_mk,Typ.pv_mk,h1,h2,eV,push_cast,seval]
   exact aL [] qsZ
  ·rw[show ky n nm (TFd.mk n' nm' nd' (Typ.mk k' m' M' s' w' e' fs') d')=false by simp[ky,TFd.name,TFd.number,h1,h2]]
   refine bn.intro FN.2 (by simp[FN]) ?_
   simp(disch:=try exact dI) only[FN,TFd.pv_mk,Typ.pv_mk,h1,h2,eV,push_cast,seval]
   exact aL [] qsZ
end
section
variable (n:Int)(nm:List UInt8)(nd k m M s:Int)(w:List (List UInt8))(e:List Typ)(fs:List TFd)(d:List Val)
theorem Ac (l:List TFd)(hl:l.length<=9000000000000) :
  bn Tryz.prog az 1 193 [.pv (.list (l.map TFd.pv)),.clo 259 [] [.ptr 0 0]] [.cells 54 true (eV n nm nd k m M s w e fs d)] (.pv (.int .i64 (d7 (ky n nm) l 0))) [.cells 54 true (eV n nm nd k m M s w e fs d)]:=by
 have hq:=fun x=>L9 n nm nd k m M s w e fs d x
 generalize ky n nm=q at *
 simp only[eV] at hq ⊢
 refine bn.intro Kv.2 (by simp[Kv]) ?_
 simp(disch:=try exact dI) only[Kv,push_cast,seval]
 refine au ([]) (fun m:Nat=>[(8,.pv (.int .i64 (m:Int)))]) (fun m=>[]) (fun m=>m<=l.length/\d7 q l 0=d7 q (l.drop m) m) (fun m=>l.length - m) (0) ?_;intro e0 σ0 n0 h0;simp(disch:=try exact dI) only[push_cast,seval] at h0;obtain⟨rfl,rfl,rfl⟩:=h0;refine⟨?_,?_,?_⟩
 ·exact qsZ
 ·exact⟨by omega,by simp⟩
 ·rintro m ⟨hm,he⟩
  by_cases hlt:m<l.length
  ·have hltI:(m:Int)<l.length:=by omega
   obtain⟨x,hx⟩:∃ x,l[m]? = some x:=⟨_,List.getElem?_eq_getElem hlt⟩
   have hcall:=hq x
   simp(disch:=try exact dI) only[hx,TFd.cells_len,TFd.isAgg,push_cast,seval]
   refine ab.lentK hcall [0] rfl qsZ qsZ ?_
   cases hqx:q x with
   | true=>
     rw[he,dX hx hqx]
     refine zgZ ?_
     exact aL [] qsZ
   | false=>
     rw[cQ hx hqx] at he
     refine zgZ ?_
     exact⟨m+1,aM qsZ,⟨by omega,he⟩,by omega⟩
  ·have hltI:¬ (m:Int)<l.length:=by omega
   rw[he,dY hlt]
   refine zgZ ?_
   exact aL [] qsZ
theorem qL (l:List TFd)(hl:l.length<=9000000000000) :
  bn Tryz.prog az 1 129 [.pv (.list (l.map TFd.pv)),.clo 259 [] [.ptr 0 0]] [.cells 54 true (eV n nm nd k m M s w e fs d)] (.pv (.bool (l.any (ky n nm)))) [.cells 54 true (eV n nm nd k m M s w e fs d)]:=by
 have h94:=Ac n nm nd k m M s w e fs d l hl
 have hfa:=eI (p:=ky n nm) l
 simp only[eV] at h94 ⊢
 refine bn.intro GS.2 (by simp[GS]) ?_
 rcases bx (p:=ky n nm) l 0 with ⟨h1,h2⟩ | ⟨k,x,h1,h2,h3⟩
 ·rw[h2] at h94
  rw[h1] at hfa
  rw[<- hfa]
  simp(disch:=try exact dI) only[GS,push_cast,seval]
  refine ab.lentK h94 [0] rfl qsZ qsZ ?_
  refine zgZ ?_
  exact aL [] (by simp(disch:=try exact dI) only[Option.isSome_none,push_cast,seval])
 ·rw[h3] at h94
  rw[h2] at hfa
  rw[<- hfa]
  have hk:(0:Int)<=((0+k:Nat):Int):=by omega
  generalize ((0+k:Nat):Int)=z at *
  simp(disch:=try exact dI) only[GS,push_cast,seval]
  refine ab.lentK h94 [0] rfl qsZ qsZ ?_
  refine zgZ ?_
  exact aL [] (by simp(disch:=try exact dI) only[Option.isSome_some,push_cast,seval])
end
end Go.Proofs.YtbojpfpliibfbaaGreatDoor
