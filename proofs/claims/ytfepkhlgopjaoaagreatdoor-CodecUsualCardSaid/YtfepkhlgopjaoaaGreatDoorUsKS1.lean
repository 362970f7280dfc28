/- A part of the proof for CodecUsualCardSaid. -/
import Derived.Test.YtfepkhlgopjaoaaGreatDoorUsKR6
set_option linter.unusedVariables false
set_option linter.unusedSimpArgs false
set_option maxRecDepth 100000
-- many steps
namespace Go.Proofs.YtfepkhlgopjaoaaGreatDoor
open Go Go.Ab
attribute [local irreducible] vc
def inB (n a b:Int):Bool:=decide (a≤n)&&decide (n≤b)
theorem jI (n a b:Int):ap Tryz.prog az 44 [.int .i64 n,.int .i64 a,.int .i64 b] (.bool (inB n a b)):=by
 refine ap.intro Lm (by simp[F44]) ?_
 by_cases h1:a≤n
 ·by_cases h2:n≤b
  ·rw[show inB n a b=true by simp[inB,h1,h2]]
   simp(maxSteps:=9^7) (disch:=try exact dI) only[F44,push_cast,seval]
  ·rw[show inB n a b=false by simp[inB,h2]]
   simp(maxSteps:=9^7) (disch:=try exact dI) only[F44,push_cast,seval]
 ·rw[show inB n a b=false by simp[inB,h1]]
  simp(maxSteps:=9^7) (disch:=try exact dI) only[F44,push_cast,seval]
def lim (nm:List UInt8)(lo hi:Int)(b1 b2 b3 b4 b5:Bool):PV:=.agg [.str nm,.int .i64 lo,.int .i64 hi,.bool b1,.bool b2,.bool b3,.bool b4,.bool b5]
def aD (b1 b2 b3 b4 b5:Bool):Typ→Bool
 | .mk k m M s w e f=>(!b1&&!(decide (m=0)&&decide (M=0)))||((!b2&&!decide (s=0))||((!b3&&!decide (w.length=0))||((!b4&&!decide (e.length=0))||(!b5&&!decide (f.length=0)))))
theorem xv (k m M s:Int)(w:List (List UInt8))(e:List Typ)(f:List TFd)(nm:List UInt8)(lo hi:Int):ap Tryz.prog az 232 [(Typ.mk k m M s w e f).pv,lim nm lo hi false false false false false] (.int .i64 (if aD false false false false false (.mk k m M s w e f)=true then 3 else 0)):=by
 refine ap.intro fA (by simp[dm]) ?_
 by_cases hm:m=0
 ·by_cases hM:M=0
  ·by_cases hs:s=0
   ·by_cases hw:w.length=0
    ·have hwI:¬ (0:Int)<(w.length:Int):=by omega
     by_cases he:e.length=0
     ·have heI:¬ (0:Int)<(e.length:Int):=by omega
      by_cases hf:f.length=0
      ·have hfI:¬ (0:Int)<(f.length:Int):=by omega
       rw[show (if aD false false false false false (.mk k m M s w e f)=true then (3:Int) else 0)=0 by simp[aD,hm,hM,hs,hw,he,hf]]
       simp(maxSteps:=9^7) (disch:=try exact dI) only[dm,Typ.pv_mk,lim,hm,hM,hs,push_cast,seval]
      ·have hfI:(0:Int)<(f.length:Int):=by omega
       rw[show (if aD false false false false false (.mk k m M s w e f)=true then (3:Int) else 0)=3 by simp[aD,hm,hM,hs,hw,he,hf]]
       simp(maxSteps:=9^7) (disch:=try exact dI) only[dm,Typ.pv_mk,lim,hm,hM,hs,push_cast,seval]
     ·have heI:(0:Int)<(e.length:Int):=by omega
      rw[show (if aD false false false false false (.mk k m M s w e f)=true then (3:Int) else 0)=3 by simp[aD,hm,hM,hs,hw,he]]
      simp(maxSteps:=9^7) (disch:=try exact dI) only[dm,Typ.pv_mk,lim,hm,hM,hs,push_cast,seval]
    ·have hwI:(0:Int)<(w.length:Int):=by omega
     rw[show (if aD false false false false false (.mk k m M s w e f)=true then (3:Int) else 0)=3 by simp[aD,hm,hM,hs,hw]]
     simp(maxSteps:=9^7) (disch:=try exact dI) only[dm,Typ.pv_mk,lim,hm,hM,hs,push_cast,seval]
   ·rw[show (if aD false false false false false (.mk k m M s w e f)=true then (3:Int) else 0)=3 by simp[aD,hm,hM,hs]]
    simp(maxSteps:=9^7) (disch:=try exact dI) only[dm,Typ.pv_mk,lim,hm,hM,hs,push_cast,seval]
  ·rw[show (if aD false false false false false (.mk k m M s w e f)=true then (3:Int) else 0)=3 by simp[aD,hm,hM]]
   simp(maxSteps:=9^7) (disch:=try exact dI) only[dm,Typ.pv_mk,lim,hm,hM,push_cast,seval]
 ·rw[show (if aD false false false false false (.mk k m M s w e f)=true then (3:Int) else 0)=3 by simp[aD,hm]]
  simp(maxSteps:=9^7) (disch:=try exact dI) only[dm,Typ.pv_mk,lim,hm,push_cast,seval]
theorem xy (k m M s:Int)(w:List (List UInt8))(e:List Typ)(f:List TFd)(nm:List UInt8)(lo hi:Int):ap Tryz.prog az 232 [(Typ.mk k m M s w e f).pv,lim nm lo hi true false false false false] (.int .i64 (if aD true false false false false (.mk k m M s w e f)=true then 3 else 0)):=by
 refine ap.intro fA (by simp[dm]) ?_
 by_cases hs:s=0
 ·by_cases hw:w.length=0
  ·have hwI:¬ (0:Int)<(w.length:Int):=by omega
   by_cases he:e.length=0
   ·have heI:¬ (0:Int)<(e.length:Int):=by omega
    by_cases hf:f.length=0
    ·have hfI:¬ (0:Int)<(f.length:Int):=by omega
     rw[show (if aD true false false false false (.mk k m M s w e f)=true then (3:Int) else 0)=0 by simp[aD,hs,hw,he,hf]]
     simp(maxSteps:=9^7) (disch:=try exact dI) only[dm,Typ.pv_mk,lim,hs,push_cast,seval]
    ·have hfI:(0:Int)<(f.length:Int):=by omega
     rw[show (if aD true false false false false (.mk k m M s w e f)=true then (3:Int) else 0)=3 by simp[aD,hs,hw,he,hf]]
     simp(maxSteps:=9^7) (disch:=try exact dI) only[dm,Typ.pv_mk,lim,hs,push_cast,seval]
   ·have heI:(0:Int)<(e.length:Int):=by omega
    rw[show (if aD true false false false false (.mk k m M s w e f)=true then (3:Int) else 0)=3 by simp[aD,hs,hw,he]]
    simp(maxSteps:=9^7) (disch:=try exact dI) only[dm,Typ.pv_mk,lim,hs,push_cast,seval]
  ·have hwI:(0:Int)<(w.length:Int):=by omega
   rw[show (if aD true false false false false (.mk k m M s w e f)=true then (3:Int) else 0)=3 by simp[aD,hs,hw]]
   simp(maxSteps:=9^7) (disch:=try exact dI) only[dm,Typ.pv_mk,lim,hs,push_cast,seval]
 ·rw[show (if aD true false false false false (.mk k m M s w e f)=true then (3:Int) else 0)=3 by simp[aD,hs]]
  simp(maxSteps:=9^7) (disch:=try exact dI) only[dm,Typ.pv_mk,lim,hs,push_cast,seval]
theorem xx (k m M s:Int)(w:List (List UInt8))(e:List Typ)(f:List TFd)(nm:List UInt8)(lo hi:Int):ap Tryz.prog az 232 [(Typ.mk k m M s w e f).pv,lim nm lo hi true true false false false] (.int .i64 (if aD true true false false false (.mk k m M s w e f)=true then 3 else 0)):=by
 refine ap.intro fA (by simp[dm]) ?_
 by_cases hw:w.length=0
 ·have hwI:¬ (0:Int)<(w.length:Int):=by omega
  by_cases he:e.length=0
  ·have heI:¬ (0:Int)<(e.length:Int):=by omega
   by_cases hf:f.length=0
   ·have hfI:¬ (0:Int)<(f.length:Int):=by omega
    rw[show (if aD true true false false false (.mk k m M s w e f)=true then (3:Int) else 0)=0 by simp[aD,hw,he,hf]]
    simp(maxSteps:=9^7) (disch:=try exact dI) only[dm,Typ.pv_mk,lim,push_cast,seval]
   ·have hfI:(0:Int)<(f.length:Int):=by omega
    rw[show (if aD true true false false false (.mk k m M s w e f)=true then (3:Int) else 0)=3 by simp[aD,hw,he,hf]]
    simp(maxSteps:=9^7) (disch:=try exact dI) only[dm,Typ.pv_mk,lim,push_cast,seval]
  ·have heI:(0:Int)<(e.length:Int):=by omega
   rw[show (if aD true true false false false (.mk k m M s w e f)=true then (3:Int) else 0)=3 by simp[aD,hw,he]]
   simp(maxSteps:=9^7) (disch:=try exact dI) only[dm,Typ.pv_mk,lim,push_cast,seval]
 ·have hwI:(0:Int)<(w.length:Int):=by omega
  rw[show (if aD true true false false false (.mk k m M s w e f)=true then (3:Int) else 0)=3 by simp[aD,hw]]
  simp(maxSteps:=9^7) (disch:=try exact dI) only[dm,Typ.pv_mk,lim,push_cast,seval]
theorem xr (k m M s:Int)(w:List (List UInt8))(e:List Typ)(f:List TFd)(nm:List UInt8)(lo hi:Int):ap Tryz.prog az 232 [(Typ.mk k m M s w e f).pv,lim nm lo hi true false true false false] (.int .i64 (if aD true false true false false (.mk k m M s w e f)=true then 3 else 0)):=by
 refine ap.intro fA (by simp[dm]) ?_
 by_cases hs:s=0
 ·by_cases he:e.length=0
  ·have heI:¬ (0:Int)<(e.length:Int):=by omega
   by_cases hf:f.length=0
   ·have hfI:¬ (0:Int)<(f.length:Int):=by omega
    rw[show (if aD true false true false false (.mk k m M s w e f)=true then (3:Int) else 0)=0 by simp[aD,hs,he,hf]]
    simp(maxSteps:=9^7) (disch:=try exact dI) only[dm,Typ.pv_mk,lim,hs,push_cast,seval]
   ·have hfI:(0:Int)<(f.length:Int):=by omega
    rw[show (if aD true false true false false (.mk k m M s w e f)=true then (3:Int) else 0)=3 by simp[aD,hs,he,hf]]
    simp(maxSteps:=9^7) (disch:=try exact dI) only[dm,Typ.pv_mk,lim,hs,push_cast,seval]
  ·have heI:(0:Int)<(e.length:Int):=by omega
   rw[show (if aD true false true false false (.mk k m M s w e f)=true then (3:Int) else 0)=3 by simp[aD,hs,he]]
   simp(maxSteps:=9^7) (disch:=try exact dI) only[dm,Typ.pv_mk,lim,hs,push_cast,seval]
 ·rw[show (if aD true false true false false (.mk k m M s w e f)=true then (3:Int) else 0)=3 by simp[aD,hs]]
  simp(maxSteps:=9^7) (disch:=try exact dI) only[dm,Typ.pv_mk,lim,hs,push_cast,seval]
theorem xw (k m M s:Int)(w:List (List UInt8))(e:List Typ)(f:List TFd)(nm:List UInt8)(lo hi:Int):ap Tryz.prog az 232 [(Typ.mk k m M s w e f).pv,lim nm lo hi true false false true false] (.int .i64 (if aD true false false true false (.mk k m M s w e f)=true then 3 else 0)):=by
 refine ap.intro fA (by simp[dm]) ?_
 by_cases hs:s=0
 ·by_cases hw:w.length=0
  ·have hwI:¬ (0:Int)<(w.length:Int):=by omega
   by_cases hf:f.length=0
   ·have hfI:¬ (0:Int)<(f.length:Int):=by omega
    rw[show (if aD true false false true false (.mk k m M s w e f)=true then (3:Int) else 0)=0 by simp[aD,hs,hw,hf]]
    simp(maxSteps:=9^7) (disch:=try exact dI) only[dm,Typ.pv_mk,lim,hs,push_cast,seval]
   ·have hfI:(0:Int)<(f.length:Int):=by omega
    rw[show (if aD true false false true false (.mk k m M s w e f)=true then (3:Int) else 0)=3 by simp[aD,hs,hw,hf]]
    simp(maxSteps:=9^7) (disch:=try exact dI) only[dm,Typ.pv_mk,lim,hs,push_cast,seval]
  ·have hwI:(0:Int)<(w.length:Int):=by omega
   rw[show (if aD true false false true false (.mk k m M s w e f)=true then (3:Int) else 0)=3 by simp[aD,hs,hw]]
   simp(maxSteps:=9^7) (disch:=try exact dI) only[dm,Typ.pv_mk,lim,hs,push_cast,seval]
 ·rw[show (if aD true false false true false (.mk k m M s w e f)=true then (3:Int) else 0)=3 by simp[aD,hs]]
  simp(maxSteps:=9^7) (disch:=try exact dI) only[dm,Typ.pv_mk,lim,hs,push_cast,seval]
theorem xu (k m M s:Int)(w:List (List UInt8))(e:List Typ)(f:List TFd)(nm:List UInt8)(lo hi:Int):ap Tryz.prog az 232 [(Typ.mk k m M s w e f).pv,lim nm lo hi false false false false true] (.int .i64 (if aD false false false false true (.mk k m M s w e f)=true then 3 else 0)):=by
 refine ap.intro fA (by simp[dm]) ?_
 by_cases hm:m=0
 ·by_cases hM:M=0
  ·by_cases hs:s=0
   ·by_cases hw:w.length=0
    ·have hwI:¬ (0:Int)<(w.length:Int):=by omega
     by_cases he:e.length=0
     ·have heI:¬ (0:Int)<(e.length:Int):=by omega
      rw[show (if aD false false false false true (.mk k m M s w e f)=true then (3:Int) else 0)=0 by simp[aD,hm,hM,hs,hw,he]]
      simp(maxSteps:=9^7) (disch:=try exact dI) only[dm,Typ.pv_mk,lim,hm,hM,hs,push_cast,seval]
     ·have heI:(0:Int)<(e.length:Int):=by omega
      rw[show (if aD false false false false true (.mk k m M s w e f)=true then (3:Int) else 0)=3 by simp[aD,hm,hM,hs,hw,he]]
      simp(maxSteps:=9^7) (disch:=try exact dI) only[dm,Typ.pv_mk,lim,hm,hM,hs,push_cast,seval]
    ·have hwI:(0:Int)<(w.length:Int):=by omega
     rw[show (if aD false false false false true (.mk k m M s w e f)=true then (3:Int) else 0)=3 by simp[aD,hm,hM,hs,hw]]
     simp(maxSteps:=9^7) (disch:=try exact dI) only[dm,Typ.pv_mk,lim,hm,hM,hs,push_cast,seval]
   ·rw[show (if aD false false false false true (.mk k m M s w e f)=true then (3:Int) else 0)=3 by simp[aD,hm,hM,hs]]
    simp(maxSteps:=9^7) (disch:=try exact dI) only[dm,Typ.pv_mk,lim,hm,hM,hs,push_cast,seval]
  ·rw[show (if aD false false false false true (.mk k m M s w e f)=true then (3:Int) else 0)=3 by simp[aD,hm,hM]]
   simp(maxSteps:=9^7) (disch:=try exact dI) only[dm,Typ.pv_mk,lim,hm,hM,push_cast,seval]
 ·rw[show (if aD false false false false true (.mk k m M s w e f)=true then (3:Int) else 0)=3 by simp[aD,hm]]
  simp(maxSteps:=9^7) (disch:=try exact dI) only[dm,Typ.pv_mk,lim,hm,push_cast,seval]
end Go.Proofs.YtfepkhlgopjaoaaGreatDoor
-- many steps
namespace Go.Proofs.YtfepkhlgopjaoaaGreatDoor
open Go Go.Ab
attribute [local irreducible] vc
def ec (w:List UInt8):Val:=.mk 4 0 0 w [] []
def kb (w:List UInt8):Int:=if fm w.length 1024 5=0 then (if Lib.validD w=true then 0 else 16) else fm w.length 1024 5
theorem EW (w:List UInt8):ap Tryz.prog az 167 [.str w] (ec w).pv:=by
 refine ap.intro H0 (by simp[ND]) ?_
 simp only[ec,Val.pv_mk,List.map_nil]
 simp(maxSteps:=9^7) (disch:=try exact dI) only[ND,push_cast,seval]
theorem vI (w:List UInt8):dj 1 1 (ec w)=[(1,ec w)]:=by
 simp[dj,bx,ec,Val.kind]
theorem C2 (w:List UInt8):lP 0 (dj 1 1 (ec w))=kb w:=by
 rw[vI,lP,ue (by omega) (by simp) (by simp[dU,ec]) (by simp[ec,Val.kind]) (by simp[di,ec])]
 simp only[lP]
 have e:bi (ec w)=kb w:=rfl
 rw[e]
 split
 ·rename_i h;exact h.symm
 ·rfl
theorem yb (w:List UInt8)(hw:w.length≤140737488351232):ap Tryz.prog az 74 [(ec w).pv] (.int .i64 (kb w)):=by
 have:=jR 1 (ec w) (by simp[g8,bx,ec,Val.kind]) (by simp[ec,Val.ok_mk,I64,hw])
 rw[C2] at this
 exact this
def fC:Option (List UInt8)→List (List UInt8)→Int
 | _,[]=>0
 | p,w::r=>if kb w=0 then (if p=some w then 7 else if (p.any fun q=>bj w q)=true then 24 else fC (some w) r) else kb w
theorem ml {ws:List (List UInt8)}{i:Nat}{w:List UInt8}(h:ws[i]? = some w)(p:Option (List UInt8)):fC p (ws.drop i)=if kb w=0 then (if p=some w then 7 else if (p.any fun q=>bj w q)=true then 24 else fC (some w) (ws.drop (i+1))) else kb w:=by
 have hi:i<ws.length:=(List.getElem?_eq_some_iff.1 h).1
 have he:ws[i]=w:=(List.getElem?_eq_some_iff.1 h).2
 rw[List.drop_eq_getElem_cons hi,he,fC]
def mZ (ws:List (List UInt8))(i:Nat):Option (List UInt8):=if i=0 then none else ws[i - 1]?
def db (m M:Int)(ws:List (List UInt8)):Int:=if ¬ (m=0∧M=0) then 3 else if 64<ws.length then 9 else fC none ws
set_option maxHeartbeats 2000000 in
theorem zY (k m M s:Int)(ws:List (List UInt8))(e:List Typ)(f:List TFd)(hw:∀ w∈ws,w.length≤140737488351232):ap Tryz.prog az 233 [(Typ.mk k m M s ws e f).pv] (.int .i64 (db m M ws)):=by
 refine ap.intro HF (by simp[Iz]) ?_
 by_cases hm:m=0
 ·by_cases hM:M=0
  ·by_cases h64:64<ws.length
   ·rw[show db m M ws=9 by simp[db,hm,hM,h64]]
    simp(maxSteps:=9^7) (disch:=try exact dI) only[Iz,Typ.pv_mk,hm,hM,push_cast,seval]
   ·rw[show db m M ws=fC none ws by simp[db,hm,hM,h64]]
    obtain⟨R,hR⟩:∃ R,R=fC none ws:=⟨_,rfl⟩
    rw[← hR]
    simp(maxSteps:=9^7) (disch:=try exact dI) only[Iz,Typ.pv_mk,hm,hM,push_cast,seval]
    refine aB ([]) (fun i:Nat=>[(23,.pv (.int .i64 (i:Int)))]) (fun _=>[]) (fun i=>i≤ws.length∧R=fC (mZ ws i) (ws.drop i)) (fun i=>ws.length - i) (0) ?_;intro e0 σ0 n0 h0;simp(maxSteps:=9^7) (disch:=try exact dI) only[push_cast,seval] at h0;obtain⟨rfl,rfl,rfl⟩:=h0;refine⟨?_,?_,?_⟩
    ·simp(maxSteps:=9^7) (disch:=try exact dI) only[push_cast,seval]
    ·exact⟨by omega,by simpa[mZ] using hR⟩
    rintro i ⟨hi,hr⟩
    by_cases hlt:i<ws.length
    ·have hltI:(i:Int)<(ws.length:Int):=by omega
     obtain⟨w,hwi⟩:∃ w,ws[i]? = some w:=⟨_,List.getElem?_eq_getElem hlt⟩
     have hcp:(ws.map PV.str)[i]? = some (.str w):=by simp[hwi]
     have ht:=EW w
     have hc:=yb w (hw w (List.mem_of_getElem? hwi))
     simp only[ec,Val.pv_mk,List.map_nil] at ht hc
     rw[ml hwi] at hr
     have hnext:mZ ws (i+1)=some w:=by simp[mZ,hwi]
     generalize kb w=z at hc hr
     by_cases hz:z=0
     ·subst hz
      rw[if_pos rfl] at hr
      by_cases hi0:i=0
      ·have hiI:¬ (0:Int)<(i:Int):=by omega
       have hpn:mZ ws i=none:=if_pos hi0
       rw[hpn,if_neg (by simp),if_neg (by simp),← hnext] at hr
       simp(maxSteps:=9^7) (disch:=try exact dI) only[hcp,push_cast,seval]
       refine ae.pure ht rfl ?_
       simp(maxSteps:=9^7) (disch:=try exact dI) only[push_cast,seval]
       refine ae.pure hc rfl ?_
       simp(maxSteps:=9^7) (disch:=try exact dI) only[push_cast,seval]
       exact⟨i+1,bH qsZ,⟨by omega,hr⟩,by omega⟩
      ·obtain⟨j,rfl⟩:∃ j,i=j+1:=⟨i - 1,by omega⟩
       obtain⟨q,hq'⟩:∃ q,ws[j]? = some q:=⟨_,List.getElem?_eq_getElem (by omega)⟩
       have hpn:mZ ws (j+1)=some q:=by simp[mZ,hq']
       have hcq:(ws.map PV.str)[j]? = some (.str q):=by simp[hq']
       rw[hpn] at hr
       by_cases hq:w=q
       ·subst hq
        rw[if_pos rfl] at hr
        subst hr
        simp(maxSteps:=9^7) (disch:=try exact dI) only[hcp,Int.add_sub_cancel,push_cast,seval]
        refine ae.pure ht rfl ?_
        simp(maxSteps:=9^7) (disch:=try exact dI) only[push_cast,seval]
        refine ae.pure hc rfl ?_
        simp(maxSteps:=9^7) (disch:=try exact dI) only[hcq,Int.add_sub_cancel,push_cast,seval]
       ·rw[if_neg (by simpa using fun e=>hq e.symm)] at hr
        cases hlt2:bj w q with
        | true=>
          rw[if_pos (by simpa using hlt2)] at hr
          subst hr
          simp(maxSteps:=9^7) (disch:=try exact dI) only[hcp,Int.add_sub_cancel,push_cast,seval]
          refine ae.pure ht rfl ?_
          simp(maxSteps:=9^7) (disch:=try exact dI) only[push_cast,seval]
          refine ae.pure hc rfl ?_
          simp(maxSteps:=9^7) (disch:=try exact dI) only[hcq,Int.add_sub_cancel,hq,hlt2,push_cast,seval]
        | false=>
          rw[if_neg (by simp[hlt2]),← hnext] at hr
          simp(maxSteps:=9^7) (disch:=try exact dI) only[hcp,Int.add_sub_cancel,push_cast,seval]
          refine ae.pure ht rfl ?_
          simp(maxSteps:=9^7) (disch:=try exact dI) only[push_cast,seval]
          refine ae.pure hc rfl ?_
          simp(maxSteps:=9^7) (disch:=try exact dI) only[hcq,Int.add_sub_cancel,hq,hlt2,push_cast,seval]
          exact⟨j+1+1,bH qsZ,⟨by omega,hr⟩,by omega⟩
     ·rw[if_neg hz] at hr
      subst hr
      simp(maxSteps:=9^7) (disch:=try exact dI) only[hcp,push_cast,seval]
      refine ae.pure ht rfl ?_
      simp(maxSteps:=9^7) (disch:=try exact dI) only[push_cast,seval]
      refine ae.pure hc rfl ?_
      simp(maxSteps:=9^7) (disch:=try exact dI) only[push_cast,seval]
    ·have hie:i=ws.length:=by omega
     subst hie
     rw[List.drop_length] at hr
     rw[show R=0 from hr]
     simp(maxSteps:=9^7) (disch:=try exact dI) only[push_cast,seval]
  ·rw[show db m M ws=3 by simp[db,hM]]
   simp(maxSteps:=9^7) (disch:=try exact dI) only[Iz,Typ.pv_mk,hm,hM,push_cast,seval]
 ·rw[show db m M ws=3 by simp[db,hm]]
  simp(maxSteps:=9^7) (disch:=try exact dI) only[Iz,Typ.pv_mk,hm,push_cast,seval]
end Go.Proofs.YtfepkhlgopjaoaaGreatDoor
