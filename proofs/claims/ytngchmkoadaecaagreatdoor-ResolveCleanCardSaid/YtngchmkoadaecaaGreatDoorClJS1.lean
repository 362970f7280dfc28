/- A part. -/
import Derived.Test.YtngchmkoadaecaaGreatDoorClJR6
set_option linter.unusedVariables false
set_option linter.unusedSimpArgs false
set_option maxHeartbeats 16000000
set_option maxRecDepth 100000
open List renaming map_nil->Va,getElem?_eq_some_iff->Ur,getElem?_eq_getElem->Uq
open Int renaming add_sub_cancel->U7
namespace Go.Proofs.YtngchmkoadaecaaGreatDoor
open Go Go.Ab
attribute [local irreducible] vc
def inB (n a b:Int):Bool:=decide (a<=n)&&decide (n<=b)
theorem mr (n a b:Int):ap Tryz.prog aB 91 [.int .i64 n,.int .i64 a,.int .i64 b] (.bool (inB n a b)):=by
 refine ap.intro Q91.2 (by simp[Q91]) ?_
 by_cases h1:a<=n
 ·by_cases h2:n<=b
  ·rw[show inB n a b=true by simp[inB,h1,h2]]
   simp(maxSteps:=9^7) (disch:=try exact dI) only[Q91,push_cast,seval]
  ·rw[show inB n a b=false by simp[inB,h2]]
   simp(maxSteps:=9^7) (disch:=try exact dI) only[Q91,push_cast,seval]
 ·rw[show inB n a b=false by simp[inB,h1]]
  simp(maxSteps:=9^7) (disch:=try exact dI) only[Q91,push_cast,seval]
def lim (nm:List UInt8)(lo hi:Int)(b1 b2 b3 b4 b5:Bool):PV:=.agg [.str nm,.int .i64 lo,.int .i64 hi,.bool b1,.bool b2,.bool b3,.bool b4,.bool b5]
def aM (b1 b2 b3 b4 b5:Bool):Typ->Bool
 | .mk k m M s w e f=>(!b1&&!(decide (m=0)&&decide (M=0)))||((!b2&&!decide (s=0))||((!b3&&!decide (w.length=0))||((!b4&&!decide (e.length=0))||(!b5&&!decide (f.length=0)))))
theorem Cs (k m M s:Int)(w:List (List UInt8))(e:List Typ)(f:List TFd)(nm:List UInt8)(lo hi:Int):ap Tryz.prog aB 141 [(Typ.mk k m M s w e f).pv,lim nm lo hi false false false false false] (.int .i64 (if aM false false false false false (.mk k m M s w e f)=true then 3 else 0)):=by
 refine ap.intro dK.2 (by simp[dK]) ?_
 by_cases hm:m=0
 ·by_cases hM:M=0
  ·by_cases hs:s=0
   ·by_cases hw:w.length=0
    ·have hwI:¬ (0:Int)<(w.length:Int):=by omega
     by_cases he:e.length=0
     ·have heI:¬ (0:Int)<(e.length:Int):=by omega
      by_cases hf:f.length=0
      ·have hfI:¬ (0:Int)<(f.length:Int):=by omega
       rw[show (if aM false false false false false (.mk k m M s w e f)=true then (3:Int) else 0)=0 by simp[aM,hm,hM,hs,hw,he,hf]]
       simp(maxSteps:=9^7) (disch:=try exact dI) only[dK,Um,lim,hm,hM,hs,push_cast,seval]
      ·have hfI:(0:Int)<(f.length:Int):=by omega
       rw[show (if aM false false false false false (.mk k m M s w e f)=true then (3:Int) else 0)=3 by simp[aM,hm,hM,hs,hw,he,hf]]
       simp(maxSteps:=9^7) (disch:=try exact dI) only[dK,Um,lim,hm,hM,hs,push_cast,seval]
     ·have heI:(0:Int)<(e.length:Int):=by omega
      rw[show (if aM false false false false false (.mk k m M s w e f)=true then (3:Int) else 0)=3 by simp[aM,hm,hM,hs,hw,he]]
      simp(maxSteps:=9^7) (disch:=try exact dI) only[dK,Um,lim,hm,hM,hs,push_cast,seval]
    ·have hwI:(0:Int)<(w.length:Int):=by omega
     rw[show (if aM false false false false false (.mk k m M s w e f)=true then (3:Int) else 0)=3 by simp[aM,hm,hM,hs,hw]]
     simp(maxSteps:=9^7) (disch:=try exact dI) only[dK,Um,lim,hm,hM,hs,push_cast,seval]
   ·rw[show (if aM false false false false false (.mk k m M s w e f)=true then (3:Int) else 0)=3 by simp[aM,hm,hM,hs]]
    simp(maxSteps:=9^7) (disch:=try exact dI) only[dK,Um,lim,hm,hM,hs,push_cast,seval]
  ·rw[show (if aM false false false false false (.mk k m M s w e f)=true then (3:Int) else 0)=3 by simp[aM,hm,hM]]
   simp(maxSteps:=9^7) (disch:=try exact dI) only[dK,Um,lim,hm,hM,push_cast,seval]
 ·rw[show (if aM false false false false false (.mk k m M s w e f)=true then (3:Int) else 0)=3 by simp[aM,hm]]
  simp(maxSteps:=9^7) (disch:=try exact dI) only[dK,Um,lim,hm,push_cast,seval]
theorem Cv (k m M s:Int)(w:List (List UInt8))(e:List Typ)(f:List TFd)(nm:List UInt8)(lo hi:Int):ap Tryz.prog aB 141 [(Typ.mk k m M s w e f).pv,lim nm lo hi true false false false false] (.int .i64 (if aM true false false false false (.mk k m M s w e f)=true then 3 else 0)):=by
 refine ap.intro dK.2 (by simp[dK]) ?_
 by_cases hs:s=0
 ·by_cases hw:w.length=0
  ·have hwI:¬ (0:Int)<(w.length:Int):=by omega
   by_cases he:e.length=0
   ·have heI:¬ (0:Int)<(e.length:Int):=by omega
    by_cases hf:f.length=0
    ·have hfI:¬ (0:Int)<(f.length:Int):=by omega
     rw[show (if aM true false false false false (.mk k m M s w e f)=true then (3:Int) else 0)=0 by simp[aM,hs,hw,he,hf]]
     simp(maxSteps:=9^7) (disch:=try exact dI) only[dK,Um,lim,hs,push_cast,seval]
    ·have hfI:(0:Int)<(f.length:Int):=by omega
     rw[show (if aM true false false false false (.mk k m M s w e f)=true then (3:Int) else 0)=3 by simp[aM,hs,hw,he,hf]]
     simp(maxSteps:=9^7) (disch:=try exact dI) only[dK,Um,lim,hs,push_cast,seval]
   ·have heI:(0:Int)<(e.length:Int):=by omega
    rw[show (if aM true false false false false (.mk k m M s w e f)=true then (3:Int) else 0)=3 by simp[aM,hs,hw,he]]
    simp(maxSteps:=9^7) (disch:=try exact dI) only[dK,Um,lim,hs,push_cast,seval]
  ·have hwI:(0:Int)<(w.length:Int):=by omega
   rw[show (if aM true false false false false (.mk k m M s w e f)=true then (3:Int) else 0)=3 by simp[aM,hs,hw]]
   simp(maxSteps:=9^7) (disch:=try exact dI) only[dK,Um,lim,hs,push_cast,seval]
 ·rw[show (if aM true false false false false (.mk k m M s w e f)=true then (3:Int) else 0)=3 by simp[aM,hs]]
  simp(maxSteps:=9^7) (disch:=try exact dI) only[dK,Um,lim,hs,push_cast,seval]
theorem Cu (k m M s:Int)(w:List (List UInt8))(e:List Typ)(f:List TFd)(nm:List UInt8)(lo hi:Int):ap Tryz.prog aB 141 [(Typ.mk k m M s w e f).pv,lim nm lo hi true true false false false] (.int .i64 (if aM true true false false false (.mk k m M s w e f)=true then 3 else 0)):=by
 refine ap.intro dK.2 (by simp[dK]) ?_
 by_cases hw:w.length=0
 ·have hwI:¬ (0:Int)<(w.length:Int):=by omega
  by_cases he:e.length=0
  ·have heI:¬ (0:Int)<(e.length:Int):=by omega
   by_cases hf:f.length=0
   ·have hfI:¬ (0:Int)<(f.length:Int):=by omega
    rw[show (if aM true true false false false (.mk k m M s w e f)=true then (3:Int) else 0)=0 by simp[aM,hw,he,hf]]
    simp(maxSteps:=9^7) (disch:=try exact dI) only[dK,Um,lim,push_cast,seval]
   ·have hfI:(0:Int)<(f.length:Int):=by omega
    rw[show (if aM true true false false false (.mk k m M s w e f)=true then (3:Int) else 0)=3 by simp[aM,hw,he,hf]]
    simp(maxSteps:=9^7) (disch:=try exact dI) only[dK,Um,lim,push_cast,seval]
  ·have heI:(0:Int)<(e.length:Int):=by omega
   rw[show (if aM true true false false false (.mk k m M s w e f)=true then (3:Int) else 0)=3 by simp[aM,hw,he]]
   simp(maxSteps:=9^7) (disch:=try exact dI) only[dK,Um,lim,push_cast,seval]
 ·have hwI:(0:Int)<(w.length:Int):=by omega
  rw[show (if aM true true false false false (.mk k m M s w e f)=true then (3:Int) else 0)=3 by simp[aM,hw]]
  simp(maxSteps:=9^7) (disch:=try exact dI) only[dK,Um,lim,push_cast,seval]
theorem Cq (k m M s:Int)(w:List (List UInt8))(e:List Typ)(f:List TFd)(nm:List UInt8)(lo hi:Int):ap Tryz.prog aB 141 [(Typ.mk k m M s w e f).pv,lim nm lo hi true false true false false] (.int .i64 (if aM true false true false false (.mk k m M s w e f)=true then 3 else 0)):=by
 refine ap.intro dK.2 (by simp[dK]) ?_
 by_cases hs:s=0
 ·by_cases he:e.length=0
  ·have heI:¬ (0:Int)<(e.length:Int):=by omega
   by_cases hf:f.length=0
   ·have hfI:¬ (0:Int)<(f.length:Int):=by omega
    rw[show (if aM true false true false false (.mk k m M s w e f)=true then (3:Int) else 0)=0 by simp[aM,hs,he,hf]]
    simp(maxSteps:=9^7) (disch:=try exact dI) only[dK,Um,lim,hs,push_cast,seval]
   ·have hfI:(0:Int)<(f.length:Int):=by omega
    rw[show (if aM true false true false false (.mk k m M s w e f)=true then (3:Int) else 0)=3 by simp[aM,hs,he,hf]]
    simp(maxSteps:=9^7) (disch:=try exact dI) only[dK,Um,lim,hs,push_cast,seval]
  ·have heI:(0:Int)<(e.length:Int):=by omega
   rw[show (if aM true false true false false (.mk k m M s w e f)=true then (3:Int) else 0)=3 by simp[aM,hs,he]]
   simp(maxSteps:=9^7) (disch:=try exact dI) only[dK,Um,lim,hs,push_cast,seval]
 ·rw[show (if aM true false true false false (.mk k m M s w e f)=true then (3:Int) else 0)=3 by simp[aM,hs]]
  simp(maxSteps:=9^7) (disch:=try exact dI) only[dK,Um,lim,hs,push_cast,seval]
theorem Ct (k m M s:Int)(w:List (List UInt8))(e:List Typ)(f:List TFd)(nm:List UInt8)(lo hi:Int):ap Tryz.prog aB 141 [(Typ.mk k m M s w e f).pv,lim nm lo hi true false false true false] (.int .i64 (if aM true false false true false (.mk k m M s w e f)=true then 3 else 0)):=by
 refine ap.intro dK.2 (by simp[dK]) ?_
 by_cases hs:s=0
 ·by_cases hw:w.length=0
  ·have hwI:¬ (0:Int)<(w.length:Int):=by omega
   by_cases hf:f.length=0
   ·have hfI:¬ (0:Int)<(f.length:Int):=by omega
    rw[show (if aM true false false true false (.mk k m M s w e f)=true then (3:Int) else 0)=0 by simp[aM,hs,hw,hf]]
    simp(maxSteps:=9^7) (disch:=try exact dI) only[dK,Um,lim,hs,push_cast,seval]
   ·have hfI:(0:Int)<(f.length:Int):=by omega
    rw[show (if aM true false false true false (.mk k m M s w e f)=true then (3:Int) else 0)=3 by simp[aM,hs,hw,hf]]
    simp(maxSteps:=9^7) (disch:=try exact dI) only[dK,Um,lim,hs,push_cast,seval]
  ·have hwI:(0:Int)<(w.length:Int):=by omega
   rw[show (if aM true false false true false (.mk k m M s w e f)=true then (3:Int) else 0)=3 by simp[aM,hs,hw]]
   simp(maxSteps:=9^7) (disch:=try exact dI) only[dK,Um,lim,hs,push_cast,seval]
 ·rw[show (if aM true false false true false (.mk k m M s w e f)=true then (3:Int) else 0)=3 by simp[aM,hs]]
  simp(maxSteps:=9^7) (disch:=try exact dI) only[dK,Um,lim,hs,push_cast,seval]
theorem Cr (k m M s:Int)(w:List (List UInt8))(e:List Typ)(f:List TFd)(nm:List UInt8)(lo hi:Int):ap Tryz.prog aB 141 [(Typ.mk k m M s w e f).pv,lim nm lo hi false false false false true] (.int .i64 (if aM false false false false true (.mk k m M s w e f)=true then 3 else 0)):=by
 refine ap.intro dK.2 (by simp[dK]) ?_
 by_cases hm:m=0
 ·by_cases hM:M=0
  ·by_cases hs:s=0
   ·by_cases hw:w.length=0
    ·have hwI:¬ (0:Int)<(w.length:Int):=by omega
     by_cases he:e.length=0
     ·have heI:¬ (0:Int)<(e.length:Int):=by omega
      rw[show (if aM false false false false true (.mk k m M s w e f)=true then (3:Int) else 0)=0 by simp[aM,hm,hM,hs,hw,he]]
      simp(maxSteps:=9^7) (disch:=try exact dI) only[dK,Um,lim,hm,hM,hs,push_cast,seval]
     ·have heI:(0:Int)<(e.length:Int):=by omega
      rw[show (if aM false false false false true (.mk k m M s w e f)=true then (3:Int) else 0)=3 by simp[aM,hm,hM,hs,hw,he]]
      simp(maxSteps:=9^7) (disch:=try exact dI) only[dK,Um,lim,hm,hM,hs,push_cast,seval]
    ·have hwI:(0:Int)<(w.length:Int):=by omega
     rw[show (if aM false false false false true (.mk k m M s w e f)=true then (3:Int) else 0)=3 by simp[aM,hm,hM,hs,hw]]
     simp(maxSteps:=9^7) (disch:=try exact dI) only[dK,Um,lim,hm,hM,hs,push_cast,seval]
   ·rw[show (if aM false false false false true (.mk k m M s w e f)=true then (3:Int) else 0)=3 by simp[aM,hm,hM,hs]]
    simp(maxSteps:=9^7) (disch:=try exact dI) only[dK,Um,lim,hm,hM,hs,push_cast,seval]
  ·rw[show (if aM false false false false true (.mk k m M s w e f)=true then (3:Int) else 0)=3 by simp[aM,hm,hM]]
   simp(maxSteps:=9^7) (disch:=try exact dI) only[dK,Um,lim,hm,hM,push_cast,seval]
 ·rw[show (if aM false false false false true (.mk k m M s w e f)=true then (3:Int) else 0)=3 by simp[aM,hm]]
  simp(maxSteps:=9^7) (disch:=try exact dI) only[dK,Um,lim,hm,push_cast,seval]
def fN (w:List UInt8):Val:=.mk 4 0 0 w [] []
def m9 (w:List UInt8):Int:=if hU w.length 1024 5=0 then (if Lib.validD w=true then 0 else 16) else hU w.length 1024 5
theorem JD (w:List UInt8):ap Tryz.prog aB 153 [.str w] (fN w).pv:=by
 refine ap.intro SR.2 (by simp[SR]) ?_
 simp only[fN,Uo,Va]
 simp(maxSteps:=9^7) (disch:=try exact dI) only[SR,push_cast,seval]
theorem AP (w:List UInt8):eS 1 1 (fN w)=[(1,fN w)]:=by
 simp[eS,cP,fN,Val.kind]
theorem HJ (w:List UInt8):py 0 (eS 1 1 (fN w))=m9 w:=by
 rw[AP,py,zd (by omega) (by simp) (by simp[fB,fN]) (by simp[fN,Val.kind]) (by simp[eL,fN])]
 simp only[py]
 have e:b9 (fN w)=m9 w:=rfl
 rw[e]
 split
 ·rename_i h;exact h.symm
 ·rfl
theorem C9 (w:List UInt8)(hw:w.length<=140737488351232):ap Tryz.prog aB 144 [(fN w).pv] (.int .i64 (m9 w)):=by
 have:=tx 1 (fN w) (by simp[kB,cP,fN,Val.kind]) (by simp[fN,Un,I64,hw])
 rw[HJ] at this
 exact this
def il:Option (List UInt8)->List (List UInt8)->Int
 | _,[]=>0
 | p,w::r=>if m9 w=0 then (if p=some w then 7 else if (p.any fun q=>ca w q)=true then 24 else il (some w) r) else m9 w
theorem pK {ws:List (List UInt8)}{i:Nat}{w:List UInt8}(h:ws[i]? = some w)(p:Option (List UInt8)):il p (ws.drop i)=if m9 w=0 then (if p=some w then 7 else if (p.any fun q=>ca w q)=true then 24 else il (some w) (ws.drop (i+1))) else m9 w:=by
 have hi:i<ws.length:=(Ur.1 h).1
 have he:ws[i]=w:=(Ur.1 h).2
 rw[List.drop_eq_getElem_cons hi,he,il]
def qu (ws:List (List UInt8))(i:Nat):Option (List UInt8):=if i=0 then none else ws[i - 1]?
def eC (m M:Int)(ws:List (List UInt8)):Int:=if ¬ (m=0/\M=0) then 3 else if 64<ws.length then 9 else il none ws
theorem Ef (k m M s:Int)(ws:List (List UInt8))(e:List Typ)(f:List TFd)(hw:∀ w∈ws,w.length<=140737488351232):ap Tryz.prog aB 142 [(Typ.mk k m M s ws e f).pv] (.int .i64 (eC m M ws)):=by
 refine ap.intro Nm.2 (by simp[Nm]) ?_
 by_cases hm:m=0
 ·by_cases hM:M=0
  ·by_cases h64:64<ws.length
   ·rw[show eC m M ws=9 by simp[eC,hm,hM,h64]]
    simp(maxSteps:=9^7) (disch:=try exact dI) only[Nm,Um,hm,hM,push_cast,seval]
   ·rw[show eC m M ws=il none ws by simp[eC,hm,hM,h64]]
    obtain⟨R,hR⟩:∃ R,R=il none ws:=⟨_,rfl⟩
    rw[<- hR]
    simp(maxSteps:=9^7) (disch:=try exact dI) only[Nm,Um,hm,hM,push_cast,seval]
    refine aw ([]) (fun i:Nat=>[(23,.pv (.int .i64 (i:Int)))]) (fun _=>[]) (fun i=>i<=ws.length/\R=il (qu ws i) (ws.drop i)) (fun i=>ws.length - i) (0) ?_;intro e0 σ0 n0 h0;simp(maxSteps:=9^7) (disch:=try exact dI) only[push_cast,seval] at h0;obtain⟨rfl,rfl,rfl⟩:=h0;refine⟨?_,?_,?_⟩
    ·simp(maxSteps:=9^7) (disch:=try exact dI) only[push_cast,seval]
    ·exact⟨by omega,by simpa[qu] using hR⟩
    rintro i ⟨hi,hr⟩
    by_cases hlt:i<ws.length
    ·have hltI:(i:Int)<(ws.length:Int):=by omega
     obtain⟨w,hwi⟩:∃ w,ws[i]? = some w:=⟨_,Uq hlt⟩
     have hcp:(ws.map PV.str)[i]? = some (.str w):=by simp[hwi]
     have ht:=JD w
     have hc:=C9 w (hw w (List.mem_of_getElem? hwi))
     simp only[fN,Uo,Va] at ht hc
     rw[pK hwi] at hr
     have hnext:qu ws (i+1)=some w:=by simp[qu,hwi]
     generalize m9 w=z at hc hr
     by_cases hz:z=0
     ·subst hz
      rw[if_pos rfl] at hr
      by_cases hi0:i=0
      ·have hiI:¬ (0:Int)<(i:Int):=by omega
       have hpn:qu ws i=none:=if_pos hi0
       rw[hpn,if_neg (by simp),if_neg (by simp),<- hnext] at hr
       simp(maxSteps:=9^7) (disch:=try exact dI) only[hcp,push_cast,seval]
       refine ab.pure ht rfl ?_
       simp(maxSteps:=9^7) (disch:=try exact dI) only[push_cast,seval]
       refine ab.pure hc rfl ?_
       simp(maxSteps:=9^7) (disch:=try exact dI) only[push_cast,seval]
       exact⟨i+1,aN qsZ,⟨by omega,hr⟩,by omega⟩
      ·obtain⟨j,rfl⟩:∃ j,i=j+1:=⟨i - 1,by omega⟩
       obtain⟨q,hq'⟩:∃ q,ws[j]? = some q:=⟨_,Uq (by omega)⟩
       have hpn:qu ws (j+1)=some q:=by simp[qu,hq']
       have hcq:(ws.map PV.str)[j]? = some (.str q):=by simp[hq']
       rw[hpn] at hr
       by_cases hq:w=q
       ·subst hq
        rw[if_pos rfl] at hr
        subst hr
        simp(maxSteps:=9^7) (disch:=try exact dI) only[hcp,U7,push_cast,seval]
        refine ab.pure ht rfl ?_
        simp(maxSteps:=9^7) (disch:=try exact dI) only[push_cast,seval]
        refine ab.pure hc rfl ?_
        simp(maxSteps:=9^7) (disch:=try exact dI) only[hcq,U7,push_cast,seval]
       ·rw[if_neg (by simpa using fun e=>hq e.symm)] at hr
        cases hlt2:ca w q with
        | true=>
          rw[if_pos (by simpa using hlt2)] at hr
          subst hr
          simp(maxSteps:=9^7) (disch:=try exact dI) only[hcp,U7,push_cast,seval]
          refine ab.pure ht rfl ?_
          simp(maxSteps:=9^7) (disch:=try exact dI) only[push_cast,seval]
          refine ab.pure hc rfl ?_
          simp(maxSteps:=9^7) (disch:=try exact dI) only[hcq,U7,hq,hlt2,push_cast,seval]
        | false=>
          rw[if_neg (by simp[hlt2]),<- hnext] at hr
          simp(maxSteps:=9^7) (disch:=try exact dI) only[hcp,U7,push_cast,seval]
          refine ab.pure ht rfl ?_
          simp(maxSteps:=9^7) (disch:=try exact dI) only[push_cast,seval]
          refine ab.pure hc rfl ?_
          simp(maxSteps:=9^7) (disch:=try exact dI) only[hcq,U7,hq,hlt2,push_cast,seval]
          exact⟨j+1+1,aN qsZ,⟨by omega,hr⟩,by omega⟩
     ·rw[if_neg hz] at hr
      subst hr
      simp(maxSteps:=9^7) (disch:=try exact dI) only[hcp,push_cast,seval]
      refine ab.pure ht rfl ?_
      simp(maxSteps:=9^7) (disch:=try exact dI) only[push_cast,seval]
      refine ab.pure hc rfl ?_
      simp(maxSteps:=9^7) (disch:=try exact dI) only[push_cast,seval]
    ·have hie:i=ws.length:=by omega
     subst hie
     rw[List.drop_length] at hr
     rw[show R=0 from hr]
     simp(maxSteps:=9^7) (disch:=try exact dI) only[push_cast,seval]
  ·rw[show eC m M ws=3 by simp[eC,hM]]
   simp(maxSteps:=9^7) (disch:=try exact dI) only[Nm,Um,hm,hM,push_cast,seval]
 ·rw[show eC m M ws=3 by simp[eC,hm]]
  simp(maxSteps:=9^7) (disch:=try exact dI) only[Nm,Um,hm,push_cast,seval]
