/- A part. -/
import Derived.Test.YtngchmkoadaecaaGreatDoorPbJR5
set_option linter.unusedVariables false
set_option linter.unusedSimpArgs false
set_option maxHeartbeats 16000000
set_option maxRecDepth 100000
open List renaming getElem?_eq_some_iff->WU,getElem?_eq_getElem->WT,map_nil->XT
open Int renaming add_sub_cancel->XG
namespace Go.Proofs.YtngchmkoadaecaaGreatDoor
open Go Go.Ab
attribute [local irreducible] vc
theorem LZ (n:Nat)(v:Val)(hd:lz n v)(hv:v.ok)(hs:(ff n 1 v).length<=9223372036854775806):ap Tryz.prog aC 146 [v.pv] (.int .i64 ((ff n 1 v).length:Int)):=by
 have hseq:=iR n v hd hv
 have h243:=j3 v
 generalize hxs:ff n 1 v=xs at *
 obtain⟨k,a,s,t,l,fs⟩:=v
 simp only[WQ] at h243 hseq
 refine ap.intro Vq.2 (by simp[Vq]) ?_
 simp(maxSteps:=9^7) (disch:=try exact dI) only[Vq,WQ,push_cast,seval]
 refine ab.pure h243 rfl ?_
 simp(maxSteps:=9^7) (disch:=try exact dI) only[push_cast,seval]
 refine Ko ([]) (fun i:Nat=>[]) (fun i:Nat=>[(0,.cells 3 true [.pv (.int .i64 (i:Int))])]) (fun j i=>j=i/\i<=xs.length) (0) (hseq) ?_;intro e0 σ0 n0 h0;simp(maxSteps:=9^7) (disch:=try exact dI) only[push_cast,seval] at h0;obtain⟨rfl,rfl,rfl⟩:=h0;refine⟨?_,?_,?_,?_,?_⟩
 ·simp(maxSteps:=9^7) (disch:=try exact dI) only[push_cast,seval]
 ·exact⟨rfl,by omega⟩
 ·rfl
 ·rintro j i y hy ⟨hij,hi⟩
  subst hij
  have hjl:j<xs.length:=by
   have:=(WU.1 hy).1
   simpa using this
  obtain⟨q,hq⟩:∃ q,xs[j]? = some q:=⟨_,WT hjl⟩
  have hye:y=At q:=by simpa[hq] using hy.symm
  subst hye
  obtain⟨lv,⟨k',n',s',t',l',f'⟩⟩:=q
  refine⟨rfl,?_⟩
  simp only[At,WQ]
  clear hy h243 hseq
  simp(maxSteps:=9^7) (disch:=try exact dI) only[push_cast,seval]
  exact⟨j+1,aJ qsZ,rfl,by omega⟩
 ·rintro j ⟨hj,hi⟩
  simp only[List.length_map] at hj
  subst hj
  simp(maxSteps:=9^7) (disch:=try exact dI) only[push_cast,seval]
def inB (n a b:Int):Bool:=decide (a<=n)&&decide (n<=b)
theorem nh (n a b:Int):ap Tryz.prog aC 91 [.int .i64 n,.int .i64 a,.int .i64 b] (.bool (inB n a b)):=by
 refine ap.intro Q91.2 (by simp[Q91]) ?_
 by_cases h1:a<=n
 ·by_cases h2:n<=b
  ·rw[show inB n a b=true by simp[inB,h1,h2]]
   simp(maxSteps:=9^7) (disch:=try exact dI) only[Q91,push_cast,seval]
  ·rw[show inB n a b=false by simp[inB,h2]]
   simp(maxSteps:=9^7) (disch:=try exact dI) only[Q91,push_cast,seval]
 ·rw[show inB n a b=false by simp[inB,h1]]
  simp(maxSteps:=9^7) (disch:=try exact dI) only[Q91,push_cast,seval]
def lim (nm:List UInt8)(lo hi:Int)(b1 b2 b3 b4 b5:Bool):PV:=.agg [.str nm,.int .i64 lo,.int .i64 hi,.bool b1,.bool b2,.bool b3,.bool b4,.bool b5]
def aO (b1 b2 b3 b4 b5:Bool):Typ->Bool
 | .mk k m M s w e f=>(!b1&&!(decide (m=0)&&decide (M=0)))||((!b2&&!decide (s=0))||((!b3&&!decide (w.length=0))||((!b4&&!decide (e.length=0))||(!b5&&!decide (f.length=0)))))
theorem D2 (k m M s:Int)(w:List (List UInt8))(e:List Typ)(f:List TFd)(nm:List UInt8)(lo hi:Int):ap Tryz.prog aC 141 [(Typ.mk k m M s w e f).pv,lim nm lo hi false false false false false] (.int .i64 (if aO false false false false false (.mk k m M s w e f)=true then 3 else 0)):=by
 refine ap.intro ee.2 (by simp[ee]) ?_
 by_cases hm:m=0
 ·by_cases hM:M=0
  ·by_cases hs:s=0
   ·by_cases hw:w.length=0
    ·have hwI:¬ (0:Int)<(w.length:Int):=by omega
     by_cases he:e.length=0
     ·have heI:¬ (0:Int)<(e.length:Int):=by omega
      by_cases hf:f.length=0
      ·have hfI:¬ (0:Int)<(f.length:Int):=by omega
       rw[show (if aO false false false false false (.mk k m M s w e f)=true then (3:Int) else 0)=0 by simp[aO,hm,hM,hs,hw,he,hf]]
       simp(maxSteps:=9^7) (disch:=try exact dI) only[ee,WO,lim,hm,hM,hs,push_cast,seval]
      ·have hfI:(0:Int)<(f.length:Int):=by omega
       rw[show (if aO false false false false false (.mk k m M s w e f)=true then (3:Int) else 0)=3 by simp[aO,hm,hM,hs,hw,he,hf]]
       simp(maxSteps:=9^7) (disch:=try exact dI) only[ee,WO,lim,hm,hM,hs,push_cast,seval]
     ·have heI:(0:Int)<(e.length:Int):=by omega
      rw[show (if aO false false false false false (.mk k m M s w e f)=true then (3:Int) else 0)=3 by simp[aO,hm,hM,hs,hw,he]]
      simp(maxSteps:=9^7) (disch:=try exact dI) only[ee,WO,lim,hm,hM,hs,push_cast,seval]
    ·have hwI:(0:Int)<(w.length:Int):=by omega
     rw[show (if aO false false false false false (.mk k m M s w e f)=true then (3:Int) else 0)=3 by simp[aO,hm,hM,hs,hw]]
     simp(maxSteps:=9^7) (disch:=try exact dI) only[ee,WO,lim,hm,hM,hs,push_cast,seval]
   ·rw[show (if aO false false false false false (.mk k m M s w e f)=true then (3:Int) else 0)=3 by simp[aO,hm,hM,hs]]
    simp(maxSteps:=9^7) (disch:=try exact dI) only[ee,WO,lim,hm,hM,hs,push_cast,seval]
  ·rw[show (if aO false false false false false (.mk k m M s w e f)=true then (3:Int) else 0)=3 by simp[aO,hm,hM]]
   simp(maxSteps:=9^7) (disch:=try exact dI) only[ee,WO,lim,hm,hM,push_cast,seval]
 ·rw[show (if aO false false false false false (.mk k m M s w e f)=true then (3:Int) else 0)=3 by simp[aO,hm]]
  simp(maxSteps:=9^7) (disch:=try exact dI) only[ee,WO,lim,hm,push_cast,seval]
theorem D5 (k m M s:Int)(w:List (List UInt8))(e:List Typ)(f:List TFd)(nm:List UInt8)(lo hi:Int):ap Tryz.prog aC 141 [(Typ.mk k m M s w e f).pv,lim nm lo hi true false false false false] (.int .i64 (if aO true false false false false (.mk k m M s w e f)=true then 3 else 0)):=by
 refine ap.intro ee.2 (by simp[ee]) ?_
 by_cases hs:s=0
 ·by_cases hw:w.length=0
  ·have hwI:¬ (0:Int)<(w.length:Int):=by omega
   by_cases he:e.length=0
   ·have heI:¬ (0:Int)<(e.length:Int):=by omega
    by_cases hf:f.length=0
    ·have hfI:¬ (0:Int)<(f.length:Int):=by omega
     rw[show (if aO true false false false false (.mk k m M s w e f)=true then (3:Int) else 0)=0 by simp[aO,hs,hw,he,hf]]
     simp(maxSteps:=9^7) (disch:=try exact dI) only[ee,WO,lim,hs,push_cast,seval]
    ·have hfI:(0:Int)<(f.length:Int):=by omega
     rw[show (if aO true false false false false (.mk k m M s w e f)=true then (3:Int) else 0)=3 by simp[aO,hs,hw,he,hf]]
     simp(maxSteps:=9^7) (disch:=try exact dI) only[ee,WO,lim,hs,push_cast,seval]
   ·have heI:(0:Int)<(e.length:Int):=by omega
    rw[show (if aO true false false false false (.mk k m M s w e f)=true then (3:Int) else 0)=3 by simp[aO,hs,hw,he]]
    simp(maxSteps:=9^7) (disch:=try exact dI) only[ee,WO,lim,hs,push_cast,seval]
  ·have hwI:(0:Int)<(w.length:Int):=by omega
   rw[show (if aO true false false false false (.mk k m M s w e f)=true then (3:Int) else 0)=3 by simp[aO,hs,hw]]
   simp(maxSteps:=9^7) (disch:=try exact dI) only[ee,WO,lim,hs,push_cast,seval]
 ·rw[show (if aO true false false false false (.mk k m M s w e f)=true then (3:Int) else 0)=3 by simp[aO,hs]]
  simp(maxSteps:=9^7) (disch:=try exact dI) only[ee,WO,lim,hs,push_cast,seval]
theorem D4 (k m M s:Int)(w:List (List UInt8))(e:List Typ)(f:List TFd)(nm:List UInt8)(lo hi:Int):ap Tryz.prog aC 141 [(Typ.mk k m M s w e f).pv,lim nm lo hi true true false false false] (.int .i64 (if aO true true false false false (.mk k m M s w e f)=true then 3 else 0)):=by
 refine ap.intro ee.2 (by simp[ee]) ?_
 by_cases hw:w.length=0
 ·have hwI:¬ (0:Int)<(w.length:Int):=by omega
  by_cases he:e.length=0
  ·have heI:¬ (0:Int)<(e.length:Int):=by omega
   by_cases hf:f.length=0
   ·have hfI:¬ (0:Int)<(f.length:Int):=by omega
    rw[show (if aO true true false false false (.mk k m M s w e f)=true then (3:Int) else 0)=0 by simp[aO,hw,he,hf]]
    simp(maxSteps:=9^7) (disch:=try exact dI) only[ee,WO,lim,push_cast,seval]
   ·have hfI:(0:Int)<(f.length:Int):=by omega
    rw[show (if aO true true false false false (.mk k m M s w e f)=true then (3:Int) else 0)=3 by simp[aO,hw,he,hf]]
    simp(maxSteps:=9^7) (disch:=try exact dI) only[ee,WO,lim,push_cast,seval]
  ·have heI:(0:Int)<(e.length:Int):=by omega
   rw[show (if aO true true false false false (.mk k m M s w e f)=true then (3:Int) else 0)=3 by simp[aO,hw,he]]
   simp(maxSteps:=9^7) (disch:=try exact dI) only[ee,WO,lim,push_cast,seval]
 ·have hwI:(0:Int)<(w.length:Int):=by omega
  rw[show (if aO true true false false false (.mk k m M s w e f)=true then (3:Int) else 0)=3 by simp[aO,hw]]
  simp(maxSteps:=9^7) (disch:=try exact dI) only[ee,WO,lim,push_cast,seval]
theorem D0 (k m M s:Int)(w:List (List UInt8))(e:List Typ)(f:List TFd)(nm:List UInt8)(lo hi:Int):ap Tryz.prog aC 141 [(Typ.mk k m M s w e f).pv,lim nm lo hi true false true false false] (.int .i64 (if aO true false true false false (.mk k m M s w e f)=true then 3 else 0)):=by
 refine ap.intro ee.2 (by simp[ee]) ?_
 by_cases hs:s=0
 ·by_cases he:e.length=0
  ·have heI:¬ (0:Int)<(e.length:Int):=by omega
   by_cases hf:f.length=0
   ·have hfI:¬ (0:Int)<(f.length:Int):=by omega
    rw[show (if aO true false true false false (.mk k m M s w e f)=true then (3:Int) else 0)=0 by simp[aO,hs,he,hf]]
    simp(maxSteps:=9^7) (disch:=try exact dI) only[ee,WO,lim,hs,push_cast,seval]
   ·have hfI:(0:Int)<(f.length:Int):=by omega
    rw[show (if aO true false true false false (.mk k m M s w e f)=true then (3:Int) else 0)=3 by simp[aO,hs,he,hf]]
    simp(maxSteps:=9^7) (disch:=try exact dI) only[ee,WO,lim,hs,push_cast,seval]
  ·have heI:(0:Int)<(e.length:Int):=by omega
   rw[show (if aO true false true false false (.mk k m M s w e f)=true then (3:Int) else 0)=3 by simp[aO,hs,he]]
   simp(maxSteps:=9^7) (disch:=try exact dI) only[ee,WO,lim,hs,push_cast,seval]
 ·rw[show (if aO true false true false false (.mk k m M s w e f)=true then (3:Int) else 0)=3 by simp[aO,hs]]
  simp(maxSteps:=9^7) (disch:=try exact dI) only[ee,WO,lim,hs,push_cast,seval]
theorem D3 (k m M s:Int)(w:List (List UInt8))(e:List Typ)(f:List TFd)(nm:List UInt8)(lo hi:Int):ap Tryz.prog aC 141 [(Typ.mk k m M s w e f).pv,lim nm lo hi true false false true false] (.int .i64 (if aO true false false true false (.mk k m M s w e f)=true then 3 else 0)):=by
 refine ap.intro ee.2 (by simp[ee]) ?_
 by_cases hs:s=0
 ·by_cases hw:w.length=0
  ·have hwI:¬ (0:Int)<(w.length:Int):=by omega
   by_cases hf:f.length=0
   ·have hfI:¬ (0:Int)<(f.length:Int):=by omega
    rw[show (if aO true false false true false (.mk k m M s w e f)=true then (3:Int) else 0)=0 by simp[aO,hs,hw,hf]]
    simp(maxSteps:=9^7) (disch:=try exact dI) only[ee,WO,lim,hs,push_cast,seval]
   ·have hfI:(0:Int)<(f.length:Int):=by omega
    rw[show (if aO true false false true false (.mk k m M s w e f)=true then (3:Int) else 0)=3 by simp[aO,hs,hw,hf]]
    simp(maxSteps:=9^7) (disch:=try exact dI) only[ee,WO,lim,hs,push_cast,seval]
  ·have hwI:(0:Int)<(w.length:Int):=by omega
   rw[show (if aO true false false true false (.mk k m M s w e f)=true then (3:Int) else 0)=3 by simp[aO,hs,hw]]
   simp(maxSteps:=9^7) (disch:=try exact dI) only[ee,WO,lim,hs,push_cast,seval]
 ·rw[show (if aO true false false true false (.mk k m M s w e f)=true then (3:Int) else 0)=3 by simp[aO,hs]]
  simp(maxSteps:=9^7) (disch:=try exact dI) only[ee,WO,lim,hs,push_cast,seval]
theorem D1 (k m M s:Int)(w:List (List UInt8))(e:List Typ)(f:List TFd)(nm:List UInt8)(lo hi:Int):ap Tryz.prog aC 141 [(Typ.mk k m M s w e f).pv,lim nm lo hi false false false false true] (.int .i64 (if aO false false false false true (.mk k m M s w e f)=true then 3 else 0)):=by
 refine ap.intro ee.2 (by simp[ee]) ?_
 by_cases hm:m=0
 ·by_cases hM:M=0
  ·by_cases hs:s=0
   ·by_cases hw:w.length=0
    ·have hwI:¬ (0:Int)<(w.length:Int):=by omega
     by_cases he:e.length=0
     ·have heI:¬ (0:Int)<(e.length:Int):=by omega
      rw[show (if aO false false false false true (.mk k m M s w e f)=true then (3:Int) else 0)=0 by simp[aO,hm,hM,hs,hw,he]]
      simp(maxSteps:=9^7) (disch:=try exact dI) only[ee,WO,lim,hm,hM,hs,push_cast,seval]
     ·have heI:(0:Int)<(e.length:Int):=by omega
      rw[show (if aO false false false false true (.mk k m M s w e f)=true then (3:Int) else 0)=3 by simp[aO,hm,hM,hs,hw,he]]
      simp(maxSteps:=9^7) (disch:=try exact dI) only[ee,WO,lim,hm,hM,hs,push_cast,seval]
    ·have hwI:(0:Int)<(w.length:Int):=by omega
     rw[show (if aO false false false false true (.mk k m M s w e f)=true then (3:Int) else 0)=3 by simp[aO,hm,hM,hs,hw]]
     simp(maxSteps:=9^7) (disch:=try exact dI) only[ee,WO,lim,hm,hM,hs,push_cast,seval]
   ·rw[show (if aO false false false false true (.mk k m M s w e f)=true then (3:Int) else 0)=3 by simp[aO,hm,hM,hs]]
    simp(maxSteps:=9^7) (disch:=try exact dI) only[ee,WO,lim,hm,hM,hs,push_cast,seval]
  ·rw[show (if aO false false false false true (.mk k m M s w e f)=true then (3:Int) else 0)=3 by simp[aO,hm,hM]]
   simp(maxSteps:=9^7) (disch:=try exact dI) only[ee,WO,lim,hm,hM,push_cast,seval]
 ·rw[show (if aO false false false false true (.mk k m M s w e f)=true then (3:Int) else 0)=3 by simp[aO,hm]]
  simp(maxSteps:=9^7) (disch:=try exact dI) only[ee,WO,lim,hm,push_cast,seval]
def gj (w:List UInt8):Val:=.mk 4 0 0 w [] []
def nW (w:List UInt8):Int:=if iC w.length 1024 5=0 then (if Lib.validD w=true then 0 else 16) else iC w.length 1024 5
theorem LI (w:List UInt8):ap Tryz.prog aC 153 [.str w] (gj w).pv:=by
 refine ap.intro Vp.2 (by simp[Vp]) ?_
 simp only[gj,WQ,XT]
 simp(maxSteps:=9^7) (disch:=try exact dI) only[Vp,push_cast,seval]
theorem Cs (w:List UInt8):ff 1 1 (gj w)=[(1,gj w)]:=by
 simp[ff,dj,gj,Val.kind]
theorem JM (w:List UInt8):qJ 0 (ff 1 1 (gj w))=nW w:=by
 rw[Cs,qJ,Bk (by omega) (by simp) (by simp[fS,gj]) (by simp[gj,Val.kind]) (by simp[e7,gj])]
 simp only[qJ]
 have e:ct (gj w)=nW w:=rfl
 rw[e]
 split
 ·rename_i h;exact h.symm
 ·rfl
theorem EJ (w:List UInt8)(hw:w.length<=140737488351232):ap Tryz.prog aC 144 [(gj w).pv] (.int .i64 (nW w)):=by
 have:=vd 1 (gj w) (by simp[lz,dj,gj,Val.kind]) (by simp[gj,WP,I64,hw])
 rw[JM] at this
 exact this
def iN:Option (List UInt8)->List (List UInt8)->Int
 | _,[]=>0
 | p,w::r=>if nW w=0 then (if p=some w then 7 else if (p.any fun q=>cx w q)=true then 24 else iN (some w) r) else nW w
theorem qT {ws:List (List UInt8)}{i:Nat}{w:List UInt8}(h:ws[i]? = some w)(p:Option (List UInt8)):iN p (ws.drop i)=if nW w=0 then (if p=some w then 7 else if (p.any fun q=>cx w q)=true then 24 else iN (some w) (ws.drop (i+1))) else nW w:=by
 have hi:i<ws.length:=(WU.1 h).1
 have he:ws[i]=w:=(WU.1 h).2
 rw[List.drop_eq_getElem_cons hi,he,iN]
def rT (ws:List (List UInt8))(i:Nat):Option (List UInt8):=if i=0 then none else ws[i - 1]?
def eS (m M:Int)(ws:List (List UInt8)):Int:=if ¬ (m=0/\M=0) then 3 else if 64<ws.length then 9 else iN none ws
theorem Gd (k m M s:Int)(ws:List (List UInt8))(e:List Typ)(f:List TFd)(hw:∀ w∈ws,w.length<=140737488351232):ap Tryz.prog aC 142 [(Typ.mk k m M s ws e f).pv] (.int .i64 (eS m M ws)):=by
 refine ap.intro PL.2 (by simp[PL]) ?_
 by_cases hm:m=0
 ·by_cases hM:M=0
  ·by_cases h64:64<ws.length
   ·rw[show eS m M ws=9 by simp[eS,hm,hM,h64]]
    simp(maxSteps:=9^7) (disch:=try exact dI) only[PL,WO,hm,hM,push_cast,seval]
   ·rw[show eS m M ws=iN none ws by simp[eS,hm,hM,h64]]
    obtain⟨R,hR⟩:∃ R,R=iN none ws:=⟨_,rfl⟩
    rw[<- hR]
    simp(maxSteps:=9^7) (disch:=try exact dI) only[PL,WO,hm,hM,push_cast,seval]
    refine au ([]) (fun i:Nat=>[(23,.pv (.int .i64 (i:Int)))]) (fun _=>[]) (fun i=>i<=ws.length/\R=iN (rT ws i) (ws.drop i)) (fun i=>ws.length - i) (0) ?_;intro e0 σ0 n0 h0;simp(maxSteps:=9^7) (disch:=try exact dI) only[push_cast,seval] at h0;obtain⟨rfl,rfl,rfl⟩:=h0;refine⟨?_,?_,?_⟩
    ·simp(maxSteps:=9^7) (disch:=try exact dI) only[push_cast,seval]
    ·exact⟨by omega,by simpa[rT] using hR⟩
    rintro i ⟨hi,hr⟩
    by_cases hlt:i<ws.length
    ·have hltI:(i:Int)<(ws.length:Int):=by omega
     obtain⟨w,hwi⟩:∃ w,ws[i]? = some w:=⟨_,WT hlt⟩
     have hcp:(ws.map PV.str)[i]? = some (.str w):=by simp[hwi]
     have ht:=LI w
     have hc:=EJ w (hw w (List.mem_of_getElem? hwi))
     simp only[gj,WQ,XT] at ht hc
     rw[qT hwi] at hr
     have hnext:rT ws (i+1)=some w:=by simp[rT,hwi]
     generalize nW w=z at hc hr
     by_cases hz:z=0
     ·subst hz
      rw[if_pos rfl] at hr
      by_cases hi0:i=0
      ·have hiI:¬ (0:Int)<(i:Int):=by omega
       have hpn:rT ws i=none:=if_pos hi0
       rw[hpn,if_neg (by simp),if_neg (by simp),<- hnext] at hr
       simp(maxSteps:=9^7) (disch:=try exact dI) only[hcp,push_cast,seval]
       refine ab.pure ht rfl ?_
       simp(maxSteps:=9^7) (disch:=try exact dI) only[push_cast,seval]
       refine ab.pure hc rfl ?_
       simp(maxSteps:=9^7) (disch:=try exact dI) only[push_cast,seval]
       exact⟨i+1,aJ qsZ,⟨by omega,hr⟩,by omega⟩
      ·obtain⟨j,rfl⟩:∃ j,i=j+1:=⟨i - 1,by omega⟩
       obtain⟨q,hq'⟩:∃ q,ws[j]? = some q:=⟨_,WT (by omega)⟩
       have hpn:rT ws (j+1)=some q:=by simp[rT,hq']
       have hcq:(ws.map PV.str)[j]? = some (.str q):=by simp[hq']
       rw[hpn] at hr
       by_cases hq:w=q
       ·subst hq
        rw[if_pos rfl] at hr
        subst hr
        simp(maxSteps:=9^7) (disch:=try exact dI) only[hcp,XG,push_cast,seval]
        refine ab.pure ht rfl ?_
        simp(maxSteps:=9^7) (disch:=try exact dI) only[push_cast,seval]
        refine ab.pure hc rfl ?_
        simp(maxSteps:=9^7) (disch:=try exact dI) only[hcq,XG,push_cast,seval]
       ·rw[if_neg (by simpa using fun e=>hq e.symm)] at hr
        cases hlt2:cx w q with
        | true=>
          rw[if_pos (by simpa using hlt2)] at hr
          subst hr
          simp(maxSteps:=9^7) (disch:=try exact dI) only[hcp,XG,push_cast,seval]
          refine ab.pure ht rfl ?_
          simp(maxSteps:=9^7) (disch:=try exact dI) only[push_cast,seval]
          refine ab.pure hc rfl ?_
          simp(maxSteps:=9^7) (disch:=try exact dI) only[hcq,XG,hq,hlt2,push_cast,seval]
        | false=>
          rw[if_neg (by simp[hlt2]),<- hnext] at hr
          simp(maxSteps:=9^7) (disch:=try exact dI) only[hcp,XG,push_cast,seval]
          refine ab.pure ht rfl ?_
          simp(maxSteps:=9^7) (disch:=try exact dI) only[push_cast,seval]
          refine ab.pure hc rfl ?_
          simp(maxSteps:=9^7) (disch:=try exact dI) only[hcq,XG,hq,hlt2,push_cast,seval]
          exact⟨j+1+1,aJ qsZ,⟨by omega,hr⟩,by omega⟩
     ·rw[if_neg hz] at hr
      subst hr
      simp(maxSteps:=9^7) (disch:=try exact dI) only[hcp,push_cast,seval]
      refine ab.pure ht rfl ?_
      simp(maxSteps:=9^7) (disch:=try exact dI) only[push_cast,seval]
      refine ab.pure hc rfl ?_
      simp(maxSteps:=9^7) (disch:=try exact dI) only[push_cast,seval]
    ·have hie:i=ws.length:=by omega
     subst hie
     rw[List.drop_length] at hr
     rw[show R=0 from hr]
     simp(maxSteps:=9^7) (disch:=try exact dI) only[push_cast,seval]
  ·rw[show eS m M ws=3 by simp[eS,hM]]
   simp(maxSteps:=9^7) (disch:=try exact dI) only[PL,WO,hm,hM,push_cast,seval]
 ·rw[show eS m M ws=3 by simp[eS,hm]]
  simp(maxSteps:=9^7) (disch:=try exact dI) only[PL,WO,hm,push_cast,seval]
def uN (n:Int)(nm:List UInt8)(g:TFd):Bool:=decide (g.name=nm)||decide (g.number=n)
def e5 (n:Int)(nm:List UInt8)(nd k m M s:Int)(w:List (List UInt8))(e:List Typ)(fs:List TFd)(d:List Val):List AV:=
 [.pv (.int .i64 n),.pv (.str nm),.pv (.int .i64 nd),.pv (.int .i64 k),.pv (.int .i64 m),.pv (.int .i64 M),.pv (.int .i64 s),.pv (.list (w.map PV.str)),.pv (.list (e.map Typ.pv)),.pv (.list (fs.map TFd.pv)),.pv (.list (d.map Val.pv))]
section
variable (n:Int)(nm:List UInt8)(nd k m M s:Int)(w:List (List UInt8))(e:List Typ)(fs:List TFd)(d:List Val)
theorem RB (g:TFd):bz Tryz.prog aC 1 155 [.pv g.pv,.ptr 0 0] [.cells 105 true (e5 n nm nd k m M s w e fs d)] (.pv (.bool (uN n nm g))) [.cells 105 true (e5 n nm nd k m M s w e fs d)]:=by
 obtain⟨n',nm',nd',⟨k',m',M',s',w',e',fs'⟩,d'⟩:=g
 by_cases h1:nm'=nm
 ·rw[show uN n nm (TFd.mk n' nm' nd' (Typ.mk k' m' M' s' w' e' fs') d')=true by simp[uN,TFd.name,h1]]
  refine bz.intro Kh.2 (by simp[Kh]) ?_
  simp(maxSteps:=9^7) (disch:=try exact dI) only[Kh,WJ,WO,h1,e5,push_cast,seval]
  exact aH [] qsZ
 ·by_cases h2:n'=n
  ·rw[show uN n nm (TFd.mk n' nm' nd' (Typ.mk k' m' M' s' w' e' fs') d')=true by simp[uN,TFd.number,h2]]
   refine bz.intro Kh.2 (by simp[Kh]) ?_
   simp(maxSteps:=9^7) (disch:=try exact dI) only[Kh,WJ,WO,h1,h2,e5,push_cast,seval]
   exact aH [] qsZ
  ·rw[show uN n nm (TFd.mk n' nm' nd' (Typ.mk k' m' M' s' w' e' fs') d')=false by simp[uN,TFd.name,TFd.number,h1,h2]]
   refine bz.intro Kh.2 (by simp[Kh]) ?_
   simp(maxSteps:=9^7) (disch:=try exact dI) only[Kh,WJ,WO,h1,h2,e5,push_cast,seval]
   exact aH [] qsZ
end
section
variable (n:Int)(nm:List UInt8)(nd k m M s:Int)(w:List (List UInt8))(e:List Typ)(fs:List TFd)(d:List Val)
theorem DF (l:List TFd)(hl:l.length<=9000000000000) :
  bz Tryz.prog aC 1 171 [.pv (.list (l.map TFd.pv)),.clo 155 [] [.ptr 0 0]] [.cells 105 true (e5 n nm nd k m M s w e fs d)] (.pv (.int .i64 (iH (uN n nm) l 0))) [.cells 105 true (e5 n nm nd k m M s w e fs d)]:=by
 have hq:=fun x=>RB n nm nd k m M s w e fs d x
 generalize uN n nm=q at *
 simp only[e5] at hq ⊢
 refine bz.intro PK.2 (by simp[PK]) ?_
 simp(maxSteps:=9^7) (disch:=try exact dI) only[PK,push_cast,seval]
 refine au ([]) (fun m:Nat=>[(8,.pv (.int .i64 (m:Int)))]) (fun m=>[]) (fun m=>m<=l.length/\iH q l 0=iH q (l.drop m) m) (fun m=>l.length - m) (0) ?_;intro e0 σ0 n0 h0;simp(maxSteps:=9^7) (disch:=try exact dI) only[push_cast,seval] at h0;obtain⟨rfl,rfl,rfl⟩:=h0;refine⟨?_,?_,?_⟩
 ·simp(maxSteps:=9^7) (disch:=try exact dI) only[push_cast,seval]
 ·exact⟨by omega,by simp⟩
 ·rintro m ⟨hm,he⟩
  by_cases hlt:m<l.length
  ·have hltI:(m:Int)<l.length:=by omega
   obtain⟨x,hx⟩:∃ x,l[m]? = some x:=⟨_,WT hlt⟩
   have hcall:=hq x
   simp(maxSteps:=9^7) (disch:=try exact dI) only[hx,TFd.cells_len,TFd.isAgg,push_cast,seval]
   refine ab.lentK hcall [0] rfl qsZ qsZ ?_
   cases hqx:q x with
   | true=>
     rw[he,kr hx hqx]
     simp(maxSteps:=9^7) (disch:=try exact dI) only[push_cast,seval]
     exact aH [] qsZ
   | false=>
     rw[gU hx hqx] at he
     simp(maxSteps:=9^7) (disch:=try exact dI) only[push_cast,seval]
     exact⟨m+1,aJ qsZ,⟨by omega,he⟩,by omega⟩
  ·have hltI:¬ (m:Int)<l.length:=by omega
   rw[he,ku hlt]
   simp(maxSteps:=9^7) (disch:=try exact dI) only[push_cast,seval]
   exact aH [] qsZ
theorem ti (l:List TFd)(hl:l.length<=9000000000000) :
  bz Tryz.prog aC 1 154 [.pv (.list (l.map TFd.pv)),.clo 155 [] [.ptr 0 0]] [.cells 105 true (e5 n nm nd k m M s w e fs d)] (.pv (.bool (l.any (uN n nm)))) [.cells 105 true (e5 n nm nd k m M s w e fs d)]:=by
 have h94:=DF n nm nd k m M s w e fs d l hl
 have hfa:=jB (p:=uN n nm) l
 simp only[e5] at h94 ⊢
 refine bz.intro Lb.2 (by simp[Lb]) ?_
 rcases eM (p:=uN n nm) l 0 with ⟨h1,h2⟩ | ⟨k,x,h1,h2,h3⟩
 ·rw[h2] at h94
  rw[h1] at hfa
  rw[<- hfa]
  simp(maxSteps:=9^7) (disch:=try exact dI) only[Lb,push_cast,seval]
  refine ab.lentK h94 [0] rfl qsZ qsZ ?_
  simp(maxSteps:=9^7) (disch:=try exact dI) only[push_cast,seval]
  exact aH [] (by simp(maxSteps:=9^7) (disch:=try exact dI) only[Option.isSome_none,push_cast,seval])
 ·rw[h3] at h94
  rw[h2] at hfa
  rw[<- hfa]
  have hk:(0:Int)<=((0+k:Nat):Int):=by omega
  generalize ((0+k:Nat):Int)=z at *
  simp(maxSteps:=9^7) (disch:=try exact dI) only[Lb,push_cast,seval]
  refine ab.lentK h94 [0] rfl qsZ qsZ ?_
  simp(maxSteps:=9^7) (disch:=try exact dI) only[push_cast,seval]
  exact aH [] (by simp(maxSteps:=9^7) (disch:=try exact dI) only[Option.isSome_some,push_cast,seval])
end
