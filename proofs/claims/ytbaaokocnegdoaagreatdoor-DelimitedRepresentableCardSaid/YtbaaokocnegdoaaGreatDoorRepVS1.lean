/- A part of the proof for DelimitedRepresentableCardSaid. -/
import Derived.Test.YtbaaokocnegdoaaGreatDoorRepVR6
set_option maxRecDepth 100000
set_option linter.unusedVariables false
set_option linter.unusedSimpArgs false
-- many steps
namespace Go.Proofs.YtbaaokocnegdoaaGreatDoor
open Go Go.Ab
attribute [local irreducible] vc
def inB (n a b:Int):Bool:=decide (a≤n)&&decide (n≤b)
theorem ew (n a b:Int):am Tryz.prog aE 187 [.int .i64 n,.int .i64 a,.int .i64 b] (.bool (inB n a b)):=by
 refine am.intro Bz (by simp[K0]) ?_
 by_cases h1:a≤n
 ·by_cases h2:n≤b
  ·rw[show inB n a b=true by simp[inB,h1,h2]]
   simp(maxSteps:=9^7) (disch:=first|exact dI|fail) only[K0,push_cast,seval]
  ·rw[show inB n a b=false by simp[inB,h2]]
   simp(maxSteps:=9^7) (disch:=first|exact dI|fail) only[K0,push_cast,seval]
 ·rw[show inB n a b=false by simp[inB,h1]]
  simp(maxSteps:=9^7) (disch:=first|exact dI|fail) only[K0,push_cast,seval]
theorem a8 (n a b:Int):am Tryz.prog aE 195 [.int .i64 n,.int .i64 a,.int .i64 b] (.bool (inB n a b)):=by
 refine am.intro Ku (by simp[NO]) ?_
 by_cases h1:a≤n
 ·by_cases h2:n≤b
  ·rw[show inB n a b=true by simp[inB,h1,h2]]
   simp(maxSteps:=9^7) (disch:=first|exact dI|fail) only[NO,push_cast,seval]
  ·rw[show inB n a b=false by simp[inB,h2]]
   simp(maxSteps:=9^7) (disch:=first|exact dI|fail) only[NO,push_cast,seval]
 ·rw[show inB n a b=false by simp[inB,h1]]
  simp(maxSteps:=9^7) (disch:=first|exact dI|fail) only[NO,push_cast,seval]
def lim (nm:List UInt8)(lo hi:Int)(b1 b2 b3 b4 b5:Bool):PV:=.agg [.str nm,.int .i64 lo,.int .i64 hi,.bool b1,.bool b2,.bool b3,.bool b4,.bool b5]
def ap (b1 b2 b3 b4 b5:Bool):Typ→Bool
 | .mk k m M s w e f=>(!b1&&!(decide (m=0)&&decide (M=0)))||((!b2&&!decide (s=0))||((!b3&&!decide (w.length=0))||((!b4&&!decide (e.length=0))||(!b5&&!decide (f.length=0)))))
theorem z1 (k m M s:Int)(w:List (List UInt8))(e:List Typ)(f:List TFd)(nm:List UInt8)(lo hi:Int):am Tryz.prog aE 189 [(Typ.mk k m M s w e f).pv,lim nm lo hi false false false false false] (.int .i64 (if ap false false false false false (.mk k m M s w e f)=true then 3 else 0)):=by
 refine am.intro fD (by simp[et]) ?_
 by_cases hm:m=0
 ·by_cases hM:M=0
  ·by_cases hs:s=0
   ·by_cases hw:w.length=0
    ·have hwI:¬ (0:Int)<(w.length:Int):=by omega
     by_cases he:e.length=0
     ·have heI:¬ (0:Int)<(e.length:Int):=by omega
      by_cases hf:f.length=0
      ·have hfI:¬ (0:Int)<(f.length:Int):=by omega
       rw[show (if ap false false false false false (.mk k m M s w e f)=true then (3:Int) else 0)=0 by simp[ap,hm,hM,hs,hw,he,hf]]
       simp(maxSteps:=9^7) (disch:=first|exact dI|fail) only[et,Typ.pv_mk,lim,hm,hM,hs,push_cast,seval]
      ·have hfI:(0:Int)<(f.length:Int):=by omega
       rw[show (if ap false false false false false (.mk k m M s w e f)=true then (3:Int) else 0)=3 by simp[ap,hm,hM,hs,hw,he,hf]]
       simp(maxSteps:=9^7) (disch:=first|exact dI|fail) only[et,Typ.pv_mk,lim,hm,hM,hs,push_cast,seval]
     ·have heI:(0:Int)<(e.length:Int):=by omega
      rw[show (if ap false false false false false (.mk k m M s w e f)=true then (3:Int) else 0)=3 by simp[ap,hm,hM,hs,hw,he]]
      simp(maxSteps:=9^7) (disch:=first|exact dI|fail) only[et,Typ.pv_mk,lim,hm,hM,hs,push_cast,seval]
    ·have hwI:(0:Int)<(w.length:Int):=by omega
     rw[show (if ap false false false false false (.mk k m M s w e f)=true then (3:Int) else 0)=3 by simp[ap,hm,hM,hs,hw]]
     simp(maxSteps:=9^7) (disch:=first|exact dI|fail) only[et,Typ.pv_mk,lim,hm,hM,hs,push_cast,seval]
   ·rw[show (if ap false false false false false (.mk k m M s w e f)=true then (3:Int) else 0)=3 by simp[ap,hm,hM,hs]]
    simp(maxSteps:=9^7) (disch:=first|exact dI|fail) only[et,Typ.pv_mk,lim,hm,hM,hs,push_cast,seval]
  ·rw[show (if ap false false false false false (.mk k m M s w e f)=true then (3:Int) else 0)=3 by simp[ap,hm,hM]]
   simp(maxSteps:=9^7) (disch:=first|exact dI|fail) only[et,Typ.pv_mk,lim,hm,hM,push_cast,seval]
 ·rw[show (if ap false false false false false (.mk k m M s w e f)=true then (3:Int) else 0)=3 by simp[ap,hm]]
  simp(maxSteps:=9^7) (disch:=first|exact dI|fail) only[et,Typ.pv_mk,lim,hm,push_cast,seval]
theorem f0 (k m M s:Int)(w:List (List UInt8))(e:List Typ)(f:List TFd)(nm:List UInt8)(lo hi:Int):am Tryz.prog aE 189 [(Typ.mk k m M s w e f).pv,lim nm lo hi true false false false false] (.int .i64 (if ap true false false false false (.mk k m M s w e f)=true then 3 else 0)):=by
 refine am.intro fD (by simp[et]) ?_
 by_cases hs:s=0
 ·by_cases hw:w.length=0
  ·have hwI:¬ (0:Int)<(w.length:Int):=by omega
   by_cases he:e.length=0
   ·have heI:¬ (0:Int)<(e.length:Int):=by omega
    by_cases hf:f.length=0
    ·have hfI:¬ (0:Int)<(f.length:Int):=by omega
     rw[show (if ap true false false false false (.mk k m M s w e f)=true then (3:Int) else 0)=0 by simp[ap,hs,hw,he,hf]]
     simp(maxSteps:=9^7) (disch:=first|exact dI|fail) only[et,Typ.pv_mk,lim,hs,push_cast,seval]
    ·have hfI:(0:Int)<(f.length:Int):=by omega
     rw[show (if ap true false false false false (.mk k m M s w e f)=true then (3:Int) else 0)=3 by simp[ap,hs,hw,he,hf]]
     simp(maxSteps:=9^7) (disch:=first|exact dI|fail) only[et,Typ.pv_mk,lim,hs,push_cast,seval]
   ·have heI:(0:Int)<(e.length:Int):=by omega
    rw[show (if ap true false false false false (.mk k m M s w e f)=true then (3:Int) else 0)=3 by simp[ap,hs,hw,he]]
    simp(maxSteps:=9^7) (disch:=first|exact dI|fail) only[et,Typ.pv_mk,lim,hs,push_cast,seval]
  ·have hwI:(0:Int)<(w.length:Int):=by omega
   rw[show (if ap true false false false false (.mk k m M s w e f)=true then (3:Int) else 0)=3 by simp[ap,hs,hw]]
   simp(maxSteps:=9^7) (disch:=first|exact dI|fail) only[et,Typ.pv_mk,lim,hs,push_cast,seval]
 ·rw[show (if ap true false false false false (.mk k m M s w e f)=true then (3:Int) else 0)=3 by simp[ap,hs]]
  simp(maxSteps:=9^7) (disch:=first|exact dI|fail) only[et,Typ.pv_mk,lim,hs,push_cast,seval]
theorem z7 (k m M s:Int)(w:List (List UInt8))(e:List Typ)(f:List TFd)(nm:List UInt8)(lo hi:Int):am Tryz.prog aE 189 [(Typ.mk k m M s w e f).pv,lim nm lo hi true true false false false] (.int .i64 (if ap true true false false false (.mk k m M s w e f)=true then 3 else 0)):=by
 refine am.intro fD (by simp[et]) ?_
 by_cases hw:w.length=0
 ·have hwI:¬ (0:Int)<(w.length:Int):=by omega
  by_cases he:e.length=0
  ·have heI:¬ (0:Int)<(e.length:Int):=by omega
   by_cases hf:f.length=0
   ·have hfI:¬ (0:Int)<(f.length:Int):=by omega
    rw[show (if ap true true false false false (.mk k m M s w e f)=true then (3:Int) else 0)=0 by simp[ap,hw,he,hf]]
    simp(maxSteps:=9^7) (disch:=first|exact dI|fail) only[et,Typ.pv_mk,lim,push_cast,seval]
   ·have hfI:(0:Int)<(f.length:Int):=by omega
    rw[show (if ap true true false false false (.mk k m M s w e f)=true then (3:Int) else 0)=3 by simp[ap,hw,he,hf]]
    simp(maxSteps:=9^7) (disch:=first|exact dI|fail) only[et,Typ.pv_mk,lim,push_cast,seval]
  ·have heI:(0:Int)<(e.length:Int):=by omega
   rw[show (if ap true true false false false (.mk k m M s w e f)=true then (3:Int) else 0)=3 by simp[ap,hw,he]]
   simp(maxSteps:=9^7) (disch:=first|exact dI|fail) only[et,Typ.pv_mk,lim,push_cast,seval]
 ·have hwI:(0:Int)<(w.length:Int):=by omega
  rw[show (if ap true true false false false (.mk k m M s w e f)=true then (3:Int) else 0)=3 by simp[ap,hw]]
  simp(maxSteps:=9^7) (disch:=first|exact dI|fail) only[et,Typ.pv_mk,lim,push_cast,seval]
theorem zZ (k m M s:Int)(w:List (List UInt8))(e:List Typ)(f:List TFd)(nm:List UInt8)(lo hi:Int):am Tryz.prog aE 189 [(Typ.mk k m M s w e f).pv,lim nm lo hi true false true false false] (.int .i64 (if ap true false true false false (.mk k m M s w e f)=true then 3 else 0)):=by
 refine am.intro fD (by simp[et]) ?_
 by_cases hs:s=0
 ·by_cases he:e.length=0
  ·have heI:¬ (0:Int)<(e.length:Int):=by omega
   by_cases hf:f.length=0
   ·have hfI:¬ (0:Int)<(f.length:Int):=by omega
    rw[show (if ap true false true false false (.mk k m M s w e f)=true then (3:Int) else 0)=0 by simp[ap,hs,he,hf]]
    simp(maxSteps:=9^7) (disch:=first|exact dI|fail) only[et,Typ.pv_mk,lim,hs,push_cast,seval]
   ·have hfI:(0:Int)<(f.length:Int):=by omega
    rw[show (if ap true false true false false (.mk k m M s w e f)=true then (3:Int) else 0)=3 by simp[ap,hs,he,hf]]
    simp(maxSteps:=9^7) (disch:=first|exact dI|fail) only[et,Typ.pv_mk,lim,hs,push_cast,seval]
  ·have heI:(0:Int)<(e.length:Int):=by omega
   rw[show (if ap true false true false false (.mk k m M s w e f)=true then (3:Int) else 0)=3 by simp[ap,hs,he]]
   simp(maxSteps:=9^7) (disch:=first|exact dI|fail) only[et,Typ.pv_mk,lim,hs,push_cast,seval]
 ·rw[show (if ap true false true false false (.mk k m M s w e f)=true then (3:Int) else 0)=3 by simp[ap,hs]]
  simp(maxSteps:=9^7) (disch:=first|exact dI|fail) only[et,Typ.pv_mk,lim,hs,push_cast,seval]
theorem z6 (k m M s:Int)(w:List (List UInt8))(e:List Typ)(f:List TFd)(nm:List UInt8)(lo hi:Int):am Tryz.prog aE 189 [(Typ.mk k m M s w e f).pv,lim nm lo hi true false false true false] (.int .i64 (if ap true false false true false (.mk k m M s w e f)=true then 3 else 0)):=by
 refine am.intro fD (by simp[et]) ?_
 by_cases hs:s=0
 ·by_cases hw:w.length=0
  ·have hwI:¬ (0:Int)<(w.length:Int):=by omega
   by_cases hf:f.length=0
   ·have hfI:¬ (0:Int)<(f.length:Int):=by omega
    rw[show (if ap true false false true false (.mk k m M s w e f)=true then (3:Int) else 0)=0 by simp[ap,hs,hw,hf]]
    simp(maxSteps:=9^7) (disch:=first|exact dI|fail) only[et,Typ.pv_mk,lim,hs,push_cast,seval]
   ·have hfI:(0:Int)<(f.length:Int):=by omega
    rw[show (if ap true false false true false (.mk k m M s w e f)=true then (3:Int) else 0)=3 by simp[ap,hs,hw,hf]]
    simp(maxSteps:=9^7) (disch:=first|exact dI|fail) only[et,Typ.pv_mk,lim,hs,push_cast,seval]
  ·have hwI:(0:Int)<(w.length:Int):=by omega
   rw[show (if ap true false false true false (.mk k m M s w e f)=true then (3:Int) else 0)=3 by simp[ap,hs,hw]]
   simp(maxSteps:=9^7) (disch:=first|exact dI|fail) only[et,Typ.pv_mk,lim,hs,push_cast,seval]
 ·rw[show (if ap true false false true false (.mk k m M s w e f)=true then (3:Int) else 0)=3 by simp[ap,hs]]
  simp(maxSteps:=9^7) (disch:=first|exact dI|fail) only[et,Typ.pv_mk,lim,hs,push_cast,seval]
theorem nh (k m M s:Int)(w:List (List UInt8))(e:List Typ)(f:List TFd)(nm:List UInt8)(lo hi:Int):am Tryz.prog aE 189 [(Typ.mk k m M s w e f).pv,lim nm lo hi false false false false true] (.int .i64 (if ap false false false false true (.mk k m M s w e f)=true then 3 else 0)):=by
 refine am.intro fD (by simp[et]) ?_
 by_cases hm:m=0
 ·by_cases hM:M=0
  ·by_cases hs:s=0
   ·by_cases hw:w.length=0
    ·have hwI:¬ (0:Int)<(w.length:Int):=by omega
     by_cases he:e.length=0
     ·have heI:¬ (0:Int)<(e.length:Int):=by omega
      rw[show (if ap false false false false true (.mk k m M s w e f)=true then (3:Int) else 0)=0 by simp[ap,hm,hM,hs,hw,he]]
      simp(maxSteps:=9^7) (disch:=first|exact dI|fail) only[et,Typ.pv_mk,lim,hm,hM,hs,push_cast,seval]
     ·have heI:(0:Int)<(e.length:Int):=by omega
      rw[show (if ap false false false false true (.mk k m M s w e f)=true then (3:Int) else 0)=3 by simp[ap,hm,hM,hs,hw,he]]
      simp(maxSteps:=9^7) (disch:=first|exact dI|fail) only[et,Typ.pv_mk,lim,hm,hM,hs,push_cast,seval]
    ·have hwI:(0:Int)<(w.length:Int):=by omega
     rw[show (if ap false false false false true (.mk k m M s w e f)=true then (3:Int) else 0)=3 by simp[ap,hm,hM,hs,hw]]
     simp(maxSteps:=9^7) (disch:=first|exact dI|fail) only[et,Typ.pv_mk,lim,hm,hM,hs,push_cast,seval]
   ·rw[show (if ap false false false false true (.mk k m M s w e f)=true then (3:Int) else 0)=3 by simp[ap,hm,hM,hs]]
    simp(maxSteps:=9^7) (disch:=first|exact dI|fail) only[et,Typ.pv_mk,lim,hm,hM,hs,push_cast,seval]
  ·rw[show (if ap false false false false true (.mk k m M s w e f)=true then (3:Int) else 0)=3 by simp[ap,hm,hM]]
   simp(maxSteps:=9^7) (disch:=first|exact dI|fail) only[et,Typ.pv_mk,lim,hm,hM,push_cast,seval]
 ·rw[show (if ap false false false false true (.mk k m M s w e f)=true then (3:Int) else 0)=3 by simp[ap,hm]]
  simp(maxSteps:=9^7) (disch:=first|exact dI|fail) only[et,Typ.pv_mk,lim,hm,push_cast,seval]
end Go.Proofs.YtbaaokocnegdoaaGreatDoor
set_option maxRecDepth 100000
set_option linter.unusedVariables false
set_option linter.unusedSimpArgs false
-- many steps
namespace Go.Proofs.YtbaaokocnegdoaaGreatDoor
open Go Go.Ab
attribute [local irreducible] vc
def dm (w:List UInt8):Val:=.mk 4 0 0 w [] []
def jW (w:List UInt8):Int:=if cy w.length 1024 5=0 then (if Lib.validD w=true then 0 else 16) else cy w.length 1024 5
theorem Hh (w:List UInt8):am Tryz.prog aE 239 [.str w] (dm w).pv:=by
 refine am.intro Kk (by simp[PB]) ?_
 simp only[dm,Val.pv_mk,List.map_nil]
 simp(maxSteps:=9^7) (disch:=first|exact dI|fail) only[PB,push_cast,seval]
theorem x9 (w:List UInt8):cf 1 1 (dm w)=[(1,dm w)]:=by
 simp[cf,aX,dm,Val.kind]
theorem rx (w:List UInt8):ii 0 (cf 1 1 (dm w))=jW w:=by
 rw[x9,ii,wI (by omega) (by simp) (by simp[aN,dm]) (by simp[dm,Val.kind]) (by simp[ak,dm])]
 simp only[ii]
 have e:bz (dm w)=jW w:=rfl
 rw[e]
 split
 ·rename_i h;exact h.symm
 ·rfl
theorem AJ (w:List UInt8)(hw:w.length≤140737488351232):am Tryz.prog aE 192 [(dm w).pv] (.int .i64 (jW w)):=by
 have:=rA 1 (dm w) (by simp[cm,aX,dm,Val.kind]) (by simp[dm,Val.ok_mk,I64,hw]) (by omega)
 rw[rx] at this
 exact this
def ez:Option (List UInt8)→List (List UInt8)→Int
 | _,[]=>0
 | p,w::r=>if jW w=0 then (if p=some w then 7 else if (p.any fun q=>aM w q)=true then 24 else ez (some w) r) else jW w
theorem iK {ws:List (List UInt8)}{i:Nat}{w:List UInt8}(h:ws[i]? = some w)(p:Option (List UInt8)):ez p (ws.drop i)=if jW w=0 then (if p=some w then 7 else if (p.any fun q=>aM w q)=true then 24 else ez (some w) (ws.drop (i+1))) else jW w:=by
 have hi:i<ws.length:=(List.getElem?_eq_some_iff.1 h).1
 have he:ws[i]=w:=(List.getElem?_eq_some_iff.1 h).2
 rw[List.drop_eq_getElem_cons hi,he,ez]
def fS (ws:List (List UInt8))(i:Nat):Option (List UInt8):=if i=0 then none else ws[i - 1]?
def bw (m M:Int)(ws:List (List UInt8)):Int:=if ¬ (m=0∧M=0) then 3 else if 64<ws.length then 9 else ez none ws
set_option maxHeartbeats 2000000 in
theorem B4 (k m M s:Int)(ws:List (List UInt8))(e:List Typ)(f:List TFd)(hw:∀ w∈ws,w.length≤140737488351232):am Tryz.prog aE 190 [(Typ.mk k m M s ws e f).pv] (.int .i64 (bw m M ws)):=by
 refine am.intro Kz (by simp[KZ]) ?_
 by_cases hm:m=0
 ·by_cases hM:M=0
  ·by_cases h64:64<ws.length
   ·rw[show bw m M ws=9 by simp[bw,hm,hM,h64]]
    simp(maxSteps:=9^7) (disch:=first|exact dI|fail) only[KZ,Typ.pv_mk,hm,hM,push_cast,seval]
   ·rw[show bw m M ws=ez none ws by simp[bw,hm,hM,h64]]
    obtain⟨R,hR⟩:∃ R,R=ez none ws:=⟨_,rfl⟩
    rw[← hR]
    simp(maxSteps:=9^7) (disch:=first|exact dI|fail) only[KZ,Typ.pv_mk,hm,hM,push_cast,seval]
    refine aD ([]) (fun i:Nat=>[(23,.pv (.int .i64 (i:Int)))]) (fun _=>[]) (fun i=>i≤ws.length∧R=ez (fS ws i) (ws.drop i)) (fun i=>ws.length - i) (0) ?_;intro e0 σ0 n0 h0;simp(maxSteps:=9^7) (disch:=first|exact dI|fail) only[push_cast,seval] at h0;obtain⟨rfl,rfl,rfl⟩:=h0;refine⟨?_,?_,?_⟩
    ·simp(maxSteps:=9^7) (disch:=first|exact dI|fail) only[push_cast,seval]
    ·exact⟨by omega,by simpa[fS] using hR⟩
    rintro i ⟨hi,hr⟩
    by_cases hlt:i<ws.length
    ·have hltI:(i:Int)<(ws.length:Int):=by omega
     obtain⟨w,hwi⟩:∃ w,ws[i]? = some w:=⟨_,List.getElem?_eq_getElem hlt⟩
     have hcp:(ws.map PV.str)[i]? = some (.str w):=by simp[hwi]
     have ht:=Hh w
     have hc:=AJ w (hw w (List.mem_of_getElem? hwi))
     simp only[dm,Val.pv_mk,List.map_nil] at ht hc
     rw[iK hwi] at hr
     have hnext:fS ws (i+1)=some w:=by simp[fS,hwi]
     generalize jW w=z at hc hr
     by_cases hz:z=0
     ·subst hz
      rw[if_pos rfl] at hr
      by_cases hi0:i=0
      ·have hiI:¬ (0:Int)<(i:Int):=by omega
       have hpn:fS ws i=none:=if_pos hi0
       rw[hpn,if_neg (by simp),if_neg (by simp),← hnext] at hr
       simp(maxSteps:=9^7) (disch:=first|exact dI|fail) only[hcp,push_cast,seval]
       refine ab.pure ht rfl ?_
       simp(maxSteps:=9^7) (disch:=first|exact dI|fail) only[push_cast,seval]
       refine ab.pure hc rfl ?_
       simp(maxSteps:=9^7) (disch:=first|exact dI|fail) only[push_cast,seval]
       exact⟨i+1,bf (by simp(maxSteps:=9^7) (disch:=first|exact dI|fail) only[push_cast,seval]),⟨by omega,hr⟩,by omega⟩
      ·obtain⟨j,rfl⟩:∃ j,i=j+1:=⟨i - 1,by omega⟩
       obtain⟨q,hq'⟩:∃ q,ws[j]? = some q:=⟨_,List.getElem?_eq_getElem (by omega)⟩
       have hpn:fS ws (j+1)=some q:=by simp[fS,hq']
       have hcq:(ws.map PV.str)[j]? = some (.str q):=by simp[hq']
       rw[hpn] at hr
       by_cases hq:w=q
       ·subst hq
        rw[if_pos rfl] at hr
        subst hr
        simp(maxSteps:=9^7) (disch:=first|exact dI|fail) only[hcp,Int.add_sub_cancel,push_cast,seval]
        refine ab.pure ht rfl ?_
        simp(maxSteps:=9^7) (disch:=first|exact dI|fail) only[push_cast,seval]
        refine ab.pure hc rfl ?_
        simp(maxSteps:=9^7) (disch:=first|exact dI|fail) only[hcq,Int.add_sub_cancel,push_cast,seval]
       ·rw[if_neg (by simpa using fun e=>hq e.symm)] at hr
        cases hlt2:aM w q with
        | true=>
          rw[if_pos (by simpa using hlt2)] at hr
          subst hr
          simp(maxSteps:=9^7) (disch:=first|exact dI|fail) only[hcp,Int.add_sub_cancel,push_cast,seval]
          refine ab.pure ht rfl ?_
          simp(maxSteps:=9^7) (disch:=first|exact dI|fail) only[push_cast,seval]
          refine ab.pure hc rfl ?_
          simp(maxSteps:=9^7) (disch:=first|exact dI|fail) only[hcq,Int.add_sub_cancel,hq,hlt2,push_cast,seval]
        | false=>
          rw[if_neg (by simp[hlt2]),← hnext] at hr
          simp(maxSteps:=9^7) (disch:=first|exact dI|fail) only[hcp,Int.add_sub_cancel,push_cast,seval]
          refine ab.pure ht rfl ?_
          simp(maxSteps:=9^7) (disch:=first|exact dI|fail) only[push_cast,seval]
          refine ab.pure hc rfl ?_
          simp(maxSteps:=9^7) (disch:=first|exact dI|fail) only[hcq,Int.add_sub_cancel,hq,hlt2,push_cast,seval]
          exact⟨j+1+1,bf (by simp(maxSteps:=9^7) (disch:=first|exact dI|fail) only[push_cast,seval]),⟨by omega,hr⟩,by omega⟩
     ·rw[if_neg hz] at hr
      subst hr
      simp(maxSteps:=9^7) (disch:=first|exact dI|fail) only[hcp,push_cast,seval]
      refine ab.pure ht rfl ?_
      simp(maxSteps:=9^7) (disch:=first|exact dI|fail) only[push_cast,seval]
      refine ab.pure hc rfl ?_
      simp(maxSteps:=9^7) (disch:=first|exact dI|fail) only[push_cast,seval]
    ·have hie:i=ws.length:=by omega
     subst hie
     rw[List.drop_length] at hr
     rw[show R=0 from hr]
     simp(maxSteps:=9^7) (disch:=first|exact dI|fail) only[push_cast,seval]
  ·rw[show bw m M ws=3 by simp[bw,hM]]
   simp(maxSteps:=9^7) (disch:=first|exact dI|fail) only[KZ,Typ.pv_mk,hm,hM,push_cast,seval]
 ·rw[show bw m M ws=3 by simp[bw,hm]]
  simp(maxSteps:=9^7) (disch:=first|exact dI|fail) only[KZ,Typ.pv_mk,hm,push_cast,seval]
end Go.Proofs.YtbaaokocnegdoaaGreatDoor
