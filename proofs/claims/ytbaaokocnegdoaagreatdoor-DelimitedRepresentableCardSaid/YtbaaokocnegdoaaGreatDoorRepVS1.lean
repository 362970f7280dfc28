/- A part of the proof for DelimitedRepresentableCardSaid. -/
import Derived.Test.YtbaaokocnegdoaaGreatDoorRepVR6
set_option maxRecDepth 100000
set_option linter.unusedVariables false
set_option linter.unusedSimpArgs false
-- many steps
namespace Go.Proofs.YtbaaokocnegdoaaGreatDoor
open Go Go.Ab
attribute [local irreducible] vc
def inB (n a b:Int):Bool:=decide (a≤n)&&decide (n≤b)
theorem ec (n a b:Int):ak Tryz.prog aD 187 [.int .i64 n,.int .i64 a,.int .i64 b] (.bool (inB n a b)):=by
 refine ak.intro Aq (by simp[JA]) ?_
 by_cases h1:a≤n
 ·by_cases h2:n≤b
  ·rw[show inB n a b=true by simp[inB,h1,h2]]
   simp(maxSteps:=9^7) (disch:=first|exact dI|fail) only[JA,push_cast,seval]
  ·rw[show inB n a b=false by simp[inB,h2]]
   simp(maxSteps:=9^7) (disch:=first|exact dI|fail) only[JA,push_cast,seval]
 ·rw[show inB n a b=false by simp[inB,h1]]
  simp(maxSteps:=9^7) (disch:=first|exact dI|fail) only[JA,push_cast,seval]
theorem aW (n a b:Int):ak Tryz.prog aD 195 [.int .i64 n,.int .i64 a,.int .i64 b] (.bool (inB n a b)):=by
 refine ak.intro I6 (by simp[Mc]) ?_
 by_cases h1:a≤n
 ·by_cases h2:n≤b
  ·rw[show inB n a b=true by simp[inB,h1,h2]]
   simp(maxSteps:=9^7) (disch:=first|exact dI|fail) only[Mc,push_cast,seval]
  ·rw[show inB n a b=false by simp[inB,h2]]
   simp(maxSteps:=9^7) (disch:=first|exact dI|fail) only[Mc,push_cast,seval]
 ·rw[show inB n a b=false by simp[inB,h1]]
  simp(maxSteps:=9^7) (disch:=first|exact dI|fail) only[Mc,push_cast,seval]
def lim (nm:List UInt8)(lo hi:Int)(b1 b2 b3 b4 b5:Bool):PV:=.agg [.str nm,.int .i64 lo,.int .i64 hi,.bool b1,.bool b2,.bool b3,.bool b4,.bool b5]
def am (b1 b2 b3 b4 b5:Bool):Typ→Bool
 | .mk k m M s w e f=>(!b1&&!(decide (m=0)&&decide (M=0)))||((!b2&&!decide (s=0))||((!b3&&!decide (w.length=0))||((!b4&&!decide (e.length=0))||(!b5&&!decide (f.length=0)))))
theorem yG (k m M s:Int)(w:List (List UInt8))(e:List Typ)(f:List TFd)(nm:List UInt8)(lo hi:Int):ak Tryz.prog aD 189 [(Typ.mk k m M s w e f).pv,lim nm lo hi false false false false false] (.int .i64 (if am false false false false false (.mk k m M s w e f)=true then 3 else 0)):=by
 refine ak.intro fg (by simp[ea]) ?_
 by_cases hm:m=0
 ·by_cases hM:M=0
  ·by_cases hs:s=0
   ·by_cases hw:w.length=0
    ·have hwI:¬ (0:Int)<(w.length:Int):=by omega
     by_cases he:e.length=0
     ·have heI:¬ (0:Int)<(e.length:Int):=by omega
      by_cases hf:f.length=0
      ·have hfI:¬ (0:Int)<(f.length:Int):=by omega
       rw[show (if am false false false false false (.mk k m M s w e f)=true then (3:Int) else 0)=0 by simp[am,hm,hM,hs,hw,he,hf]]
       simp(maxSteps:=9^7) (disch:=first|exact dI|fail) only[ea,Typ.pv_mk,lim,hm,hM,hs,push_cast,seval]
      ·have hfI:(0:Int)<(f.length:Int):=by omega
       rw[show (if am false false false false false (.mk k m M s w e f)=true then (3:Int) else 0)=3 by simp[am,hm,hM,hs,hw,he,hf]]
       simp(maxSteps:=9^7) (disch:=first|exact dI|fail) only[ea,Typ.pv_mk,lim,hm,hM,hs,push_cast,seval]
     ·have heI:(0:Int)<(e.length:Int):=by omega
      rw[show (if am false false false false false (.mk k m M s w e f)=true then (3:Int) else 0)=3 by simp[am,hm,hM,hs,hw,he]]
      simp(maxSteps:=9^7) (disch:=first|exact dI|fail) only[ea,Typ.pv_mk,lim,hm,hM,hs,push_cast,seval]
    ·have hwI:(0:Int)<(w.length:Int):=by omega
     rw[show (if am false false false false false (.mk k m M s w e f)=true then (3:Int) else 0)=3 by simp[am,hm,hM,hs,hw]]
     simp(maxSteps:=9^7) (disch:=first|exact dI|fail) only[ea,Typ.pv_mk,lim,hm,hM,hs,push_cast,seval]
   ·rw[show (if am false false false false false (.mk k m M s w e f)=true then (3:Int) else 0)=3 by simp[am,hm,hM,hs]]
    simp(maxSteps:=9^7) (disch:=first|exact dI|fail) only[ea,Typ.pv_mk,lim,hm,hM,hs,push_cast,seval]
  ·rw[show (if am false false false false false (.mk k m M s w e f)=true then (3:Int) else 0)=3 by simp[am,hm,hM]]
   simp(maxSteps:=9^7) (disch:=first|exact dI|fail) only[ea,Typ.pv_mk,lim,hm,hM,push_cast,seval]
 ·rw[show (if am false false false false false (.mk k m M s w e f)=true then (3:Int) else 0)=3 by simp[am,hm]]
  simp(maxSteps:=9^7) (disch:=first|exact dI|fail) only[ea,Typ.pv_mk,lim,hm,push_cast,seval]
theorem fI (k m M s:Int)(w:List (List UInt8))(e:List Typ)(f:List TFd)(nm:List UInt8)(lo hi:Int):ak Tryz.prog aD 189 [(Typ.mk k m M s w e f).pv,lim nm lo hi true false false false false] (.int .i64 (if am true false false false false (.mk k m M s w e f)=true then 3 else 0)):=by
 refine ak.intro fg (by simp[ea]) ?_
 by_cases hs:s=0
 ·by_cases hw:w.length=0
  ·have hwI:¬ (0:Int)<(w.length:Int):=by omega
   by_cases he:e.length=0
   ·have heI:¬ (0:Int)<(e.length:Int):=by omega
    by_cases hf:f.length=0
    ·have hfI:¬ (0:Int)<(f.length:Int):=by omega
     rw[show (if am true false false false false (.mk k m M s w e f)=true then (3:Int) else 0)=0 by simp[am,hs,hw,he,hf]]
     simp(maxSteps:=9^7) (disch:=first|exact dI|fail) only[ea,Typ.pv_mk,lim,hs,push_cast,seval]
    ·have hfI:(0:Int)<(f.length:Int):=by omega
     rw[show (if am true false false false false (.mk k m M s w e f)=true then (3:Int) else 0)=3 by simp[am,hs,hw,he,hf]]
     simp(maxSteps:=9^7) (disch:=first|exact dI|fail) only[ea,Typ.pv_mk,lim,hs,push_cast,seval]
   ·have heI:(0:Int)<(e.length:Int):=by omega
    rw[show (if am true false false false false (.mk k m M s w e f)=true then (3:Int) else 0)=3 by simp[am,hs,hw,he]]
    simp(maxSteps:=9^7) (disch:=first|exact dI|fail) only[ea,Typ.pv_mk,lim,hs,push_cast,seval]
  ·have hwI:(0:Int)<(w.length:Int):=by omega
   rw[show (if am true false false false false (.mk k m M s w e f)=true then (3:Int) else 0)=3 by simp[am,hs,hw]]
   simp(maxSteps:=9^7) (disch:=first|exact dI|fail) only[ea,Typ.pv_mk,lim,hs,push_cast,seval]
 ·rw[show (if am true false false false false (.mk k m M s w e f)=true then (3:Int) else 0)=3 by simp[am,hs]]
  simp(maxSteps:=9^7) (disch:=first|exact dI|fail) only[ea,Typ.pv_mk,lim,hs,push_cast,seval]
theorem yI (k m M s:Int)(w:List (List UInt8))(e:List Typ)(f:List TFd)(nm:List UInt8)(lo hi:Int):ak Tryz.prog aD 189 [(Typ.mk k m M s w e f).pv,lim nm lo hi true true false false false] (.int .i64 (if am true true false false false (.mk k m M s w e f)=true then 3 else 0)):=by
 refine ak.intro fg (by simp[ea]) ?_
 by_cases hw:w.length=0
 ·have hwI:¬ (0:Int)<(w.length:Int):=by omega
  by_cases he:e.length=0
  ·have heI:¬ (0:Int)<(e.length:Int):=by omega
   by_cases hf:f.length=0
   ·have hfI:¬ (0:Int)<(f.length:Int):=by omega
    rw[show (if am true true false false false (.mk k m M s w e f)=true then (3:Int) else 0)=0 by simp[am,hw,he,hf]]
    simp(maxSteps:=9^7) (disch:=first|exact dI|fail) only[ea,Typ.pv_mk,lim,push_cast,seval]
   ·have hfI:(0:Int)<(f.length:Int):=by omega
    rw[show (if am true true false false false (.mk k m M s w e f)=true then (3:Int) else 0)=3 by simp[am,hw,he,hf]]
    simp(maxSteps:=9^7) (disch:=first|exact dI|fail) only[ea,Typ.pv_mk,lim,push_cast,seval]
  ·have heI:(0:Int)<(e.length:Int):=by omega
   rw[show (if am true true false false false (.mk k m M s w e f)=true then (3:Int) else 0)=3 by simp[am,hw,he]]
   simp(maxSteps:=9^7) (disch:=first|exact dI|fail) only[ea,Typ.pv_mk,lim,push_cast,seval]
 ·have hwI:(0:Int)<(w.length:Int):=by omega
  rw[show (if am true true false false false (.mk k m M s w e f)=true then (3:Int) else 0)=3 by simp[am,hw]]
  simp(maxSteps:=9^7) (disch:=first|exact dI|fail) only[ea,Typ.pv_mk,lim,push_cast,seval]
theorem yF (k m M s:Int)(w:List (List UInt8))(e:List Typ)(f:List TFd)(nm:List UInt8)(lo hi:Int):ak Tryz.prog aD 189 [(Typ.mk k m M s w e f).pv,lim nm lo hi true false true false false] (.int .i64 (if am true false true false false (.mk k m M s w e f)=true then 3 else 0)):=by
 refine ak.intro fg (by simp[ea]) ?_
 by_cases hs:s=0
 ·by_cases he:e.length=0
  ·have heI:¬ (0:Int)<(e.length:Int):=by omega
   by_cases hf:f.length=0
   ·have hfI:¬ (0:Int)<(f.length:Int):=by omega
    rw[show (if am true false true false false (.mk k m M s w e f)=true then (3:Int) else 0)=0 by simp[am,hs,he,hf]]
    simp(maxSteps:=9^7) (disch:=first|exact dI|fail) only[ea,Typ.pv_mk,lim,hs,push_cast,seval]
   ·have hfI:(0:Int)<(f.length:Int):=by omega
    rw[show (if am true false true false false (.mk k m M s w e f)=true then (3:Int) else 0)=3 by simp[am,hs,he,hf]]
    simp(maxSteps:=9^7) (disch:=first|exact dI|fail) only[ea,Typ.pv_mk,lim,hs,push_cast,seval]
  ·have heI:(0:Int)<(e.length:Int):=by omega
   rw[show (if am true false true false false (.mk k m M s w e f)=true then (3:Int) else 0)=3 by simp[am,hs,he]]
   simp(maxSteps:=9^7) (disch:=first|exact dI|fail) only[ea,Typ.pv_mk,lim,hs,push_cast,seval]
 ·rw[show (if am true false true false false (.mk k m M s w e f)=true then (3:Int) else 0)=3 by simp[am,hs]]
  simp(maxSteps:=9^7) (disch:=first|exact dI|fail) only[ea,Typ.pv_mk,lim,hs,push_cast,seval]
theorem yH (k m M s:Int)(w:List (List UInt8))(e:List Typ)(f:List TFd)(nm:List UInt8)(lo hi:Int):ak Tryz.prog aD 189 [(Typ.mk k m M s w e f).pv,lim nm lo hi true false false true false] (.int .i64 (if am true false false true false (.mk k m M s w e f)=true then 3 else 0)):=by
 refine ak.intro fg (by simp[ea]) ?_
 by_cases hs:s=0
 ·by_cases hw:w.length=0
  ·have hwI:¬ (0:Int)<(w.length:Int):=by omega
   by_cases hf:f.length=0
   ·have hfI:¬ (0:Int)<(f.length:Int):=by omega
    rw[show (if am true false false true false (.mk k m M s w e f)=true then (3:Int) else 0)=0 by simp[am,hs,hw,hf]]
    simp(maxSteps:=9^7) (disch:=first|exact dI|fail) only[ea,Typ.pv_mk,lim,hs,push_cast,seval]
   ·have hfI:(0:Int)<(f.length:Int):=by omega
    rw[show (if am true false false true false (.mk k m M s w e f)=true then (3:Int) else 0)=3 by simp[am,hs,hw,hf]]
    simp(maxSteps:=9^7) (disch:=first|exact dI|fail) only[ea,Typ.pv_mk,lim,hs,push_cast,seval]
  ·have hwI:(0:Int)<(w.length:Int):=by omega
   rw[show (if am true false false true false (.mk k m M s w e f)=true then (3:Int) else 0)=3 by simp[am,hs,hw]]
   simp(maxSteps:=9^7) (disch:=first|exact dI|fail) only[ea,Typ.pv_mk,lim,hs,push_cast,seval]
 ·rw[show (if am true false false true false (.mk k m M s w e f)=true then (3:Int) else 0)=3 by simp[am,hs]]
  simp(maxSteps:=9^7) (disch:=first|exact dI|fail) only[ea,Typ.pv_mk,lim,hs,push_cast,seval]
theorem my (k m M s:Int)(w:List (List UInt8))(e:List Typ)(f:List TFd)(nm:List UInt8)(lo hi:Int):ak Tryz.prog aD 189 [(Typ.mk k m M s w e f).pv,lim nm lo hi false false false false true] (.int .i64 (if am false false false false true (.mk k m M s w e f)=true then 3 else 0)):=by
 refine ak.intro fg (by simp[ea]) ?_
 by_cases hm:m=0
 ·by_cases hM:M=0
  ·by_cases hs:s=0
   ·by_cases hw:w.length=0
    ·have hwI:¬ (0:Int)<(w.length:Int):=by omega
     by_cases he:e.length=0
     ·have heI:¬ (0:Int)<(e.length:Int):=by omega
      rw[show (if am false false false false true (.mk k m M s w e f)=true then (3:Int) else 0)=0 by simp[am,hm,hM,hs,hw,he]]
      simp(maxSteps:=9^7) (disch:=first|exact dI|fail) only[ea,Typ.pv_mk,lim,hm,hM,hs,push_cast,seval]
     ·have heI:(0:Int)<(e.length:Int):=by omega
      rw[show (if am false false false false true (.mk k m M s w e f)=true then (3:Int) else 0)=3 by simp[am,hm,hM,hs,hw,he]]
      simp(maxSteps:=9^7) (disch:=first|exact dI|fail) only[ea,Typ.pv_mk,lim,hm,hM,hs,push_cast,seval]
    ·have hwI:(0:Int)<(w.length:Int):=by omega
     rw[show (if am false false false false true (.mk k m M s w e f)=true then (3:Int) else 0)=3 by simp[am,hm,hM,hs,hw]]
     simp(maxSteps:=9^7) (disch:=first|exact dI|fail) only[ea,Typ.pv_mk,lim,hm,hM,hs,push_cast,seval]
   ·rw[show (if am false false false false true (.mk k m M s w e f)=true then (3:Int) else 0)=3 by simp[am,hm,hM,hs]]
    simp(maxSteps:=9^7) (disch:=first|exact dI|fail) only[ea,Typ.pv_mk,lim,hm,hM,hs,push_cast,seval]
  ·rw[show (if am false false false false true (.mk k m M s w e f)=true then (3:Int) else 0)=3 by simp[am,hm,hM]]
   simp(maxSteps:=9^7) (disch:=first|exact dI|fail) only[ea,Typ.pv_mk,lim,hm,hM,push_cast,seval]
 ·rw[show (if am false false false false true (.mk k m M s w e f)=true then (3:Int) else 0)=3 by simp[am,hm]]
  simp(maxSteps:=9^7) (disch:=first|exact dI|fail) only[ea,Typ.pv_mk,lim,hm,push_cast,seval]
end Go.Proofs.YtbaaokocnegdoaaGreatDoor
set_option maxRecDepth 100000
set_option linter.unusedVariables false
set_option linter.unusedSimpArgs false
-- many steps
namespace Go.Proofs.YtbaaokocnegdoaaGreatDoor
open Go Go.Ab
attribute [local irreducible] vc
def cZ (w:List UInt8):Val:=.mk 4 0 0 w [] []
def jw (w:List UInt8):Int:=if cn w.length 1024 5=0 then (if Lib.validD w=true then 0 else 16) else cn w.length 1024 5
theorem FX (w:List UInt8):ak Tryz.prog aD 239 [.str w] (cZ w).pv:=by
 refine ak.intro IW (by simp[NR]) ?_
 simp only[cZ,Val.pv_mk,List.map_nil]
 simp(maxSteps:=9^7) (disch:=first|exact dI|fail) only[NR,push_cast,seval]
theorem wT (w:List UInt8):bX 1 1 (cZ w)=[(1,cZ w)]:=by
 simp[bX,aT,cZ,Val.kind]
theorem qB (w:List UInt8):gQ 0 (bX 1 1 (cZ w))=jw w:=by
 rw[wT,gQ,vC (by omega) (by simp) (by simp[aJ,cZ]) (by simp[cZ,Val.kind]) (by simp[ag,cZ])]
 simp only[gQ]
 have e:bt (cZ w)=jw w:=rfl
 rw[e]
 split
 ·rename_i h;exact h.symm
 ·rfl
theorem zm (w:List UInt8)(hw:w.length≤140737488351232):ak Tryz.prog aD 192 [(cZ w).pv] (.int .i64 (jw w)):=by
 have:=qE 1 (cZ w) (by simp[ce,aT,cZ,Val.kind]) (by simp[cZ,Val.ok_mk,I64,hw]) (by omega)
 rw[qB] at this
 exact this
def ee:Option (List UInt8)→List (List UInt8)→Int
 | _,[]=>0
 | p,w::r=>if jw w=0 then (if p=some w then 7 else if (p.any fun q=>bx w q)=true then 24 else ee (some w) r) else jw w
theorem ij {ws:List (List UInt8)}{i:Nat}{w:List UInt8}(h:ws[i]? = some w)(p:Option (List UInt8)):ee p (ws.drop i)=if jw w=0 then (if p=some w then 7 else if (p.any fun q=>bx w q)=true then 24 else ee (some w) (ws.drop (i+1))) else jw w:=by
 have hi:i<ws.length:=(List.getElem?_eq_some_iff.1 h).1
 have he:ws[i]=w:=(List.getElem?_eq_some_iff.1 h).2
 rw[List.drop_eq_getElem_cons hi,he,ee]
def fA (ws:List (List UInt8))(i:Nat):Option (List UInt8):=if i=0 then none else ws[i - 1]?
def bq (m M:Int)(ws:List (List UInt8)):Int:=if ¬ (m=0∧M=0) then 3 else if 64<ws.length then 9 else ee none ws
set_option maxHeartbeats 2000000 in
theorem AQ (k m M s:Int)(ws:List (List UInt8))(e:List Typ)(f:List TFd)(hw:∀ w∈ws,w.length≤140737488351232):ak Tryz.prog aD 190 [(Typ.mk k m M s ws e f).pv] (.int .i64 (bq m M ws)):=by
 refine ak.intro Jb (by simp[Jz]) ?_
 by_cases hm:m=0
 ·by_cases hM:M=0
  ·by_cases h64:64<ws.length
   ·rw[show bq m M ws=9 by simp[bq,hm,hM,h64]]
    simp(maxSteps:=9^7) (disch:=first|exact dI|fail) only[Jz,Typ.pv_mk,hm,hM,push_cast,seval]
   ·rw[show bq m M ws=ee none ws by simp[bq,hm,hM,h64]]
    obtain⟨R,hR⟩:∃ R,R=ee none ws:=⟨_,rfl⟩
    rw[← hR]
    simp(maxSteps:=9^7) (disch:=first|exact dI|fail) only[Jz,Typ.pv_mk,hm,hM,push_cast,seval]
    refine aB ([]) (fun i:Nat=>[(23,.pv (.int .i64 (i:Int)))]) (fun _=>[]) (fun i=>i≤ws.length∧R=ee (fA ws i) (ws.drop i)) (fun i=>ws.length - i) (0) ?_;intro e0 σ0 n0 h0;simp(maxSteps:=9^7) (disch:=first|exact dI|fail) only[push_cast,seval] at h0;obtain⟨rfl,rfl,rfl⟩:=h0;refine⟨?_,?_,?_⟩
    ·simp(maxSteps:=9^7) (disch:=first|exact dI|fail) only[push_cast,seval]
    ·exact⟨by omega,by simpa[fA] using hR⟩
    rintro i ⟨hi,hr⟩
    by_cases hlt:i<ws.length
    ·have hltI:(i:Int)<(ws.length:Int):=by omega
     obtain⟨w,hwi⟩:∃ w,ws[i]? = some w:=⟨_,List.getElem?_eq_getElem hlt⟩
     have hcp:(ws.map PV.str)[i]? = some (.str w):=by simp[hwi]
     have ht:=FX w
     have hc:=zm w (hw w (List.mem_of_getElem? hwi))
     simp only[cZ,Val.pv_mk,List.map_nil] at ht hc
     rw[ij hwi] at hr
     have hnext:fA ws (i+1)=some w:=by simp[fA,hwi]
     generalize jw w=z at hc hr
     by_cases hz:z=0
     ·subst hz
      rw[if_pos rfl] at hr
      by_cases hi0:i=0
      ·have hiI:¬ (0:Int)<(i:Int):=by omega
       have hpn:fA ws i=none:=if_pos hi0
       rw[hpn,if_neg (by simp),if_neg (by simp),← hnext] at hr
       simp(maxSteps:=9^7) (disch:=first|exact dI|fail) only[hcp,push_cast,seval]
       refine ab.pure ht rfl ?_
       simp(maxSteps:=9^7) (disch:=first|exact dI|fail) only[push_cast,seval]
       refine ab.pure hc rfl ?_
       simp(maxSteps:=9^7) (disch:=first|exact dI|fail) only[push_cast,seval]
       exact⟨i+1,bg (by simp(maxSteps:=9^7) (disch:=first|exact dI|fail) only[push_cast,seval]),⟨by omega,hr⟩,by omega⟩
      ·obtain⟨j,rfl⟩:∃ j,i=j+1:=⟨i - 1,by omega⟩
       obtain⟨q,hq'⟩:∃ q,ws[j]? = some q:=⟨_,List.getElem?_eq_getElem (by omega)⟩
       have hpn:fA ws (j+1)=some q:=by simp[fA,hq']
       have hcq:(ws.map PV.str)[j]? = some (.str q):=by simp[hq']
       rw[hpn] at hr
       by_cases hq:w=q
       ·subst hq
        rw[if_pos rfl] at hr
        subst hr
        simp(maxSteps:=9^7) (disch:=first|exact dI|fail) only[hcp,Int.add_sub_cancel,push_cast,seval]
        refine ab.pure ht rfl ?_
        simp(maxSteps:=9^7) (disch:=first|exact dI|fail) only[push_cast,seval]
        refine ab.pure hc rfl ?_
        simp(maxSteps:=9^7) (disch:=first|exact dI|fail) only[hcq,Int.add_sub_cancel,push_cast,seval]
       ·rw[if_neg (by simpa using fun e=>hq e.symm)] at hr
        cases hlt2:bx w q with
        | true=>
          rw[if_pos (by simpa using hlt2)] at hr
          subst hr
          simp(maxSteps:=9^7) (disch:=first|exact dI|fail) only[hcp,Int.add_sub_cancel,push_cast,seval]
          refine ab.pure ht rfl ?_
          simp(maxSteps:=9^7) (disch:=first|exact dI|fail) only[push_cast,seval]
          refine ab.pure hc rfl ?_
          simp(maxSteps:=9^7) (disch:=first|exact dI|fail) only[hcq,Int.add_sub_cancel,hq,hlt2,push_cast,seval]
        | false=>
          rw[if_neg (by simp[hlt2]),← hnext] at hr
          simp(maxSteps:=9^7) (disch:=first|exact dI|fail) only[hcp,Int.add_sub_cancel,push_cast,seval]
          refine ab.pure ht rfl ?_
          simp(maxSteps:=9^7) (disch:=first|exact dI|fail) only[push_cast,seval]
          refine ab.pure hc rfl ?_
          simp(maxSteps:=9^7) (disch:=first|exact dI|fail) only[hcq,Int.add_sub_cancel,hq,hlt2,push_cast,seval]
          exact⟨j+1+1,bg (by simp(maxSteps:=9^7) (disch:=first|exact dI|fail) only[push_cast,seval]),⟨by omega,hr⟩,by omega⟩
     ·rw[if_neg hz] at hr
      subst hr
      simp(maxSteps:=9^7) (disch:=first|exact dI|fail) only[hcp,push_cast,seval]
      refine ab.pure ht rfl ?_
      simp(maxSteps:=9^7) (disch:=first|exact dI|fail) only[push_cast,seval]
      refine ab.pure hc rfl ?_
      simp(maxSteps:=9^7) (disch:=first|exact dI|fail) only[push_cast,seval]
    ·have hie:i=ws.length:=by omega
     subst hie
     rw[List.drop_length] at hr
     rw[show R=0 from hr]
     simp(maxSteps:=9^7) (disch:=first|exact dI|fail) only[push_cast,seval]
  ·rw[show bq m M ws=3 by simp[bq,hM]]
   simp(maxSteps:=9^7) (disch:=first|exact dI|fail) only[Jz,Typ.pv_mk,hm,hM,push_cast,seval]
 ·rw[show bq m M ws=3 by simp[bq,hm]]
  simp(maxSteps:=9^7) (disch:=first|exact dI|fail) only[Jz,Typ.pv_mk,hm,push_cast,seval]
end Go.Proofs.YtbaaokocnegdoaaGreatDoor
