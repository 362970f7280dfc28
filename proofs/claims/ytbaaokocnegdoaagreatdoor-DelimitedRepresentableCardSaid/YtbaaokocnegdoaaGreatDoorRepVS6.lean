/- A part of the proof for DelimitedRepresentableCardSaid. -/
import Derived.Test.YtbaaokocnegdoaaGreatDoorRepVS5
import Derived.Test.YtbaaokocnegdoaaGreatDoorRepVR6
import Derived.Test.YtbaaokocnegdoaaGreatDoorRepVSh
import Derived.Test.YtbaaokocnegdoaaGreatDoorRepWD
set_option maxRecDepth 100000
set_option linter.unusedVariables false
set_option linter.unusedSimpArgs false
-- many steps
namespace Go.Proofs.YtbaaokocnegdoaaGreatDoor
open Go Go.Ab
attribute [local irreducible] vc
def ba:Typ→List Typ
 | .mk k _ _ _ _ e f=>if k=8 then e else if k=9∨k=10 then f.map TFd.typ else []
theorem Ch (k m M s:Int)(w:List (List UInt8))(e:List Typ)(fs:List TFd)(hf:fs.length*104≤140737488351232):ak Tryz.prog aD 144 [(Typ.mk k m M s w e fs).pv] (.list ((ba (.mk k m M s w e fs)).map Typ.pv)):=by
 by_cases h8:k=8
 ·rw[show ba (.mk k m M s w e fs)=e from if_pos h8]
  subst h8
  refine ak.intro kY (by simp[FB]) ?_
  simp(maxSteps:=9^7) (disch:=first|exact dI|fail) only[FB,Typ.pv_mk,push_cast,seval]
 ·by_cases h9:k=9∨k=10
  ·rw[show ba (.mk k m M s w e fs)=fs.map TFd.typ by simp only[ba];rw[if_neg h8,if_pos h9]]
   have key:∀ c:Bool,True:=fun _=>trivial
   rcases h9 with rfl | rfl
   all_goals
    refine ak.intro kY (by simp[FB]) ?_
    simp(maxSteps:=9^7) (disch:=first|exact dI|fail) only[FB,Typ.pv_mk,push_cast,seval]
    refine aB ([]) (fun i:Nat=>[(3,.olist 0 7 (((fs.take i).map TFd.typ).map Typ.pv)),(22,.pv (.int .i64 (i:Int)))]) (fun _=>[]) (fun i=>i≤fs.length) (fun i=>fs.length - i) (0) ?_;intro e0 σ0 n0 h0;simp(maxSteps:=9^7) (disch:=first|exact dI|fail) only[push_cast,seval] at h0;obtain⟨rfl,rfl,rfl⟩:=h0;refine⟨?_,?_,?_⟩
    ·simp(maxSteps:=9^7) (disch:=first|exact dI|fail) only[push_cast,seval]
    ·omega
    rintro i hi
    by_cases hlt:i<fs.length
    ·have hltI:(i:Int)<(fs.length:Int):=by omega
     obtain⟨c,hc⟩:∃ c,fs[i]? = some c:=⟨_,List.getElem?_eq_getElem hlt⟩
     have hts:=aH hc
     obtain⟨n',nm',nd',⟨k',m',M',s',w',e',f'⟩,d'⟩:=c
     simp(maxSteps:=9^7) (disch:=first|exact dI|fail) only[hc,Option.map_some,TFd.pv_mk,Typ.pv_mk,ae,push_cast,seval]
     exact⟨i+1,bg (by simp(maxSteps:=9^7) (disch:=first|exact dI|fail) only[hts,List.map_append,TFd.typ,Typ.pv_mk,push_cast,seval]),by omega,by omega⟩
    ·have he:i=fs.length:=by omega
     subst he
     simp(maxSteps:=9^7) (disch:=first|exact dI|fail) only[List.take_length,kx,push_cast,seval]
  ·rw[show ba (.mk k m M s w e fs)=[] by simp only[ba];rw[if_neg h8,if_neg h9]]
   have h9':¬ k=9:=by omega
   have h10:¬ k=10:=by omega
   refine ak.intro kY (by simp[FB]) ?_
   simp(maxSteps:=9^7) (disch:=first|exact dI|fail) only[FB,Typ.pv_mk,push_cast,seval]
end Go.Proofs.YtbaaokocnegdoaaGreatDoor
set_option maxRecDepth 100000
set_option linter.unusedVariables false
set_option linter.unusedSimpArgs false
-- many steps
namespace Go.Proofs.YtbaaokocnegdoaaGreatDoor
open Go Go.Ab
attribute [local irreducible] vc
def Jn (v:Val):Int:=((bX 9 1 v).length:Int)
def MK (v:Val):Prop:=ce 9 v∧v.ok∧(bX 9 1 v).length≤1000000000000
def fh (least:Typ→Int):TFd→Int
 | .mk _ _ nd t d=>if nd=1 then least t else if nd=3 then (match d with | []=>0 | x::_=>Jn x) else 0
def yq (p:Typ→Int):List Typ→Int
 | []=>0
 | x::_=>p x
def yr (p:Typ→Int):List TFd→Int
 | []=>0
 | .mk _ _ _ t _::_=>p t
def bR (p:Typ→Int)(k m:Int)(e:List Typ)(f:List TFd):Int:=if k=8 then (if 0<m then m*yq p e else 0) else if k=10 then yr p f else if k=9 then (f.map (fh p)).sum else 0
def bO:Nat→Typ→Int
 | 0,_=>1
 | n+1,.mk k m _ _ _ e f=>min (1+bR (bO n) k m e f) 4097
def iG (p:Typ→Prop):TFd→Prop
 | .mk _ _ nd t d=>(nd=1→p t)∧(nd=3→∃ x r,d=x::r∧MK x)
def dY:Nat→Typ→Prop
 | 0,_=>False
 | n+1,.mk k m _ _ _ e f=>(k=8→0<m→m≤256∧∃ x r,e=x::r∧dY n x)∧(k=10→∃ g r,f=g::r∧dY n g.typ)∧(k=9→f.length≤64∧∀ g∈f,iG (dY n) g)
theorem pJ {n:Nat}(hle:∀ t,dY n t→1≤bO n t∧bO n t≤4097){g:TFd}(hg:iG (dY n) g):0≤fh (bO n) g∧fh (bO n) g≤1000000000000:=by
 obtain⟨a,b,nd,t,d⟩:=g
 simp only[fh,iG] at hg ⊢
 by_cases h1:nd=1
 ·rw[if_pos h1];have:=hle t (hg.1 h1);omega
 ·rw[if_neg h1]
  by_cases h3:nd=3
  ·obtain⟨x,r,rfl,hx⟩:=hg.2 h3
   rw[if_pos h3]
   have:=hx.2.2
   simp only[Jn];omega
  ·rw[if_neg h3];omega
theorem ir {p:TFd→Int}:∀ (f:List TFd),(∀ g∈f,0≤p g∧p g≤1000000000000)→0≤(f.map p).sum∧(f.map p).sum≤1000000000000*f.length
 | [],_=>by simp
 | g::r,h=>by
   have h1:=h g (List.mem_cons_self ..)
   have h2:=ir r fun x hx=>h x (List.mem_cons_of_mem _ hx)
   simp only[List.map_cons,List.sum_cons,List.length_cons]
   omega
theorem eG:∀ (n:Nat) (t:Typ),dY n t→1≤bO n t∧bO n t≤4097
 | 0,_,h=>h.elim
 | n+1,.mk k m M s w e f,h=>by
   simp only[bO,dY] at h ⊢
   obtain⟨h8,h10,h9⟩:=h
   refine⟨?_,by omega⟩
   have key:0≤bR (bO n) k m e f:=by
    unfold bR
    split
    ·split
     ·rename_i e1 e2
      obtain⟨_,x,r,rfl,hx⟩:=h8 e1 e2
      have:=eG n x hx
      exact Int.mul_nonneg (by omega) (by simp only[yq];omega)
     ·omega
    ·split
     ·rename_i e1 e2
      obtain⟨g,r,rfl,hx⟩:=h10 e2
      have:=eG n g.typ hx
      obtain⟨a,b,c,t,d⟩:=g
      simp only[yr,TFd.typ] at this ⊢;omega
     ·split
      ·rename_i e1
       exact (ir f fun g hg=>pJ (eG n) ((h9 e1).2 g hg)).1
      ·omega
   omega
theorem pE {p:TFd→Int}{f:List TFd}{i:Nat}{g:TFd}(h:f[i]? = some g):((f.take (i+1)).map p).sum=((f.take i).map p).sum+p g:=by
 rw[aH h,List.map_append,List.sum_append];simp
set_option maxHeartbeats 4000000 in
theorem gA:∀ (n:Nat) (t:Typ),dY n t→ak Tryz.prog aD 146 [t.pv] (.int .i64 (bO n t))
 | 0,_,h=>h.elim
 | n+1,.mk k m M s w e f,h=>by
   have ih:=gA n
   have hle:=eG n
   have hpos:∀ g,iG (dY n) g→0≤fh (bO n) g∧fh (bO n) g≤1000000000000:=fun g hg=>pJ hle hg
   simp only[dY] at h
   obtain⟨h8,h10,h9⟩:=h
   simp only[bO]
   generalize bO n=L at *
   refine ak.intro Au (by simp[FA]) ?_
   by_cases hk8:k=8
   ·subst hk8
    by_cases hm:0<m
    ·obtain⟨hm2,x,r,rfl,hx⟩:=h8 rfl hm
     have hc:=ih x hx
     have hl:=hle x hx
     obtain⟨k',m',M',s',w',e',f'⟩:=x
     simp only[Typ.pv_mk] at hc
     generalize hz:L (Typ.mk k' m' M' s' w' e' f')=z at hc hl
     have hmul:0≤m*z:=Int.mul_nonneg (by omega) (by omega)
     have hmul2:m*z≤256*4097:=Int.mul_le_mul hm2 hl.2 (by omega) (by omega)
     have hmm:bR L 8 m (Typ.mk k' m' M' s' w' e' f'::r) f=m*z:=by simp only[bR,yq,hz,if_pos hm,if_true]
     clear hz
     rw[hmm]
     simp(maxSteps:=9^7) (disch:=first|exact dI|fail) only[FA,Typ.pv_mk,hm,aO,push_cast,seval]
     refine aF hc rfl ?_
     simp(maxSteps:=9^7) (disch:=first|exact dI|fail) only[push_cast,seval]
    ·rw[show bR L 8 m e f=0 by simp only[bR,if_neg hm,if_true]]
     simp(maxSteps:=9^7) (disch:=first|exact dI|fail) only[FA,Typ.pv_mk,hm,push_cast,seval]
   by_cases hk10:k=10
   ·subst hk10
    obtain⟨g,r,rfl,hx⟩:=h10 rfl
    obtain⟨n',nm',nd',⟨k',m',M',s',w',e',f'⟩,d'⟩:=g
    simp only[TFd.typ] at hx
    have hc:=ih _ hx
    have hl:=hle _ hx
    simp only[Typ.pv_mk] at hc
    generalize hz:L (Typ.mk k' m' M' s' w' e' f')=z at hc hl
    have hmm:bR L 10 m e (TFd.mk n' nm' nd' (Typ.mk k' m' M' s' w' e' f') d'::r)=z:=by simp[bR,yr,hz]
    clear hz
    rw[hmm]
    simp(maxSteps:=9^7) (disch:=first|exact dI|fail) only[FA,Typ.pv_mk,aO,TFd.pv_mk,ae,push_cast,seval]
    refine ab.pure hc rfl ?_
    simp(maxSteps:=9^7) (disch:=first|exact dI|fail) only[push_cast,seval]
   by_cases hk9:k=9
   ·subst hk9
    obtain⟨hf,hr⟩:=h9 rfl
    rw[show bR L 9 m e f=(f.map (fh L)).sum by simp[bR]]
    have hrp:∀ g∈f,0≤fh L g∧fh L g≤1000000000000:=fun g hg=>hpos g (hr g hg)
    simp(maxSteps:=9^7) (disch:=first|exact dI|fail) only[FA,Typ.pv_mk,push_cast,seval]
    refine aB ([]) (fun i:Nat=>[(3,.pv (.int .i64 (1+((f.take i).map (fh L)).sum))),(38,.pv (.int .i64 (i:Int)))]) (fun _=>[]) (fun i=>i≤f.length) (fun i=>f.length - i) (0) ?_;intro e0 σ0 n0 h0;simp(maxSteps:=9^7) (disch:=first|exact dI|fail) only[push_cast,seval] at h0;obtain⟨rfl,rfl,rfl⟩:=h0;refine⟨?_,?_,?_⟩
    ·simp(maxSteps:=9^7) (disch:=first|exact dI|fail) only[List.take_zero,List.map_nil,List.sum_nil,push_cast,seval]
    ·omega
    rintro i hi
    have hsm:=ir (f.take i) fun g hg=>hrp g (List.mem_of_mem_take hg)
    rw[List.length_take] at hsm
    by_cases hlt:i<f.length
    ·have hltI:(i:Int)<(f.length:Int):=by omega
     obtain⟨g,hg⟩:∃ g,f[i]? = some g:=⟨_,List.getElem?_eq_getElem hlt⟩
     have hst:=pE (p:=fh L) hg
     have hgr:=hr g (List.mem_of_getElem? hg)
     have hgp:=hrp g (List.mem_of_getElem? hg)
     obtain⟨n',nm',nd',⟨k',m',M',s',w',e',f'⟩,d'⟩:=g
     simp only[iG] at hgr
     generalize hS:((f.take i).map (fh L)).sum=S at *
     by_cases h1:nd'=1
     ·subst h1
      have hc:=ih _ (hgr.1 rfl)
      simp only[Typ.pv_mk] at hc
      simp only[fh,if_true] at hst hgp
      generalize L (Typ.mk k' m' M' s' w' e' f')=z at hc hst hgp
      simp(maxSteps:=9^7) (disch:=first|exact dI|fail) only[hg,Option.map_some,TFd.pv_mk,Typ.pv_mk,ae,push_cast,seval]
      refine ab.pure hc rfl ?_
      simp(maxSteps:=9^7) (disch:=first|exact dI|fail) only[push_cast,seval]
      exact⟨i+1,bg (by simp(maxSteps:=9^7) (disch:=first|exact dI|fail) only[hst,Int.add_assoc,push_cast,seval]),by omega,by omega⟩
     ·by_cases h3:nd'=3
      ·subst h3
       obtain⟨x,r,rfl,hx⟩:=hgr.2 rfl
       have hc:=F8 9 x hx.1 hx.2.1 (by omega) (by have:=hx.2.2;omega)
       simp only[fh,if_neg h1,if_true,Jn] at hst hgp
       generalize ((bX 9 1 x).length:Int)=z at hc hst hgp
       obtain⟨vk,vn,vs,vt,vl,vf⟩:=x
       simp only[Val.pv_mk] at hc
       simp(maxSteps:=9^7) (disch:=first|exact dI|fail) only[hg,Option.map_some,TFd.pv_mk,Typ.pv_mk,ae,aO,Val.pv_mk,push_cast,seval]
       refine ab.pure hc rfl ?_
       simp(maxSteps:=9^7) (disch:=first|exact dI|fail) only[push_cast,seval]
       exact⟨i+1,bg (by simp(maxSteps:=9^7) (disch:=first|exact dI|fail) only[hst,Int.add_assoc,push_cast,seval]),by omega,by omega⟩
      ·simp only[fh,if_neg h1,if_neg h3] at hst
       simp(maxSteps:=9^7) (disch:=first|exact dI|fail) only[hg,Option.map_some,TFd.pv_mk,Typ.pv_mk,ae,h1,h3,push_cast,seval]
       exact⟨i+1,bg (by simp(maxSteps:=9^7) (disch:=first|exact dI|fail) only[hst,Int.add_zero,push_cast,seval]),by omega,by omega⟩
    ·have he:i=f.length:=by omega
     subst he
     rw[List.take_length] at hsm ⊢
     simp(maxSteps:=9^7) (disch:=first|exact dI|fail) only[Int.lt_irrefl,push_cast,seval]
   ·rw[show bR L k m e f=0 by simp[bR,hk8,hk9,hk10]]
    simp(maxSteps:=9^7) (disch:=first|exact dI|fail) only[FA,Typ.pv_mk,push_cast,seval]
end Go.Proofs.YtbaaokocnegdoaaGreatDoor
set_option maxRecDepth 100000
set_option linter.unusedVariables false
set_option linter.unusedSimpArgs false
-- many steps
namespace Go.Proofs.YtbaaokocnegdoaaGreatDoor
open Go Go.Ab
attribute [local irreducible] vc
def bY:Nat→Typ→Int
 | 0,_=>0
 | n+1,.mk k m M s w e f=>f.foldl (fun a g=>max a (bY n g.typ)) (e.foldl (fun a x=>max a (bY n x)) (bO 9 (.mk k m M s w e f)))
def LB:Nat→Typ→Prop
 | 0,_=>False
 | n+1,.mk k m M s w e f=>dY 9 (.mk k m M s w e f)∧e.length≤1000000000∧f.length≤1000000000∧(∀ x∈e,LB n x)∧∀ g∈f,LB n g.typ
theorem eI {α β:Type}{p:β→α→β}{l:List α}{i:Nat}{x:α}(h:l[i]? = some x)(b:β):(l.take (i+1)).foldl p b=p ((l.take i).foldl p b) x:=by rw[aH h,List.foldl_append];rfl
set_option maxHeartbeats 4000000 in
theorem eV:∀ (n:Nat) (t:Typ),LB n t→ak Tryz.prog aD 95 [t.pv] (.int .i64 (bY n t))
 | 0,_,h=>h.elim
 | n+1,.mk k m M s w e f,h=>by
   have ih:=eV n
   simp only[LB] at h
   obtain⟨h1,hel,hfl,he,hf⟩:=h
   have hle:=gA 9 _ h1
   simp only[bY]
   generalize bO 9 (.mk k m M s w e f)=z at *
   simp only[Typ.pv_mk] at hle
   obtain⟨Q,hQ⟩:∃ Q,Q=fun (a:Int) (x:Typ)=>max a (bY n x):=⟨_,rfl⟩
   obtain⟨R,hR⟩:∃ R,R=fun (a:Int) (x:TFd)=>max a (bY n x.typ):=⟨_,rfl⟩
   rw[← hQ,← hR]
   refine ak.intro Fs (by simp[F95]) ?_
   simp(maxSteps:=9^7) (disch:=first|exact dI|fail) only[F95,Typ.pv_mk,push_cast,seval]
   refine ab.pure hle rfl ?_
   simp(maxSteps:=9^7) (disch:=first|exact dI|fail) only[push_cast,seval]
   refine aB ([]) (fun i:Nat=>[(3,.pv (.int .i64 ((e.take i).foldl Q z))),(13,.pv (.int .i64 (i:Int)))]) (fun _=>[]) (fun i=>i≤e.length) (fun i=>e.length - i) (0) ?_;intro e0 σ0 n0 h0;simp(maxSteps:=9^7) (disch:=first|exact dI|fail) only[push_cast,seval] at h0;obtain⟨rfl,rfl,rfl⟩:=h0;refine⟨?_,?_,?_⟩
   ·simp(maxSteps:=9^7) (disch:=first|exact dI|fail) only[List.take_zero,List.foldl_nil,push_cast,seval]
   ·omega
   rintro i hi
   by_cases hlt:i<e.length
   ·have hltI:(i:Int)<(e.length:Int):=by omega
    obtain⟨x,hx⟩:∃ x,e[i]? = some x:=⟨_,List.getElem?_eq_getElem hlt⟩
    have hc:=ih x (he x (List.mem_of_getElem? hx))
    have hst:=eI (p:=Q) hx z
    rw[show Q ((e.take i).foldl Q z) x=max ((e.take i).foldl Q z) (bY n x) by rw[hQ]] at hst
    generalize bY n x=y at hc hst
    obtain⟨k',m',M',s',w',e',f'⟩:=x
    simp only[Typ.pv_mk] at hc
    simp(maxSteps:=9^7) (disch:=first|exact dI|fail) only[hx,Option.map_some,Typ.pv_mk,ae,push_cast,seval]
    refine ab.pure hc rfl ?_
    simp(maxSteps:=9^7) (disch:=first|exact dI|fail) only[push_cast,seval]
    exact⟨i+1,bg (by simp(maxSteps:=9^7) (disch:=first|exact dI|fail) only[hst,push_cast,seval]),by omega,by omega⟩
   obtain rfl:i=e.length:=by omega
   clear hi hlt
   rw[List.take_length]
   generalize e.foldl Q z=z2
   simp(maxSteps:=9^7) (disch:=first|exact dI|fail) only[Int.lt_irrefl,push_cast,seval]
   refine aB ([]) (fun i:Nat=>[(3,.pv (.int .i64 ((f.take i).foldl R z2))),(25,.pv (.int .i64 (i:Int)))]) (fun _=>[]) (fun i=>i≤f.length) (fun i=>f.length - i) (0) ?_;intro e0 σ0 n0 h0;simp(maxSteps:=9^7) (disch:=first|exact dI|fail) only[push_cast,seval] at h0;obtain⟨rfl,rfl,rfl⟩:=h0;refine⟨?_,?_,?_⟩
   ·simp(maxSteps:=9^7) (disch:=first|exact dI|fail) only[List.take_zero,List.foldl_nil,push_cast,seval]
   ·omega
   rintro i hi
   by_cases hlt:i<f.length
   ·have hltI:(i:Int)<(f.length:Int):=by omega
    obtain⟨x,hx⟩:∃ x,f[i]? = some x:=⟨_,List.getElem?_eq_getElem hlt⟩
    have hc:=ih x.typ (hf x (List.mem_of_getElem? hx))
    have hst:=eI (p:=R) hx z2
    rw[show R ((f.take i).foldl R z2) x=max ((f.take i).foldl R z2) (bY n x.typ) by rw[hR]] at hst
    generalize bY n x.typ=y at hc hst
    obtain⟨n',nm',nd',⟨k',m',M',s',w',e',f'⟩,d'⟩:=x
    simp only[TFd.typ,Typ.pv_mk] at hc
    simp(maxSteps:=9^7) (disch:=first|exact dI|fail) only[hx,Option.map_some,Typ.pv_mk,TFd.pv_mk,ae,push_cast,seval]
    refine ab.pure hc rfl ?_
    simp(maxSteps:=9^7) (disch:=first|exact dI|fail) only[push_cast,seval]
    exact⟨i+1,bg (by simp(maxSteps:=9^7) (disch:=first|exact dI|fail) only[hst,push_cast,seval]),by omega,by omega⟩
   obtain rfl:i=f.length:=by omega
   clear hi hlt
   rw[List.take_length]
   simp(maxSteps:=9^7) (disch:=first|exact dI|fail) only[Int.lt_irrefl,push_cast,seval]
end Go.Proofs.YtbaaokocnegdoaaGreatDoor
set_option maxRecDepth 100000
set_option linter.unusedVariables false
set_option linter.unusedSimpArgs false
namespace Go.Proofs.YtbaaokocnegdoaaGreatDoor
open Go Go.Ab
set_option maxHeartbeats 4000000 in
theorem mN:∀ (n:Nat) (v:Val),SizeOf.sizeOf v<n→v.ok→ak Tryz.prog aD 58 [v.pv] v.pv:=by
 intro n
 induction n with
 | zero=>intro v h;omega
 | succ n ih=>
 intro v hn hv
 obtain⟨k,i,s,t,l,f⟩:=v
 rw[Val.ok_mk] at hv
 obtain⟨h1,h2,h3,h4,h5,h7,h6,h8⟩:=hv
 simp only[Val.mk.sizeOf_spec] at hn
 have hl:∀ x∈l,ak Tryz.prog aD 58 [x.pv] x.pv:=fun x hx=>ih x (by have:=List.sizeOf_lt_of_mem hx;omega) (h7 x hx)
 have hf:∀ a v,Fld.mk a v∈f→ak Tryz.prog aD 58 [v.pv] v.pv:=fun a v hx=>ih v (by have:=List.sizeOf_lt_of_mem hx;simp only[Fld.mk.sizeOf_spec] at this;omega) (by have:=h8 _ hx;rw[Fld.ok_mk] at this;exact this.2)
 refine ak.intro EK (by simp[Jj]) ?_
 simp(disch:=first|exact dI|fail) only[Jj,Val.pv_mk,push_cast,seval]
 refine aB ([(3,5,31,6)]) (fun m:Nat=>[(14,.pv (.int .i64 (m:Int)))]) (fun m=>[(1,.cells 31 true [.pv (.int .i64 k),.pv (.int .i64 i),.pv (.int .i64 s),.pv (.str t),.olist 2 6 ((l.take m).map Val.pv),.pv .nils])]) (fun m=>m≤l.length) (fun m=>l.length - m) (0) ?_;intro e0 σ0 n0 h0;simp(disch:=first|exact dI|fail) only[push_cast,seval] at h0;obtain⟨rfl,rfl,rfl⟩:=h0;refine⟨?_,?_,?_⟩
 ·simp(disch:=first|exact dI|fail) only[push_cast,seval]
 ·omega
 ·intro m hm
  by_cases hlt:m<l.length
  ·have hltI:(m:Int)<l.length:=by omega
   obtain⟨x,hx⟩:∃ x,l[m]? = some x:=⟨_,List.getElem?_eq_getElem hlt⟩
   have hts:=aH hx
   have hlt2:(l.take m).length=m:=by rw[List.length_take];omega
   have hcall:=hl x (List.mem_of_getElem? hx)
   obtain⟨w1,w2,w3,w4,w5,w6⟩:=x
   rw[Val.pv_mk] at hcall
   simp(disch:=first|exact dI|fail) only[hx,Val.pv_mk,push_cast,seval]
   refine aF hcall rfl ?_
   simp(disch:=first|exact dI|fail) only[hlt2,push_cast,seval]
   exact⟨m+1,bg (by simp(disch:=first|exact dI|fail) only[hts,List.map_append,Val.pv_mk,push_cast,seval]),by omega,by omega⟩
  ·have hltI:¬ (m:Int)<l.length:=by omega
   have hle:l.take m=l:=List.take_of_length_le (by omega)
   simp(disch:=first|exact dI|fail) only[hle,push_cast,seval]
   refine aB ([(3,6,83,7)]) (fun m:Nat=>[(29,.pv (.int .i64 (m:Int)))]) (fun m=>[(1,.cells 31 true [.pv (.int .i64 k),.pv (.int .i64 i),.pv (.int .i64 s),.pv (.str t),.olist 2 6 (l.map Val.pv),.olist 3 7 ((f.take m).map Fld.pv)])]) (fun m=>m≤f.length) (fun m=>f.length - m) (0) ?_;intro e0 σ0 n0 h0;simp(disch:=first|exact dI|fail) only[push_cast,seval] at h0;obtain⟨rfl,rfl,rfl⟩:=h0;refine⟨?_,?_,?_⟩
   ·simp(disch:=first|exact dI|fail) only[push_cast,seval]
   ·omega
   ·intro m hm
    by_cases hlt:m<f.length
    ·have hltI:(m:Int)<f.length:=by omega
     obtain⟨⟨a,v⟩,hx⟩:∃ x,f[m]? = some x:=⟨_,List.getElem?_eq_getElem hlt⟩
     have hts:=aH hx
     have hlt2:(f.take m).length=m:=by rw[List.length_take];omega
     have hcall:=hf a v (List.mem_of_getElem? hx)
     obtain⟨w1,w2,w3,w4,w5,w6⟩:=v
     rw[Val.pv_mk] at hcall
     simp(disch:=first|exact dI|fail) only[hx,Fld.pv_mk,Val.pv_mk,push_cast,seval]
     refine aF hcall rfl ?_
     simp(disch:=first|exact dI|fail) only[hlt2,push_cast,seval]
     exact⟨m+1,bg (by simp(disch:=first|exact dI|fail) only[hts,List.map_append,Fld.pv_mk,Val.pv_mk,push_cast,seval]),by omega,by omega⟩
    ·have hltI:¬ (m:Int)<f.length:=by omega
     have hle:f.take m=f:=List.take_of_length_le (by omega)
     simp(disch:=first|exact dI|fail) only[hle,push_cast,seval]
end Go.Proofs.YtbaaokocnegdoaaGreatDoor
