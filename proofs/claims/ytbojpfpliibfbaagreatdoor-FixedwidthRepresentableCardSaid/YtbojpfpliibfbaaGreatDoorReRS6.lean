/- A part of the proof for FixedwidthRepresentableCardSaid. -/
import Derived.Test.YtbojpfpliibfbaaGreatDoorReRS5
import Derived.Test.YtbojpfpliibfbaaGreatDoorReRR6
set_option maxRecDepth 100000
set_option linter.unusedVariables false
set_option linter.unusedSimpArgs false
-- many steps
namespace Go.Proofs.YtbojpfpliibfbaaGreatDoor
open Go Go.Ab
attribute [local irreducible] vc
def bC:Typ→List Typ
 | .mk k _ _ _ _ e f=>if k=8 then e else if k=9∨k=10 then f.map TFd.typ else []
theorem As (k m M s:Int)(w:List (List UInt8))(e:List Typ)(fs:List TFd)(hf:fs.length*104≤140737488351232):ag Tryz.prog aD 179 [(Typ.mk k m M s w e fs).pv] (.list ((bC (.mk k m M s w e fs)).map Typ.pv)):=by
 by_cases h8:k=8
 ·rw[show bC (.mk k m M s w e fs)=e from if_pos h8]
  subst h8
  refine ag.intro oj (by simp[Hj]) ?_
  simp(maxSteps:=9^7) (disch:=try exact dI) only[Hj,Typ.pv_mk,push_cast,seval]
 ·by_cases h9:k=9∨k=10
  ·rw[show bC (.mk k m M s w e fs)=fs.map TFd.typ by simp only[bC];rw[if_neg h8,if_pos h9]]
   have key:∀ c:Bool,True:=fun _=>trivial
   rcases h9 with rfl | rfl
   all_goals
    refine ag.intro oj (by simp[Hj]) ?_
    simp(maxSteps:=9^7) (disch:=try exact dI) only[Hj,Typ.pv_mk,push_cast,seval]
    refine aw ([]) (fun i:Nat=>[(3,.olist 0 7 (((fs.take i).map TFd.typ).map Typ.pv)),(22,.pv (.int .i64 (i:Int)))]) (fun _=>[]) (fun i=>i≤fs.length) (fun i=>fs.length - i) (0) ?_;intro e0 σ0 n0 h0;simp(maxSteps:=9^7) (disch:=try exact dI) only[push_cast,seval] at h0;obtain⟨rfl,rfl,rfl⟩:=h0;refine⟨?_,?_,?_⟩
    ·simp(maxSteps:=9^7) (disch:=try exact dI) only[push_cast,seval]
    ·omega
    rintro i hi
    by_cases hlt:i<fs.length
    ·have hltI:(i:Int)<(fs.length:Int):=by omega
     obtain⟨c,hc⟩:∃ c,fs[i]? = some c:=⟨_,List.getElem?_eq_getElem hlt⟩
     have hts:=aI hc
     obtain⟨n',nm',nd',⟨k',m',M',s',w',e',f'⟩,d'⟩:=c
     simp(maxSteps:=9^7) (disch:=try exact dI) only[hc,Option.map_some,TFd.pv_mk,Typ.pv_mk,ae,push_cast,seval]
     exact⟨i+1,aT (by simp(maxSteps:=9^7) (disch:=try exact dI) only[hts,List.map_append,TFd.typ,Typ.pv_mk,push_cast,seval]),by omega,by omega⟩
    ·have he:i=fs.length:=by omega
     subst he
     simp(maxSteps:=9^7) (disch:=try exact dI) only[List.take_length,kv,push_cast,seval]
  ·rw[show bC (.mk k m M s w e fs)=[] by simp only[bC];rw[if_neg h8,if_neg h9]]
   have h9':¬ k=9:=by omega
   have h10:¬ k=10:=by omega
   refine ag.intro oj (by simp[Hj]) ?_
   simp(maxSteps:=9^7) (disch:=try exact dI) only[Hj,Typ.pv_mk,push_cast,seval]
end Go.Proofs.YtbojpfpliibfbaaGreatDoor
namespace Go.Proofs.YtbojpfpliibfbaaGreatDoor
open Go Go.Ab
attribute [local irreducible] vc
def sw:Nat→Val→Prop
 | 0,_=>False
 | n+1,v=>(∀ x∈v.lst,sw n x)∧∀ x∈v.fields,sw n x.value
theorem je:∀ (n:Nat) (v:Val),sw n v→sw (n+1) v
 | 0,_,h=>h.elim
 | n+1,v,h=>⟨fun x hx=>je n x (h.1 x hx),fun x hx=>je n x.value (h.2 x hx)⟩
theorem kR {n m:Nat}(h:n≤m){v:Val}(hv:sw n v):sw m v:=by
 induction h with
 | refl=>exact hv
 | step _ ih=>exact je _ _ ih
theorem oc {α:Type}(g:α→Val):∀ l:List α,(∀ x∈l,∃ n,sw n (g x))→∃ n,∀ x∈l,sw n (g x)
 | [],_=>⟨0,by simp⟩
 | x::r,h=>by
   obtain⟨n,hn⟩:=h x (by simp)
   obtain⟨m,hm⟩:=oc g r fun y hy=>h y (List.mem_cons_of_mem _ hy)
   refine⟨max n m,fun y hy=>?_⟩
   rcases List.mem_cons.1 hy with rfl | hy
   ·exact kR (Nat.le_max_left _ _) hn
   ·exact kR (Nat.le_max_right _ _) (hm y hy)
theorem kU (v:Val):∃ n,sw n v:=by
 obtain⟨k,n,s,t,l,fs⟩:=v
 have h1:∀ x∈l,∃ n,sw n x:=fun x hx=>kU x
 have h2:∀ x∈fs,∃ n,sw n x.value:=fun x hx=>by
  obtain⟨nm,y⟩:=x
  exact kU y
 obtain⟨a,ha⟩:=oc id l h1
 obtain⟨b,hb⟩:=oc Fld.value fs h2
 exact⟨max a b+1,fun x hx=>kR (Nat.le_max_left _ _) (ha x hx),fun x hx=>kR (Nat.le_max_right _ _) (hb x hx)⟩
termination_by SizeOf.sizeOf v
decreasing_by
 ·have:=List.sizeOf_lt_of_mem hx;simp;omega
 ·have:=List.sizeOf_lt_of_mem hx;simp at this ⊢;omega
theorem kO:∀ (n:Nat) (v:Val),sw n v→cL n v
 | 0,_,h=>h
 | n+1,v,h=>fun x hx=>by
   unfold a8 at hx
   split at hx
   ·exact kO n x (h.1 x hx)
   ·split at hx
    ·obtain⟨y,hy,rfl⟩:=List.mem_map.1 hx
     exact kO n _ (h.2 y hy)
    ·simp at hx
noncomputable def lvl (v:Val):Nat:=(kU v).choose
theorem Fi (v:Val):sw (lvl v) v:=(kU v).choose_spec
theorem eE (v:Val):cL (lvl v) v:=kO _ v (Fi v)
noncomputable def Dn (v:Val):Int:=gY 0 (cy (lvl v) 1 v)
theorem FU (v:Val)(hv:v.ok):ag Tryz.prog aD 233 [v.pv] (.int .i64 (Dn v)):=pG _ v (eE v) hv
theorem pD:∀ (xs:List (Int×Val)) (i:Nat),i≤4096→gY i xs=0→i+xs.length≤4096
 | [],i,h,_=>by simpa using h
 | q::r,i,h,h0=>by
   rw[gY] at h0
   by_cases h1:aX i q=0
   ·rw[if_pos h1] at h0
    have hi:¬ 4096≤i:=fun hh=>by rw[D3 hh] at h1;cases h1
    have:=pD r (i+1) (by omega) h0
    rw[List.length_cons];omega
   ·rw[if_neg h1] at h0;exact absurd h0 h1
end Go.Proofs.YtbojpfpliibfbaaGreatDoor
-- many steps
namespace Go.Proofs.YtbojpfpliibfbaaGreatDoor
open Go Go.Ab
attribute [local irreducible] vc
noncomputable def HG (v:Val):Int:=((cy (lvl v) 1 v).length:Int)
def H6 (v:Val):Prop:=v.ok∧(cy (lvl v) 1 v).length≤1000000000000
noncomputable def fe (least:Typ→Int):TFd→Int
 | .mk _ _ nd t d=>if nd=1 then least t else if nd=3 then (match d with | []=>0 | x::_=>HG x) else 0
def wj (p:Typ→Int):List Typ→Int
 | []=>0
 | x::_=>p x
def wk (p:Typ→Int):List TFd→Int
 | []=>0
 | .mk _ _ _ t _::_=>p t
noncomputable def bT (p:Typ→Int)(k m:Int)(e:List Typ)(f:List TFd):Int:=if k=8 then (if 0<m then m*wj p e else 0) else if k=10 then wk p f else if k=9 then (f.map (fe p)).sum else 0
noncomputable def bQ:Nat→Typ→Int
 | 0,_=>1
 | n+1,.mk k m _ _ _ e f=>min (1+bT (bQ n) k m e f) 4097
def io (p:Typ→Prop):TFd→Prop
 | .mk _ _ nd t d=>(nd=1→p t)∧(nd=3→∃ x r,d=x::r∧H6 x)
def dZ:Nat→Typ→Prop
 | 0,_=>False
 | n+1,.mk k m _ _ _ e f=>(k=8→0<m→m≤256∧∃ x r,e=x::r∧dZ n x)∧(k=10→∃ g r,f=g::r∧dZ n g.typ)∧(k=9→f.length≤64∧∀ g∈f,io (dZ n) g)
theorem oE {n:Nat}(hle:∀ t,dZ n t→1≤bQ n t∧bQ n t≤4097){g:TFd}(hg:io (dZ n) g):0≤fe (bQ n) g∧fe (bQ n) g≤1000000000000:=by
 obtain⟨a,b,nd,t,d⟩:=g
 simp only[fe,io] at hg ⊢
 by_cases h1:nd=1
 ·rw[if_pos h1];have:=hle t (hg.1 h1);omega
 ·rw[if_neg h1]
  by_cases h3:nd=3
  ·obtain⟨x,r,rfl,hx⟩:=hg.2 h3
   rw[if_pos h3]
   have:=hx.2
   simp only[HG];omega
  ·rw[if_neg h3];omega
theorem hZ {p:TFd→Int}:∀ (f:List TFd),(∀ g∈f,0≤p g∧p g≤1000000000000)→0≤(f.map p).sum∧(f.map p).sum≤1000000000000*f.length
 | [],_=>by simp
 | g::r,h=>by
   have h1:=h g (List.mem_cons_self ..)
   have h2:=hZ r fun x hx=>h x (List.mem_cons_of_mem _ hx)
   simp only[List.map_cons,List.sum_cons,List.length_cons]
   omega
theorem eG:∀ (n:Nat) (t:Typ),dZ n t→1≤bQ n t∧bQ n t≤4097
 | 0,_,h=>h.elim
 | n+1,.mk k m M s w e f,h=>by
   simp only[bQ,dZ] at h ⊢
   obtain⟨h8,h10,h9⟩:=h
   refine⟨?_,by omega⟩
   have key:0≤bT (bQ n) k m e f:=by
    unfold bT
    split
    ·split
     ·rename_i e1 e2
      obtain⟨_,x,r,rfl,hx⟩:=h8 e1 e2
      have:=eG n x hx
      exact Int.mul_nonneg (by omega) (by simp only[wj];omega)
     ·omega
    ·split
     ·rename_i e1 e2
      obtain⟨g,r,rfl,hx⟩:=h10 e2
      have:=eG n g.typ hx
      obtain⟨a,b,c,t,d⟩:=g
      simp only[wk,TFd.typ] at this ⊢;omega
     ·split
      ·rename_i e1
       exact (hZ f fun g hg=>oE (eG n) ((h9 e1).2 g hg)).1
      ·omega
   omega
theorem oy {p:TFd→Int}{f:List TFd}{i:Nat}{g:TFd}(h:f[i]? = some g):((f.take (i+1)).map p).sum=((f.take i).map p).sum+p g:=by
 rw[aI h,List.map_append,List.sum_append];simp
set_option maxHeartbeats 4000000 in
theorem go:∀ (n:Nat) (t:Typ),dZ n t→ag Tryz.prog aD 181 [t.pv] (.int .i64 (bQ n t))
 | 0,_,h=>h.elim
 | n+1,.mk k m M s w e f,h=>by
   have ih:=go n
   have hle:=eG n
   have hpos:∀ g,io (dZ n) g→0≤fe (bQ n) g∧fe (bQ n) g≤1000000000000:=fun g hg=>oE hle hg
   simp only[dZ] at h
   obtain⟨h8,h10,h9⟩:=h
   simp only[bQ]
   generalize bQ n=L at *
   refine ag.intro Hh (by simp[Hi]) ?_
   by_cases hk8:k=8
   ·subst hk8
    by_cases hm:0<m
    ·obtain⟨hm2,x,r,rfl,hx⟩:=h8 rfl hm
     have hc:=ih x hx
     have hl:=hle x hx
     obtain⟨k',m',M',s',w',e',f'⟩:=x
     simp only[Typ.pv_mk] at hc
     generalize hz:L (Typ.mk k' m' M' s' w' e' f')=z at hc hl
     have hmul:0≤m*z:=Int.mul_nonneg (by omega) (by omega)
     have hmul2:m*z≤256*4097:=Int.mul_le_mul hm2 hl.2 (by omega) (by omega)
     have hmm:bT L 8 m (Typ.mk k' m' M' s' w' e' f'::r) f=m*z:=by simp only[bT,wj,hz,if_pos hm,if_true]
     clear hz
     rw[hmm]
     simp(maxSteps:=9^7) (disch:=try exact dI) only[Hi,Typ.pv_mk,hm,aK,push_cast,seval]
     refine aA hc rfl ?_
     simp(maxSteps:=9^7) (disch:=try exact dI) only[push_cast,seval]
    ·rw[show bT L 8 m e f=0 by simp only[bT,if_neg hm,if_true]]
     simp(maxSteps:=9^7) (disch:=try exact dI) only[Hi,Typ.pv_mk,hm,push_cast,seval]
   by_cases hk10:k=10
   ·subst hk10
    obtain⟨g,r,rfl,hx⟩:=h10 rfl
    obtain⟨n',nm',nd',⟨k',m',M',s',w',e',f'⟩,d'⟩:=g
    simp only[TFd.typ] at hx
    have hc:=ih _ hx
    have hl:=hle _ hx
    simp only[Typ.pv_mk] at hc
    generalize hz:L (Typ.mk k' m' M' s' w' e' f')=z at hc hl
    have hmm:bT L 10 m e (TFd.mk n' nm' nd' (Typ.mk k' m' M' s' w' e' f') d'::r)=z:=by simp[bT,wk,hz]
    clear hz
    rw[hmm]
    simp(maxSteps:=9^7) (disch:=try exact dI) only[Hi,Typ.pv_mk,aK,TFd.pv_mk,ae,push_cast,seval]
    refine ab.pure hc rfl ?_
    simp(maxSteps:=9^7) (disch:=try exact dI) only[push_cast,seval]
   by_cases hk9:k=9
   ·subst hk9
    obtain⟨hf,hr⟩:=h9 rfl
    rw[show bT L 9 m e f=(f.map (fe L)).sum by simp[bT]]
    have hrp:∀ g∈f,0≤fe L g∧fe L g≤1000000000000:=fun g hg=>hpos g (hr g hg)
    simp(maxSteps:=9^7) (disch:=try exact dI) only[Hi,Typ.pv_mk,push_cast,seval]
    refine aw ([]) (fun i:Nat=>[(3,.pv (.int .i64 (1+((f.take i).map (fe L)).sum))),(38,.pv (.int .i64 (i:Int)))]) (fun _=>[]) (fun i=>i≤f.length) (fun i=>f.length - i) (0) ?_;intro e0 σ0 n0 h0;simp(maxSteps:=9^7) (disch:=try exact dI) only[push_cast,seval] at h0;obtain⟨rfl,rfl,rfl⟩:=h0;refine⟨?_,?_,?_⟩
    ·simp(maxSteps:=9^7) (disch:=try exact dI) only[List.take_zero,List.map_nil,List.sum_nil,push_cast,seval]
    ·omega
    rintro i hi
    have hsm:=hZ (f.take i) fun g hg=>hrp g (List.mem_of_mem_take hg)
    rw[List.length_take] at hsm
    by_cases hlt:i<f.length
    ·have hltI:(i:Int)<(f.length:Int):=by omega
     obtain⟨g,hg⟩:∃ g,f[i]? = some g:=⟨_,List.getElem?_eq_getElem hlt⟩
     have hst:=oy (p:=fe L) hg
     have hgr:=hr g (List.mem_of_getElem? hg)
     have hgp:=hrp g (List.mem_of_getElem? hg)
     obtain⟨n',nm',nd',⟨k',m',M',s',w',e',f'⟩,d'⟩:=g
     simp only[io] at hgr
     generalize hS:((f.take i).map (fe L)).sum=S at *
     by_cases h1:nd'=1
     ·subst h1
      have hc:=ih _ (hgr.1 rfl)
      simp only[Typ.pv_mk] at hc
      simp only[fe,if_true] at hst hgp
      generalize L (Typ.mk k' m' M' s' w' e' f')=z at hc hst hgp
      simp(maxSteps:=9^7) (disch:=try exact dI) only[hg,Option.map_some,TFd.pv_mk,Typ.pv_mk,ae,push_cast,seval]
      refine ab.pure hc rfl ?_
      simp(maxSteps:=9^7) (disch:=try exact dI) only[push_cast,seval]
      exact⟨i+1,aT (by simp(maxSteps:=9^7) (disch:=try exact dI) only[hst,Int.add_assoc,push_cast,seval]),by omega,by omega⟩
     ·by_cases h3:nd'=3
      ·subst h3
       obtain⟨x,r,rfl,hx⟩:=hgr.2 rfl
       have hc:=D6 (lvl x) x (eE x) hx.1 (by have:=hx.2;omega)
       simp only[fe,if_neg h1,if_true,HG] at hst hgp
       generalize ((cy (lvl x) 1 x).length:Int)=z at hc hst hgp
       obtain⟨vk,vn,vs,vt,vl,vf⟩:=x
       simp only[Val.pv_mk] at hc
       simp(maxSteps:=9^7) (disch:=try exact dI) only[hg,Option.map_some,TFd.pv_mk,Typ.pv_mk,ae,aK,Val.pv_mk,push_cast,seval]
       refine ab.pure hc rfl ?_
       simp(maxSteps:=9^7) (disch:=try exact dI) only[push_cast,seval]
       exact⟨i+1,aT (by simp(maxSteps:=9^7) (disch:=try exact dI) only[hst,Int.add_assoc,push_cast,seval]),by omega,by omega⟩
      ·simp only[fe,if_neg h1,if_neg h3] at hst
       simp(maxSteps:=9^7) (disch:=try exact dI) only[hg,Option.map_some,TFd.pv_mk,Typ.pv_mk,ae,h1,h3,push_cast,seval]
       exact⟨i+1,aT (by simp(maxSteps:=9^7) (disch:=try exact dI) only[hst,Int.add_zero,push_cast,seval]),by omega,by omega⟩
    ·have he:i=f.length:=by omega
     subst he
     rw[List.take_length] at hsm ⊢
     simp(maxSteps:=9^7) (disch:=try exact dI) only[Int.lt_irrefl,push_cast,seval]
   ·rw[show bT L k m e f=0 by simp[bT,hk8,hk9,hk10]]
    simp(maxSteps:=9^7) (disch:=try exact dI) only[Hi,Typ.pv_mk,push_cast,seval]
end Go.Proofs.YtbojpfpliibfbaaGreatDoor
-- many steps
namespace Go.Proofs.YtbojpfpliibfbaaGreatDoor
open Go Go.Ab
attribute [local irreducible] vc
noncomputable def b9:Nat→Typ→Int
 | 0,_=>0
 | n+1,.mk k m M s w e f=>f.foldl (fun a g=>max a (b9 n g.typ)) (e.foldl (fun a x=>max a (b9 n x)) (bQ 9 (.mk k m M s w e f)))
def JU:Nat→Typ→Prop
 | 0,_=>False
 | n+1,.mk k m M s w e f=>dZ 9 (.mk k m M s w e f)∧e.length≤9000000000000∧f.length≤9000000000000∧(∀ x∈e,JU n x)∧∀ g∈f,JU n g.typ
theorem dF {α β:Type}{p:β→α→β}{l:List α}{i:Nat}{x:α}(h:l[i]? = some x)(b:β):(l.take (i+1)).foldl p b=p ((l.take i).foldl p b) x:=by rw[aI h,List.foldl_append];rfl
set_option maxHeartbeats 4000000 in
theorem eR:∀ (n:Nat) (t:Typ),JU n t→ag Tryz.prog aD 124 [t.pv] (.int .i64 (b9 n t))
 | 0,_,h=>h.elim
 | n+1,.mk k m M s w e f,h=>by
   have ih:=eR n
   simp only[JU] at h
   obtain⟨h1,hel,hfl,he,hf⟩:=h
   have hle:=go 9 _ h1
   simp only[b9]
   generalize bQ 9 (.mk k m M s w e f)=z at *
   simp only[Typ.pv_mk] at hle
   obtain⟨Q,hQ⟩:∃ Q,Q=fun (a:Int) (x:Typ)=>max a (b9 n x):=⟨_,rfl⟩
   obtain⟨R,hR⟩:∃ R,R=fun (a:Int) (x:TFd)=>max a (b9 n x.typ):=⟨_,rfl⟩
   rw[← hQ,← hR]
   refine ag.intro Hx (by simp[Nk]) ?_
   simp(maxSteps:=9^7) (disch:=try exact dI) only[Nk,Typ.pv_mk,push_cast,seval]
   refine ab.pure hle rfl ?_
   simp(maxSteps:=9^7) (disch:=try exact dI) only[push_cast,seval]
   refine aw ([]) (fun i:Nat=>[(3,.pv (.int .i64 ((e.take i).foldl Q z))),(13,.pv (.int .i64 (i:Int)))]) (fun _=>[]) (fun i=>i≤e.length) (fun i=>e.length - i) (0) ?_;intro e0 σ0 n0 h0;simp(maxSteps:=9^7) (disch:=try exact dI) only[push_cast,seval] at h0;obtain⟨rfl,rfl,rfl⟩:=h0;refine⟨?_,?_,?_⟩
   ·simp(maxSteps:=9^7) (disch:=try exact dI) only[List.take_zero,List.foldl_nil,push_cast,seval]
   ·omega
   rintro i hi
   by_cases hlt:i<e.length
   ·have hltI:(i:Int)<(e.length:Int):=by omega
    obtain⟨x,hx⟩:∃ x,e[i]? = some x:=⟨_,List.getElem?_eq_getElem hlt⟩
    have hc:=ih x (he x (List.mem_of_getElem? hx))
    have hst:=dF (p:=Q) hx z
    rw[show Q ((e.take i).foldl Q z) x=max ((e.take i).foldl Q z) (b9 n x) by rw[hQ]] at hst
    generalize b9 n x=y at hc hst
    obtain⟨k',m',M',s',w',e',f'⟩:=x
    simp only[Typ.pv_mk] at hc
    simp(maxSteps:=9^7) (disch:=try exact dI) only[hx,Option.map_some,Typ.pv_mk,ae,push_cast,seval]
    refine ab.pure hc rfl ?_
    simp(maxSteps:=9^7) (disch:=try exact dI) only[push_cast,seval]
    exact⟨i+1,aT (by simp(maxSteps:=9^7) (disch:=try exact dI) only[hst,push_cast,seval]),by omega,by omega⟩
   obtain rfl:i=e.length:=by omega
   clear hi hlt
   rw[List.take_length]
   generalize e.foldl Q z=z2
   simp(maxSteps:=9^7) (disch:=try exact dI) only[Int.lt_irrefl,push_cast,seval]
   refine aw ([]) (fun i:Nat=>[(3,.pv (.int .i64 ((f.take i).foldl R z2))),(25,.pv (.int .i64 (i:Int)))]) (fun _=>[]) (fun i=>i≤f.length) (fun i=>f.length - i) (0) ?_;intro e0 σ0 n0 h0;simp(maxSteps:=9^7) (disch:=try exact dI) only[push_cast,seval] at h0;obtain⟨rfl,rfl,rfl⟩:=h0;refine⟨?_,?_,?_⟩
   ·simp(maxSteps:=9^7) (disch:=try exact dI) only[List.take_zero,List.foldl_nil,push_cast,seval]
   ·omega
   rintro i hi
   by_cases hlt:i<f.length
   ·have hltI:(i:Int)<(f.length:Int):=by omega
    obtain⟨x,hx⟩:∃ x,f[i]? = some x:=⟨_,List.getElem?_eq_getElem hlt⟩
    have hc:=ih x.typ (hf x (List.mem_of_getElem? hx))
    have hst:=dF (p:=R) hx z2
    rw[show R ((f.take i).foldl R z2) x=max ((f.take i).foldl R z2) (b9 n x.typ) by rw[hR]] at hst
    generalize b9 n x.typ=y at hc hst
    obtain⟨n',nm',nd',⟨k',m',M',s',w',e',f'⟩,d'⟩:=x
    simp only[TFd.typ,Typ.pv_mk] at hc
    simp(maxSteps:=9^7) (disch:=try exact dI) only[hx,Option.map_some,Typ.pv_mk,TFd.pv_mk,ae,push_cast,seval]
    refine ab.pure hc rfl ?_
    simp(maxSteps:=9^7) (disch:=try exact dI) only[push_cast,seval]
    exact⟨i+1,aT (by simp(maxSteps:=9^7) (disch:=try exact dI) only[hst,push_cast,seval]),by omega,by omega⟩
   obtain rfl:i=f.length:=by omega
   clear hi hlt
   rw[List.take_length]
   simp(maxSteps:=9^7) (disch:=try exact dI) only[Int.lt_irrefl,push_cast,seval]
end Go.Proofs.YtbojpfpliibfbaaGreatDoor
