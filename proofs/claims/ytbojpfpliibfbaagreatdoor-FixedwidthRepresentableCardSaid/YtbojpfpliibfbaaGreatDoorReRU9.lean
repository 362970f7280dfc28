/- A part of the proof for FixedwidthRepresentableCardSaid. -/
import Derived.Test.YtbojpfpliibfbaaGreatDoorReRU7
import Derived.Test.YtbojpfpliibfbaaGreatDoorReF
set_option maxRecDepth 100000
set_option linter.unusedVariables false
set_option linter.unusedSimpArgs false
-- many steps
namespace Go.Proofs.YtbojpfpliibfbaaGreatDoor
open Go Go.Ab
attribute [local irreducible] vc
noncomputable def bR:Nat→Typ→Int
 | 0,_=>1
 | n+1,.mk k m _ _ _ e f=>min (1+bT (bR n) k m e f) 5000
def dc:Nat→Typ→Prop
 | 0,_=>False
 | n+1,.mk k m _ _ _ e f=>(k=8→0<m→m≤256∧∃ x r,e=x::r∧dc n x)∧(k=10→∃ g r,f=g::r∧g.need=1∧dc n g.typ)∧(k=9→f.length≤64∧∀ g∈f,io (dc n) g)∧(¬ (k=9∨k=10)→f=[])
theorem oF {n:Nat}(hle:∀ t,dc n t→1≤bR n t∧bR n t≤5000){g:TFd}(hg:io (dc n) g):0≤fe (bR n) g∧fe (bR n) g≤1000000000000:=by
 obtain⟨a,b,nd,t,d⟩:=g
 simp only[fe,io] at hg ⊢
 by_cases h1:nd=1
 ·rw[if_pos h1];have:=hle t (hg.1 h1);omega
 ·rw[if_neg h1]
  by_cases h3:nd=3
  ·obtain⟨x,r,rfl,hx⟩:=hg.2 h3
   rw[if_pos h3]
   have:=hx.2
   simp only[HG];omega
  ·rw[if_neg h3];omega
theorem eH:∀ (n:Nat) (t:Typ),dc n t→1≤bR n t∧bR n t≤5000
 | 0,_,h=>h.elim
 | n+1,.mk k m M s w e f,h=>by
   simp only[bR,dc] at h ⊢
   obtain⟨h8,h10,h9,_⟩:=h
   refine⟨?_,by omega⟩
   have key:0≤bT (bR n) k m e f:=by
    unfold bT
    split
    ·split
     ·rename_i e1 e2
      obtain⟨_,x,r,rfl,hx⟩:=h8 e1 e2
      have:=eH n x hx
      exact Int.mul_nonneg (by omega) (by simp only[wj];omega)
     ·omega
    ·split
     ·rename_i e1 e2
      obtain⟨g,r,rfl,_,hx⟩:=h10 e2
      have:=eH n g.typ hx
      obtain⟨a,b,c,t,d⟩:=g
      simp only[wk,TFd.typ] at this ⊢;omega
     ·split
      ·rename_i e1
       exact (hZ f fun g hg=>oF (eH n) ((h9 e1).2 g hg)).1
      ·omega
   omega
set_option maxHeartbeats 4000000 in
theorem pa:∀ (n:Nat) (t:Typ),dc n t→ag Tryz.prog aD 127 [t.pv] (.int .i64 (bR n t))
 | 0,_,h=>h.elim
 | n+1,.mk k m M s w e f,h=>by
   have ih:=pa n
   have hle:=eH n
   have hpos:∀ g,io (dc n) g→0≤fe (bR n) g∧fe (bR n) g≤1000000000000:=fun g hg=>oF hle hg
   simp only[dc] at h
   obtain⟨h8,h10,h9,hf⟩:=h
   simp only[bR]
   generalize bR n=L at *
   refine ag.intro Hv (by simp[Hw]) ?_
   by_cases hk8:k=8
   ·subst hk8
    obtain rfl:=hf (by omega)
    by_cases hm:0<m
    ·obtain⟨hm2,x,r,rfl,hx⟩:=h8 rfl hm
     have hc:=ih x hx
     have hl:=hle x hx
     obtain⟨k',m',M',s',w',e',f'⟩:=x
     simp only[Typ.pv_mk] at hc
     generalize hz:L (Typ.mk k' m' M' s' w' e' f')=z at hc hl
     have hmul:0≤m*z:=Int.mul_nonneg (by omega) (by omega)
     have hmul2:m*z≤256*5000:=Int.mul_le_mul hm2 hl.2 (by omega) (by omega)
     have hmm:bT L 8 m (Typ.mk k' m' M' s' w' e' f'::r) []=m*z:=by simp only[bT,wj,hz,if_pos hm,if_true]
     clear hz
     rw[hmm]
     simp(maxSteps:=9^7) (disch:=try exact dI) only[Hw,Typ.pv_mk,hm,aK,push_cast,seval]
     refine aA hc rfl ?_
     simp(maxSteps:=9^7) (disch:=try exact dI) only[push_cast,seval]
     refine aw ([]) (fun i:Nat=>[(4,.pv (.int .i64 (i:Int)))]) (fun _=>[]) (fun i=>i=0) (fun i=>1 - i) (0) ?_;intro e0 σ0 n0 h0;simp(maxSteps:=9^7) (disch:=try exact dI) only[push_cast,seval] at h0;obtain⟨rfl,rfl,rfl⟩:=h0;refine⟨?_,?_,?_⟩
     ·simp(maxSteps:=9^7) (disch:=try exact dI) only[push_cast,seval]
     ·rfl
     rintro i rfl
     simp(maxSteps:=9^7) (disch:=try exact dI) only[Int.lt_irrefl,push_cast,seval]
    ·rw[show bT L 8 m e []=0 by simp only[bT,if_neg hm,if_true]]
     simp(maxSteps:=9^7) (disch:=try exact dI) only[Hw,Typ.pv_mk,hm,push_cast,seval]
     refine aw ([]) (fun i:Nat=>[(4,.pv (.int .i64 (i:Int)))]) (fun _=>[]) (fun i=>i=0) (fun i=>1 - i) (0) ?_;intro e0 σ0 n0 h0;simp(maxSteps:=9^7) (disch:=try exact dI) only[push_cast,seval] at h0;obtain⟨rfl,rfl,rfl⟩:=h0;refine⟨?_,?_,?_⟩
     ·simp(maxSteps:=9^7) (disch:=try exact dI) only[push_cast,seval]
     ·rfl
     rintro i rfl
     simp(maxSteps:=9^7) (disch:=try exact dI) only[Int.lt_irrefl,push_cast,seval]
   by_cases hk10:k=10
   ·subst hk10
    obtain⟨g,r,rfl,hnd,hx⟩:=h10 rfl
    have hc:=ih _ hx
    have hl:=hle _ hx
    obtain⟨n',nm',nd',⟨k',m',M',s',w',e',f'⟩,d'⟩:=g
    simp only[TFd.typ,TFd.need] at hc hl hnd
    subst hnd
    simp only[Typ.pv_mk] at hc
    generalize hz:L (Typ.mk k' m' M' s' w' e' f')=z at hc hl
    have hmm:bT L 10 m e (TFd.mk n' nm' 1 (Typ.mk k' m' M' s' w' e' f') d'::r)=z:=by simp[bT,wk,hz]
    clear hz
    rw[hmm]
    have hg:(TFd.mk n' nm' 1 (Typ.mk k' m' M' s' w' e' f') d'::r)[0]? = some (TFd.mk n' nm' 1 (Typ.mk k' m' M' s' w' e' f') d'):=rfl
    generalize hf0:TFd.mk n' nm' 1 (Typ.mk k' m' M' s' w' e' f') d'::r=f at *
    have h0:(0:Int)<(f.length:Int):=by rw[← hf0,List.length_cons];omega
    clear hf0
    simp(maxSteps:=9^7) (disch:=try exact dI) only[Hw,Typ.pv_mk,push_cast,seval]
    refine aw ([]) (fun x:Nat×Int=>[(3,.pv (.int .i64 x.2)),(4,.pv (.int .i64 (x.1:Int)))]) (fun _=>[]) (fun x=>x=(0,1)∨x=(1,1+z)) (fun x=>2 - x.1) ((0,1)) ?_;intro e0 σ0 n0 h0;simp(maxSteps:=9^7) (disch:=try exact dI) only[push_cast,seval] at h0;obtain⟨rfl,rfl,rfl⟩:=h0;refine⟨?_,?_,?_⟩
    ·simp(maxSteps:=9^7) (disch:=try exact dI) only[push_cast,seval]
    ·exact .inl rfl
    rintro x (rfl | rfl)
    ·simp(maxSteps:=9^7) (disch:=try exact dI) only[hg,Option.map_some,TFd.pv_mk,Typ.pv_mk,ae,h0,aK,push_cast,seval]
     refine ab.pure hc rfl ?_
     simp(maxSteps:=9^7) (disch:=try exact dI) only[push_cast,seval]
     exact⟨(1,1+z),aT qsZ,.inr rfl,by simp only;omega⟩
    ·by_cases h1:(1:Int)<(f.length:Int)
     ·simp(maxSteps:=9^7) (disch:=try exact dI) only[h1,push_cast,seval]
     ·simp(maxSteps:=9^7) (disch:=try exact dI) only[h1,push_cast,seval]
   by_cases hk9:k=9
   ·subst hk9
    obtain⟨hf,hr⟩:=h9 rfl
    rw[show bT L 9 m e f=(f.map (fe L)).sum by simp[bT]]
    have hrp:∀ g∈f,0≤fe L g∧fe L g≤1000000000000:=fun g hg=>hpos g (hr g hg)
    simp(maxSteps:=9^7) (disch:=try exact dI) only[Hw,Typ.pv_mk,push_cast,seval]
    refine aw ([]) (fun i:Nat=>[(3,.pv (.int .i64 (1+((f.take i).map (fe L)).sum))),(4,.pv (.int .i64 (i:Int)))]) (fun _=>[]) (fun i=>i≤f.length) (fun i=>f.length - i) (0) ?_;intro e0 σ0 n0 h0;simp(maxSteps:=9^7) (disch:=try exact dI) only[push_cast,seval] at h0;obtain⟨rfl,rfl,rfl⟩:=h0;refine⟨?_,?_,?_⟩
    ·simp(maxSteps:=9^7) (disch:=try exact dI) only[List.take_zero,List.map_nil,List.sum_nil,push_cast,seval]
    ·omega
    rintro i hi
    have hsm:=hZ (f.take i) fun g hg=>hrp g (List.mem_of_mem_take hg)
    rw[List.length_take] at hsm
    by_cases hlt:i<f.length
    ·have hltI:(i:Int)<(f.length:Int):=by omega
     obtain⟨g,hg⟩:∃ g,f[i]? = some g:=⟨_,List.getElem?_eq_getElem hlt⟩
     have hst:=oy (p:=fe L) hg
     have hgr:=hr g (List.mem_of_getElem? hg)
     have hgp:=hrp g (List.mem_of_getElem? hg)
     obtain⟨n',nm',nd',⟨k',m',M',s',w',e',f'⟩,d'⟩:=g
     simp only[io] at hgr
     generalize hS:((f.take i).map (fe L)).sum=S at *
     by_cases h1:nd'=1
     ·subst h1
      have hc:=ih _ (hgr.1 rfl)
      simp only[Typ.pv_mk] at hc
      simp only[fe,if_true] at hst hgp
      generalize L (Typ.mk k' m' M' s' w' e' f')=z at hc hst hgp
      simp(maxSteps:=9^7) (disch:=try exact dI) only[hg,Option.map_some,TFd.pv_mk,Typ.pv_mk,ae,push_cast,seval]
      refine ab.pure hc rfl ?_
      simp(maxSteps:=9^7) (disch:=try exact dI) only[push_cast,seval]
      exact⟨i+1,aT (by simp(maxSteps:=9^7) (disch:=try exact dI) only[hst,Int.add_assoc,push_cast,seval]),by omega,by omega⟩
     ·by_cases h3:nd'=3
      ·subst h3
       obtain⟨x,r,rfl,hx⟩:=hgr.2 rfl
       have hc:=tO (lvl x) x (eE x) hx.1 (by have:=hx.2;rw[nA] at this;omega)
       simp only[fe,if_neg h1,if_true,HG,nA] at hst hgp
       generalize (szN (lvl x) x:Int)=z at hc hst hgp
       obtain⟨vk,vn,vs,vt,vl,vf⟩:=x
       simp only[Val.pv_mk] at hc
       simp(maxSteps:=9^7) (disch:=try exact dI) only[hg,Option.map_some,TFd.pv_mk,Typ.pv_mk,ae,aK,Val.pv_mk,push_cast,seval]
       refine ab.pure hc rfl ?_
       simp(maxSteps:=9^7) (disch:=try exact dI) only[push_cast,seval]
       exact⟨i+1,aT (by simp(maxSteps:=9^7) (disch:=try exact dI) only[hst,Int.add_assoc,push_cast,seval]),by omega,by omega⟩
      ·simp only[fe,if_neg h1,if_neg h3] at hst
       simp(maxSteps:=9^7) (disch:=try exact dI) only[hg,Option.map_some,TFd.pv_mk,Typ.pv_mk,ae,h1,h3,push_cast,seval]
       exact⟨i+1,aT (by simp(maxSteps:=9^7) (disch:=try exact dI) only[hst,Int.add_zero,push_cast,seval]),by omega,by omega⟩
    ·have he:i=f.length:=by omega
     subst he
     rw[List.take_length] at hsm ⊢
     simp(maxSteps:=9^7) (disch:=try exact dI) only[Int.lt_irrefl,push_cast,seval]
   ·obtain rfl:=hf (by omega)
    rw[show bT L k m e []=0 by simp[bT,hk8,hk9,hk10]]
    simp(maxSteps:=9^7) (disch:=try exact dI) only[Hw,Typ.pv_mk,push_cast,seval]
    refine aw ([]) (fun i:Nat=>[(4,.pv (.int .i64 (i:Int)))]) (fun _=>[]) (fun i=>i=0) (fun i=>1 - i) (0) ?_;intro e0 σ0 n0 h0;simp(maxSteps:=9^7) (disch:=try exact dI) only[push_cast,seval] at h0;obtain⟨rfl,rfl,rfl⟩:=h0;refine⟨?_,?_,?_⟩
    ·simp(maxSteps:=9^7) (disch:=try exact dI) only[push_cast,seval]
    ·rfl
    rintro i rfl
    simp(maxSteps:=9^7) (disch:=try exact dI) only[Int.lt_irrefl,push_cast,seval]
end Go.Proofs.YtbojpfpliibfbaaGreatDoor
-- many steps
namespace Go.Proofs.YtbojpfpliibfbaaGreatDoor
open Go Go.Ab
attribute [local irreducible] vc
noncomputable def cu:Nat→Typ→Int
 | 0,_=>0
 | n+1,.mk k m M s w e f=>f.foldl (fun a g=>max a (cu n g.typ)) (e.foldl (fun a x=>max a (cu n x)) (bR 9 (.mk k m M s w e f)))
def Gb:Nat→Typ→Prop
 | 0,_=>False
 | n+1,.mk k m M s w e f=>dc 9 (.mk k m M s w e f)∧e.length≤9000000000000∧f.length≤9000000000000∧(∀ x∈e,Gb n x)∧∀ g∈f,Gb n g.typ
set_option maxHeartbeats 4000000 in
theorem jM:∀ (n:Nat) (t:Typ),Gb n t→ag Tryz.prog aD 72 [t.pv] (.int .i64 (cu n t))
 | 0,_,h=>h.elim
 | n+1,.mk k m M s w e f,h=>by
   have ih:=jM n
   simp only[Gb] at h
   obtain⟨h1,hel,hfl,he,hf⟩:=h
   have hle:=pa 9 _ h1
   simp only[cu]
   generalize bR 9 (.mk k m M s w e f)=z at *
   simp only[Typ.pv_mk] at hle
   obtain⟨Q,hQ⟩:∃ Q,Q=fun (a:Int) (x:Typ)=>max a (cu n x):=⟨_,rfl⟩
   obtain⟨R,hR⟩:∃ R,R=fun (a:Int) (x:TFd)=>max a (cu n x.typ):=⟨_,rfl⟩
   rw[← hQ,← hR]
   refine ag.intro Kj (by simp[F72]) ?_
   simp(maxSteps:=9^7) (disch:=try exact dI) only[F72,Typ.pv_mk,push_cast,seval]
   refine ab.pure hle rfl ?_
   simp(maxSteps:=9^7) (disch:=try exact dI) only[push_cast,seval]
   refine aw ([]) (fun i:Nat=>[(3,.pv (.int .i64 ((e.take i).foldl Q z))),(4,.pv (.int .i64 (i:Int)))]) (fun _=>[]) (fun i=>i≤e.length) (fun i=>e.length - i) (0) ?_;intro e0 σ0 n0 h0;simp(maxSteps:=9^7) (disch:=try exact dI) only[push_cast,seval] at h0;obtain⟨rfl,rfl,rfl⟩:=h0;refine⟨?_,?_,?_⟩
   ·simp(maxSteps:=9^7) (disch:=try exact dI) only[List.take_zero,List.foldl_nil,push_cast,seval]
   ·omega
   rintro i hi
   by_cases hlt:i<e.length
   ·have hltI:(i:Int)<(e.length:Int):=by omega
    obtain⟨x,hx⟩:∃ x,e[i]? = some x:=⟨_,List.getElem?_eq_getElem hlt⟩
    have hc:=ih x (he x (List.mem_of_getElem? hx))
    have hst:=dF (p:=Q) hx z
    rw[show Q ((e.take i).foldl Q z) x=max ((e.take i).foldl Q z) (cu n x) by rw[hQ]] at hst
    generalize cu n x=y at hc hst
    obtain⟨k',m',M',s',w',e',f'⟩:=x
    simp only[Typ.pv_mk] at hc
    simp(maxSteps:=9^7) (disch:=try exact dI) only[hx,Option.map_some,Typ.pv_mk,ae,push_cast,seval]
    refine ab.pure hc rfl ?_
    simp(maxSteps:=9^7) (disch:=try exact dI) only[push_cast,seval]
    exact⟨i+1,aT (by simp(maxSteps:=9^7) (disch:=try exact dI) only[hst,push_cast,seval]),by omega,by omega⟩
   obtain rfl:i=e.length:=by omega
   clear hi hlt
   rw[List.take_length]
   generalize e.foldl Q z=z2
   simp(maxSteps:=9^7) (disch:=try exact dI) only[Int.lt_irrefl,push_cast,seval]
   refine aw ([]) (fun i:Nat=>[(3,.pv (.int .i64 ((f.take i).foldl R z2))),(5,.pv (.int .i64 (i:Int)))]) (fun _=>[]) (fun i=>i≤f.length) (fun i=>f.length - i) (0) ?_;intro e0 σ0 n0 h0;simp(maxSteps:=9^7) (disch:=try exact dI) only[push_cast,seval] at h0;obtain⟨rfl,rfl,rfl⟩:=h0;refine⟨?_,?_,?_⟩
   ·simp(maxSteps:=9^7) (disch:=try exact dI) only[List.take_zero,List.foldl_nil,push_cast,seval]
   ·omega
   rintro i hi
   by_cases hlt:i<f.length
   ·have hltI:(i:Int)<(f.length:Int):=by omega
    obtain⟨x,hx⟩:∃ x,f[i]? = some x:=⟨_,List.getElem?_eq_getElem hlt⟩
    have hc:=ih x.typ (hf x (List.mem_of_getElem? hx))
    have hst:=dF (p:=R) hx z2
    rw[show R ((f.take i).foldl R z2) x=max ((f.take i).foldl R z2) (cu n x.typ) by rw[hR]] at hst
    generalize cu n x.typ=y at hc hst
    obtain⟨n',nm',nd',⟨k',m',M',s',w',e',f'⟩,d'⟩:=x
    simp only[TFd.typ,Typ.pv_mk] at hc
    simp(maxSteps:=9^7) (disch:=try exact dI) only[hx,Option.map_some,Typ.pv_mk,TFd.pv_mk,ae,push_cast,seval]
    refine ab.pure hc rfl ?_
    simp(maxSteps:=9^7) (disch:=try exact dI) only[push_cast,seval]
    exact⟨i+1,aT (by simp(maxSteps:=9^7) (disch:=try exact dI) only[hst,push_cast,seval]),by omega,by omega⟩
   obtain rfl:i=f.length:=by omega
   clear hi hlt
   rw[List.take_length]
   simp(maxSteps:=9^7) (disch:=try exact dI) only[Int.lt_irrefl,push_cast,seval]
end Go.Proofs.YtbojpfpliibfbaaGreatDoor
-- many steps
namespace Go.Proofs.YtbojpfpliibfbaaGreatDoor
open Go Go.Ab
attribute [local irreducible] vc
theorem pw:∀ (n:Nat) (v:Val),cL n v→cL (n+1) v
 | 0,_,h=>h.elim
 | n+1,v,h=>fun x hx=>pw n x (h x hx)
theorem fY {α β:Type}{p q:α→List β}:∀ (l:List α),(∀ x∈l,p x=q x)→l.flatMap p=l.flatMap q
 | [],_=>rfl
 | x::r,h=>by rw[List.flatMap_cons,List.flatMap_cons,h x (List.mem_cons_self ..),fY r fun y hy=>h y (List.mem_cons_of_mem _ hy)]
theorem uJ:∀ (n:Nat) (lv:Int) (v:Val),cL n v→cy (n+1) lv v=cy n lv v
 | 0,_,_,h=>h.elim
 | n+1,lv,v,h=>by
   rw[cy,cy]
   congr 1
   exact fY _ fun x hx=>uJ n (Go.RowKit.wrap64 (lv+1)) x (h x hx)
def gy (n:Nat)(S:List (Int×Val)):List (Int×Val):=S.reverse.flatMap fun q=>cy n q.1 q.2
theorem zy (n:Nat)(S:List (Int×Val))(q:Int×Val):gy n (S++[q])=cy n q.1 q.2++gy n S:=by
 simp[gy]
def qQ (q:Int×Val):List (Int×Val):=(a8 q.2).reverse.map fun x=>(Go.RowKit.wrap64 (q.1+1),x)
theorem tZ (n:Nat)(S:List (Int×Val))(q:Int×Val)(h:cL (n+1) q.2):gy (n+1) (S++[q])=q::gy (n+1) (S++qQ q):=by
 rw[zy]
 obtain⟨lv,v⟩:=q
 rw[cy,List.cons_append]
 congr 1
 simp only[gy,qQ,List.reverse_append,List.flatMap_append,List.map_reverse,List.reverse_reverse,List.flatMap_map]
 congr 1
 exact fY _ fun x hx=>(uJ n (Go.RowKit.wrap64 (lv+1)) x (h x hx)).symm
theorem uH {n:Nat}{q x:Int×Val}(h:cL (n+1) q.2)(hx:x∈qQ q):cL (n+1) x.2:=by
 obtain⟨y,hy,rfl⟩:=List.mem_map.1 hx
 exact pw n y (h y (List.mem_reverse.1 hy))
theorem zc (c:Nat)(q:Int×Val):aX c q=if 4096≤c then 9 else if 8<q.1 then 23 else fu q.2:=by
 unfold aX fu
 rfl
theorem Cf (n:Nat)(S:List (Int×Val))(q:Int×Val)(c:Nat)(h:cL (n+1) q.2):gY c (gy (n+1) (S++[q]))=if aX c q=0 then gY (c+1) (gy (n+1) (S++qQ q)) else aX c q:=by
 rw[tZ n S q h,gY]
end Go.Proofs.YtbojpfpliibfbaaGreatDoor
-- many steps
namespace Go.Proofs.YtbojpfpliibfbaaGreatDoor
open Go Go.Ab
attribute [local irreducible] vc
def iK:Int×Val→PV
 | (lv,.mk k n s t l f)=>.agg [.int .i64 k,.int .i64 n,.int .i64 s,.str t,.list (l.map Val.pv),.list (f.map Fld.pv),.int .i64 lv]
theorem pc (q:Int×Val):(iK q).cells.length=7:=by obtain⟨lv,⟨k,n,s,t,l,f⟩⟩:=q;rfl
theorem Bz (q:Int×Val):iK q = .agg (iK q).cells:=by obtain⟨lv,⟨k,n,s,t,l,f⟩⟩:=q;rfl
def nk (S:List (Int×Val)):List PV:=S.flatMap fun q=>(iK q).cells
theorem gP (S T:List (Int×Val)):nk (S++T)=nk S++nk T:=by simp[nk]
theorem fj (q:Int×Val):nk [q]=(iK q).cells:=by simp[nk]
theorem fk:∀ (S:List (Int×Val)),(nk S).length=S.length*7
 | []=>rfl
 | q::r=>by
   rw[show q::r=[q]++r from rfl,gP,List.length_append,fk r,fj,pc]
   simp;omega
theorem pvs_map:∀ (l:List PV),pvs (l.map AV.pv)=some l
 | []=>rfl
 | x::r=>by rw[List.map_cons,kr];rw[pvs_map r];rfl
theorem uO (S:List (Int×Val))(q:Int×Val)(J:List PV):EV 7 (S.length*7) ((nk (S++[q])++J).map AV.pv)=some (.pv (iK q)):=by
 rw[← uP]
 unfold dk
 simp only
 rw[if_pos (by rw[List.length_map,List.length_append,fk,List.length_append];simp;omega)]
 rw[← List.map_drop,← List.map_take,gP,List.append_assoc,List.drop_left' (fk S),List.take_left' (by rw[fj,pc]),fj,vJ,pvs_map,iF,← Bz]
theorem Cn {new r len:Nat}{f:Bool}{S:List (Int×Val)}{J:List PV}{y:PV}(h:S.length=len)(hl:len≤2000000):xP 234 7 96 new r 7 0 len [y] (.cells 234 f ((nk S++J).map AV.pv))=some (.row new 7 0 (len+1),[(r,.none),(new,.cells 234 false ((nk S++y.cells).map AV.pv))]):=by
 subst h
 rw[pP (by rw[List.length_map,List.length_append,fk];omega) (by simp;omega) (by simp;omega),← List.map_take,List.take_left' (fk S),List.map_append]
 simp[eh]
end Go.Proofs.YtbojpfpliibfbaaGreatDoor
