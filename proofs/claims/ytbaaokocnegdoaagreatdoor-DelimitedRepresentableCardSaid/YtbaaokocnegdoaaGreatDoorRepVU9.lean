/- A part of the proof for DelimitedRepresentableCardSaid. -/
import Derived.Test.YtbaaokocnegdoaaGreatDoorRepVU7
import Derived.Test.YtbaaokocnegdoaaGreatDoorRepF
set_option maxRecDepth 100000
set_option linter.unusedVariables false
set_option linter.unusedSimpArgs false
-- many steps
namespace Go.Proofs.YtbaaokocnegdoaaGreatDoor
open Go Go.Ab
attribute [local irreducible] vc
def bP:Nat→Typ→Int
 | 0,_=>1
 | n+1,.mk k m _ _ _ e f=>min (1+bR (bP n) k m e f) 5000
def dc:Nat→Typ→Prop
 | 0,_=>False
 | n+1,.mk k m _ _ _ e f=>(k=8→0<m→m≤256∧∃ x r,e=x::r∧dc n x)∧(k=10→∃ g r,f=g::r∧g.need=1∧dc n g.typ)∧(k=9→f.length≤64∧∀ g∈f,iG (dc n) g)∧(¬ (k=9∨k=10)→f=[])
theorem pK {n:Nat}(hle:∀ t,dc n t→1≤bP n t∧bP n t≤5000){g:TFd}(hg:iG (dc n) g):0≤fh (bP n) g∧fh (bP n) g≤1000000000000:=by
 obtain⟨a,b,nd,t,d⟩:=g
 simp only[fh,iG] at hg ⊢
 by_cases h1:nd=1
 ·rw[if_pos h1];have:=hle t (hg.1 h1);omega
 ·rw[if_neg h1]
  by_cases h3:nd=3
  ·obtain⟨x,r,rfl,hx⟩:=hg.2 h3
   rw[if_pos h3]
   have:=hx.2.2
   simp only[Jn];omega
  ·rw[if_neg h3];omega
theorem eH:∀ (n:Nat) (t:Typ),dc n t→1≤bP n t∧bP n t≤5000
 | 0,_,h=>h.elim
 | n+1,.mk k m M s w e f,h=>by
   simp only[bP,dc] at h ⊢
   obtain⟨h8,h10,h9,_⟩:=h
   refine⟨?_,by omega⟩
   have key:0≤bR (bP n) k m e f:=by
    unfold bR
    split
    ·split
     ·rename_i e1 e2
      obtain⟨_,x,r,rfl,hx⟩:=h8 e1 e2
      have:=eH n x hx
      exact Int.mul_nonneg (by omega) (by simp only[yq];omega)
     ·omega
    ·split
     ·rename_i e1 e2
      obtain⟨g,r,rfl,_,hx⟩:=h10 e2
      have:=eH n g.typ hx
      obtain⟨a,b,c,t,d⟩:=g
      simp only[yr,TFd.typ] at this ⊢;omega
     ·split
      ·rename_i e1
       exact (ir f fun g hg=>pK (eH n) ((h9 e1).2 g hg)).1
      ·omega
   omega
set_option maxHeartbeats 4000000 in
theorem pZ:∀ (n:Nat) (t:Typ),dc n t→ak Tryz.prog aD 150 [t.pv] (.int .i64 (bP n t))
 | 0,_,h=>h.elim
 | n+1,.mk k m M s w e f,h=>by
   have ih:=pZ n
   have hle:=eH n
   have hpos:∀ g,iG (dc n) g→0≤fh (bP n) g∧fh (bP n) g≤1000000000000:=fun g hg=>pK hle hg
   simp only[dc] at h
   obtain⟨h8,h10,h9,hf⟩:=h
   simp only[bP]
   generalize bP n=L at *
   refine ak.intro Jd (by simp[Je]) ?_
   by_cases hk8:k=8
   ·subst hk8
    obtain rfl:=hf (by omega)
    by_cases hm:0<m
    ·obtain⟨hm2,x,r,rfl,hx⟩:=h8 rfl hm
     have hc:=ih x hx
     have hl:=hle x hx
     obtain⟨k',m',M',s',w',e',f'⟩:=x
     simp only[Typ.pv_mk] at hc
     generalize hz:L (Typ.mk k' m' M' s' w' e' f')=z at hc hl
     have hmul:0≤m*z:=Int.mul_nonneg (by omega) (by omega)
     have hmul2:m*z≤256*5000:=Int.mul_le_mul hm2 hl.2 (by omega) (by omega)
     have hmm:bR L 8 m (Typ.mk k' m' M' s' w' e' f'::r) []=m*z:=by simp only[bR,yq,hz,if_pos hm,if_true]
     clear hz
     rw[hmm]
     simp(maxSteps:=9^7) (disch:=first|exact dI|fail) only[Je,Typ.pv_mk,hm,aO,push_cast,seval]
     refine aF hc rfl ?_
     simp(maxSteps:=9^7) (disch:=first|exact dI|fail) only[push_cast,seval]
     refine aB ([]) (fun i:Nat=>[(4,.pv (.int .i64 (i:Int)))]) (fun _=>[]) (fun i=>i=0) (fun i=>1 - i) (0) ?_;intro e0 σ0 n0 h0;simp(maxSteps:=9^7) (disch:=first|exact dI|fail) only[push_cast,seval] at h0;obtain⟨rfl,rfl,rfl⟩:=h0;refine⟨?_,?_,?_⟩
     ·simp(maxSteps:=9^7) (disch:=first|exact dI|fail) only[push_cast,seval]
     ·rfl
     rintro i rfl
     simp(maxSteps:=9^7) (disch:=first|exact dI|fail) only[Int.lt_irrefl,push_cast,seval]
    ·rw[show bR L 8 m e []=0 by simp only[bR,if_neg hm,if_true]]
     simp(maxSteps:=9^7) (disch:=first|exact dI|fail) only[Je,Typ.pv_mk,hm,push_cast,seval]
     refine aB ([]) (fun i:Nat=>[(4,.pv (.int .i64 (i:Int)))]) (fun _=>[]) (fun i=>i=0) (fun i=>1 - i) (0) ?_;intro e0 σ0 n0 h0;simp(maxSteps:=9^7) (disch:=first|exact dI|fail) only[push_cast,seval] at h0;obtain⟨rfl,rfl,rfl⟩:=h0;refine⟨?_,?_,?_⟩
     ·simp(maxSteps:=9^7) (disch:=first|exact dI|fail) only[push_cast,seval]
     ·rfl
     rintro i rfl
     simp(maxSteps:=9^7) (disch:=first|exact dI|fail) only[Int.lt_irrefl,push_cast,seval]
   by_cases hk10:k=10
   ·subst hk10
    obtain⟨g,r,rfl,hnd,hx⟩:=h10 rfl
    have hc:=ih _ hx
    have hl:=hle _ hx
    obtain⟨n',nm',nd',⟨k',m',M',s',w',e',f'⟩,d'⟩:=g
    simp only[TFd.typ,TFd.need] at hc hl hnd
    subst hnd
    simp only[Typ.pv_mk] at hc
    generalize hz:L (Typ.mk k' m' M' s' w' e' f')=z at hc hl
    have hmm:bR L 10 m e (TFd.mk n' nm' 1 (Typ.mk k' m' M' s' w' e' f') d'::r)=z:=by simp[bR,yr,hz]
    clear hz
    rw[hmm]
    have hg:(TFd.mk n' nm' 1 (Typ.mk k' m' M' s' w' e' f') d'::r)[0]? = some (TFd.mk n' nm' 1 (Typ.mk k' m' M' s' w' e' f') d'):=rfl
    generalize hf0:TFd.mk n' nm' 1 (Typ.mk k' m' M' s' w' e' f') d'::r=f at *
    have h0:(0:Int)<(f.length:Int):=by rw[← hf0,List.length_cons];omega
    clear hf0
    simp(maxSteps:=9^7) (disch:=first|exact dI|fail) only[Je,Typ.pv_mk,push_cast,seval]
    refine aB ([]) (fun x:Nat×Int=>[(3,.pv (.int .i64 x.2)),(4,.pv (.int .i64 (x.1:Int)))]) (fun _=>[]) (fun x=>x=(0,1)∨x=(1,1+z)) (fun x=>2 - x.1) ((0,1)) ?_;intro e0 σ0 n0 h0;simp(maxSteps:=9^7) (disch:=first|exact dI|fail) only[push_cast,seval] at h0;obtain⟨rfl,rfl,rfl⟩:=h0;refine⟨?_,?_,?_⟩
    ·simp(maxSteps:=9^7) (disch:=first|exact dI|fail) only[push_cast,seval]
    ·exact .inl rfl
    rintro x (rfl | rfl)
    ·simp(maxSteps:=9^7) (disch:=first|exact dI|fail) only[hg,Option.map_some,TFd.pv_mk,Typ.pv_mk,ae,h0,aO,push_cast,seval]
     refine ab.pure hc rfl ?_
     simp(maxSteps:=9^7) (disch:=first|exact dI|fail) only[push_cast,seval]
     exact⟨(1,1+z),bg (by simp(maxSteps:=9^7) (disch:=first|exact dI|fail) only[push_cast,seval]),.inr rfl,by simp only;omega⟩
    ·by_cases h1:(1:Int)<(f.length:Int)
     ·simp(maxSteps:=9^7) (disch:=first|exact dI|fail) only[h1,push_cast,seval]
     ·simp(maxSteps:=9^7) (disch:=first|exact dI|fail) only[h1,push_cast,seval]
   by_cases hk9:k=9
   ·subst hk9
    obtain⟨hf,hr⟩:=h9 rfl
    rw[show bR L 9 m e f=(f.map (fh L)).sum by simp[bR]]
    have hrp:∀ g∈f,0≤fh L g∧fh L g≤1000000000000:=fun g hg=>hpos g (hr g hg)
    simp(maxSteps:=9^7) (disch:=first|exact dI|fail) only[Je,Typ.pv_mk,push_cast,seval]
    refine aB ([]) (fun i:Nat=>[(3,.pv (.int .i64 (1+((f.take i).map (fh L)).sum))),(4,.pv (.int .i64 (i:Int)))]) (fun _=>[]) (fun i=>i≤f.length) (fun i=>f.length - i) (0) ?_;intro e0 σ0 n0 h0;simp(maxSteps:=9^7) (disch:=first|exact dI|fail) only[push_cast,seval] at h0;obtain⟨rfl,rfl,rfl⟩:=h0;refine⟨?_,?_,?_⟩
    ·simp(maxSteps:=9^7) (disch:=first|exact dI|fail) only[List.take_zero,List.map_nil,List.sum_nil,push_cast,seval]
    ·omega
    rintro i hi
    have hsm:=ir (f.take i) fun g hg=>hrp g (List.mem_of_mem_take hg)
    rw[List.length_take] at hsm
    by_cases hlt:i<f.length
    ·have hltI:(i:Int)<(f.length:Int):=by omega
     obtain⟨g,hg⟩:∃ g,f[i]? = some g:=⟨_,List.getElem?_eq_getElem hlt⟩
     have hst:=pE (p:=fh L) hg
     have hgr:=hr g (List.mem_of_getElem? hg)
     have hgp:=hrp g (List.mem_of_getElem? hg)
     obtain⟨n',nm',nd',⟨k',m',M',s',w',e',f'⟩,d'⟩:=g
     simp only[iG] at hgr
     generalize hS:((f.take i).map (fh L)).sum=S at *
     by_cases h1:nd'=1
     ·subst h1
      have hc:=ih _ (hgr.1 rfl)
      simp only[Typ.pv_mk] at hc
      simp only[fh,if_true] at hst hgp
      generalize L (Typ.mk k' m' M' s' w' e' f')=z at hc hst hgp
      simp(maxSteps:=9^7) (disch:=first|exact dI|fail) only[hg,Option.map_some,TFd.pv_mk,Typ.pv_mk,ae,push_cast,seval]
      refine ab.pure hc rfl ?_
      simp(maxSteps:=9^7) (disch:=first|exact dI|fail) only[push_cast,seval]
      exact⟨i+1,bg (by simp(maxSteps:=9^7) (disch:=first|exact dI|fail) only[hst,Int.add_assoc,push_cast,seval]),by omega,by omega⟩
     ·by_cases h3:nd'=3
      ·subst h3
       obtain⟨x,r,rfl,hx⟩:=hgr.2 rfl
       have hc:=vG 9 x hx.1 hx.2.1 (by have:=hx.2.2;rw[kv] at this;omega)
       simp only[fh,if_neg h1,if_true,Jn,kv] at hst hgp
       generalize (szN 9 x:Int)=z at hc hst hgp
       obtain⟨vk,vn,vs,vt,vl,vf⟩:=x
       simp only[Val.pv_mk] at hc
       simp(maxSteps:=9^7) (disch:=first|exact dI|fail) only[hg,Option.map_some,TFd.pv_mk,Typ.pv_mk,ae,aO,Val.pv_mk,push_cast,seval]
       refine ab.pure hc rfl ?_
       simp(maxSteps:=9^7) (disch:=first|exact dI|fail) only[push_cast,seval]
       exact⟨i+1,bg (by simp(maxSteps:=9^7) (disch:=first|exact dI|fail) only[hst,Int.add_assoc,push_cast,seval]),by omega,by omega⟩
      ·simp only[fh,if_neg h1,if_neg h3] at hst
       simp(maxSteps:=9^7) (disch:=first|exact dI|fail) only[hg,Option.map_some,TFd.pv_mk,Typ.pv_mk,ae,h1,h3,push_cast,seval]
       exact⟨i+1,bg (by simp(maxSteps:=9^7) (disch:=first|exact dI|fail) only[hst,Int.add_zero,push_cast,seval]),by omega,by omega⟩
    ·have he:i=f.length:=by omega
     subst he
     rw[List.take_length] at hsm ⊢
     simp(maxSteps:=9^7) (disch:=first|exact dI|fail) only[Int.lt_irrefl,push_cast,seval]
   ·obtain rfl:=hf (by omega)
    rw[show bR L k m e []=0 by simp[bR,hk8,hk9,hk10]]
    simp(maxSteps:=9^7) (disch:=first|exact dI|fail) only[Je,Typ.pv_mk,push_cast,seval]
    refine aB ([]) (fun i:Nat=>[(4,.pv (.int .i64 (i:Int)))]) (fun _=>[]) (fun i=>i=0) (fun i=>1 - i) (0) ?_;intro e0 σ0 n0 h0;simp(maxSteps:=9^7) (disch:=first|exact dI|fail) only[push_cast,seval] at h0;obtain⟨rfl,rfl,rfl⟩:=h0;refine⟨?_,?_,?_⟩
    ·simp(maxSteps:=9^7) (disch:=first|exact dI|fail) only[push_cast,seval]
    ·rfl
    rintro i rfl
    simp(maxSteps:=9^7) (disch:=first|exact dI|fail) only[Int.lt_irrefl,push_cast,seval]
end Go.Proofs.YtbaaokocnegdoaaGreatDoor
set_option maxRecDepth 100000
set_option linter.unusedVariables false
set_option linter.unusedSimpArgs false
-- many steps
namespace Go.Proofs.YtbaaokocnegdoaaGreatDoor
open Go Go.Ab
attribute [local irreducible] vc
def cw:Nat→Typ→Int
 | 0,_=>0
 | n+1,.mk k m M s w e f=>f.foldl (fun a g=>max a (cw n g.typ)) (e.foldl (fun a x=>max a (cw n x)) (bP 9 (.mk k m M s w e f)))
def Ic:Nat→Typ→Prop
 | 0,_=>False
 | n+1,.mk k m M s w e f=>dc 9 (.mk k m M s w e f)∧e.length≤1000000000∧f.length≤1000000000∧(∀ x∈e,Ic n x)∧∀ g∈f,Ic n g.typ
set_option maxHeartbeats 4000000 in
theorem jU:∀ (n:Nat) (t:Typ),Ic n t→ak Tryz.prog aD 99 [t.pv] (.int .i64 (cw n t))
 | 0,_,h=>h.elim
 | n+1,.mk k m M s w e f,h=>by
   have ih:=jU n
   simp only[Ic] at h
   obtain⟨h1,hel,hfl,he,hf⟩:=h
   have hle:=pZ 9 _ h1
   simp only[cw]
   generalize bP 9 (.mk k m M s w e f)=z at *
   simp only[Typ.pv_mk] at hle
   obtain⟨Q,hQ⟩:∃ Q,Q=fun (a:Int) (x:Typ)=>max a (cw n x):=⟨_,rfl⟩
   obtain⟨R,hR⟩:∃ R,R=fun (a:Int) (x:TFd)=>max a (cw n x.typ):=⟨_,rfl⟩
   rw[← hQ,← hR]
   refine ak.intro LM (by simp[F99]) ?_
   simp(maxSteps:=9^7) (disch:=first|exact dI|fail) only[F99,Typ.pv_mk,push_cast,seval]
   refine ab.pure hle rfl ?_
   simp(maxSteps:=9^7) (disch:=first|exact dI|fail) only[push_cast,seval]
   refine aB ([]) (fun i:Nat=>[(3,.pv (.int .i64 ((e.take i).foldl Q z))),(4,.pv (.int .i64 (i:Int)))]) (fun _=>[]) (fun i=>i≤e.length) (fun i=>e.length - i) (0) ?_;intro e0 σ0 n0 h0;simp(maxSteps:=9^7) (disch:=first|exact dI|fail) only[push_cast,seval] at h0;obtain⟨rfl,rfl,rfl⟩:=h0;refine⟨?_,?_,?_⟩
   ·simp(maxSteps:=9^7) (disch:=first|exact dI|fail) only[List.take_zero,List.foldl_nil,push_cast,seval]
   ·omega
   rintro i hi
   by_cases hlt:i<e.length
   ·have hltI:(i:Int)<(e.length:Int):=by omega
    obtain⟨x,hx⟩:∃ x,e[i]? = some x:=⟨_,List.getElem?_eq_getElem hlt⟩
    have hc:=ih x (he x (List.mem_of_getElem? hx))
    have hst:=eI (p:=Q) hx z
    rw[show Q ((e.take i).foldl Q z) x=max ((e.take i).foldl Q z) (cw n x) by rw[hQ]] at hst
    generalize cw n x=y at hc hst
    obtain⟨k',m',M',s',w',e',f'⟩:=x
    simp only[Typ.pv_mk] at hc
    simp(maxSteps:=9^7) (disch:=first|exact dI|fail) only[hx,Option.map_some,Typ.pv_mk,ae,push_cast,seval]
    refine ab.pure hc rfl ?_
    simp(maxSteps:=9^7) (disch:=first|exact dI|fail) only[push_cast,seval]
    exact⟨i+1,bg (by simp(maxSteps:=9^7) (disch:=first|exact dI|fail) only[hst,push_cast,seval]),by omega,by omega⟩
   obtain rfl:i=e.length:=by omega
   clear hi hlt
   rw[List.take_length]
   generalize e.foldl Q z=z2
   simp(maxSteps:=9^7) (disch:=first|exact dI|fail) only[Int.lt_irrefl,push_cast,seval]
   refine aB ([]) (fun i:Nat=>[(3,.pv (.int .i64 ((f.take i).foldl R z2))),(5,.pv (.int .i64 (i:Int)))]) (fun _=>[]) (fun i=>i≤f.length) (fun i=>f.length - i) (0) ?_;intro e0 σ0 n0 h0;simp(maxSteps:=9^7) (disch:=first|exact dI|fail) only[push_cast,seval] at h0;obtain⟨rfl,rfl,rfl⟩:=h0;refine⟨?_,?_,?_⟩
   ·simp(maxSteps:=9^7) (disch:=first|exact dI|fail) only[List.take_zero,List.foldl_nil,push_cast,seval]
   ·omega
   rintro i hi
   by_cases hlt:i<f.length
   ·have hltI:(i:Int)<(f.length:Int):=by omega
    obtain⟨x,hx⟩:∃ x,f[i]? = some x:=⟨_,List.getElem?_eq_getElem hlt⟩
    have hc:=ih x.typ (hf x (List.mem_of_getElem? hx))
    have hst:=eI (p:=R) hx z2
    rw[show R ((f.take i).foldl R z2) x=max ((f.take i).foldl R z2) (cw n x.typ) by rw[hR]] at hst
    generalize cw n x.typ=y at hc hst
    obtain⟨n',nm',nd',⟨k',m',M',s',w',e',f'⟩,d'⟩:=x
    simp only[TFd.typ,Typ.pv_mk] at hc
    simp(maxSteps:=9^7) (disch:=first|exact dI|fail) only[hx,Option.map_some,Typ.pv_mk,TFd.pv_mk,ae,push_cast,seval]
    refine ab.pure hc rfl ?_
    simp(maxSteps:=9^7) (disch:=first|exact dI|fail) only[push_cast,seval]
    exact⟨i+1,bg (by simp(maxSteps:=9^7) (disch:=first|exact dI|fail) only[hst,push_cast,seval]),by omega,by omega⟩
   obtain rfl:i=f.length:=by omega
   clear hi hlt
   rw[List.take_length]
   simp(maxSteps:=9^7) (disch:=first|exact dI|fail) only[Int.lt_irrefl,push_cast,seval]
end Go.Proofs.YtbaaokocnegdoaaGreatDoor
set_option maxRecDepth 100000
set_option linter.unusedVariables false
set_option linter.unusedSimpArgs false
-- many steps
namespace Go.Proofs.YtbaaokocnegdoaaGreatDoor
open Go Go.Ab
attribute [local irreducible] vc
theorem dU:∀ (n:Nat) (v:Val),ce n v→ce (n+1) v
 | 0,_,h=>h.elim
 | n+1,v,h=>fun x hx=>dU n x (h x hx)
theorem gj {α β:Type}{p q:α→List β}:∀ (l:List α),(∀ x∈l,p x=q x)→l.flatMap p=l.flatMap q
 | [],_=>rfl
 | x::r,h=>by rw[List.flatMap_cons,List.flatMap_cons,h x (List.mem_cons_self ..),gj r fun y hy=>h y (List.mem_cons_of_mem _ hy)]
theorem wS:∀ (n:Nat) (lv:Int) (v:Val),ce n v→bX (n+1) lv v=bX n lv v
 | 0,_,_,h=>h.elim
 | n+1,lv,v,h=>by
   rw[bX,bX]
   congr 1
   exact gj _ fun x hx=>wS n (lv+1) x (h x hx)
def gK (S:List (Int×Val)):List (Int×Val):=S.reverse.flatMap fun q=>bX 9 q.1 q.2
theorem BF (S:List (Int×Val))(q:Int×Val):gK (S++[q])=bX 9 q.1 q.2++gK S:=by
 simp[gK]
def wR (q:Int×Val):List (Int×Val):=(aT q.2).reverse.map fun x=>(q.1+1,x)
theorem vT (S:List (Int×Val))(q:Int×Val)(h:ce 9 q.2):gK (S++[q])=q::gK (S++wR q):=by
 rw[BF]
 obtain⟨lv,v⟩:=q
 rw[bX,List.cons_append]
 congr 1
 simp only[gK,wR,List.reverse_append,List.flatMap_append,List.map_reverse,List.reverse_reverse,List.flatMap_map]
 congr 1
 exact gj _ fun x hx=>(wS 8 (lv+1) x (h x hx)).symm
theorem wQ {q x:Int×Val}(h:ce 9 q.2)(hx:x∈wR q):ce 9 x.2:=by
 obtain⟨y,hy,rfl⟩:=List.mem_map.1 hx
 exact dU 8 y (h y (List.mem_reverse.1 hy))
theorem Bl (c:Nat)(q:Int×Val):a8 c q=if 4096≤c then 9 else if 8<q.1 then 23 else fE q.2:=by
 unfold a8 fE
 rfl
theorem D6 (S:List (Int×Val))(q:Int×Val)(c:Nat)(h:ce 9 q.2):gQ c (gK (S++[q]))=if a8 c q=0 then gQ (c+1) (gK (S++wR q)) else a8 c q:=by
 rw[vT S q h,gQ]
end Go.Proofs.YtbaaokocnegdoaaGreatDoor
set_option maxRecDepth 100000
set_option linter.unusedVariables false
set_option linter.unusedSimpArgs false
-- many steps
namespace Go.Proofs.YtbaaokocnegdoaaGreatDoor
open Go Go.Ab
attribute [local irreducible] vc
def iZ:Int×Val→PV
 | (lv,.mk k n s t l f)=>.agg [.int .i64 k,.int .i64 n,.int .i64 s,.str t,.list (l.map Val.pv),.list (f.map Fld.pv),.int .i64 lv]
theorem p6 (q:Int×Val):(iZ q).cells.length=7:=by obtain⟨lv,⟨k,n,s,t,l,f⟩⟩:=q;rfl
theorem Do (q:Int×Val):iZ q = .agg (iZ q).cells:=by obtain⟨lv,⟨k,n,s,t,l,f⟩⟩:=q;rfl
def nX (S:List (Int×Val)):List PV:=S.flatMap fun q=>(iZ q).cells
theorem gZ (S T:List (Int×Val)):nX (S++T)=nX S++nX T:=by simp[nX]
theorem fo (q:Int×Val):nX [q]=(iZ q).cells:=by simp[nX]
theorem fp:∀ (S:List (Int×Val)),(nX S).length=S.length*7
 | []=>rfl
 | q::r=>by
   rw[show q::r=[q]++r from rfl,gZ,List.length_append,fp r,fo,p6]
   simp;omega
theorem pvs_map:∀ (l:List PV),pvs (l.map AV.pv)=some l
 | []=>rfl
 | x::r=>by rw[List.map_cons,ku];rw[pvs_map r];rfl
theorem wX (S:List (Int×Val))(q:Int×Val)(J:List PV):G0 7 (S.length*7) ((nX (S++[q])++J).map AV.pv)=some (.pv (iZ q)):=by
 rw[← wY]
 unfold cz
 simp only
 rw[if_pos (by rw[List.length_map,List.length_append,fp,List.length_append];simp;omega)]
 rw[← List.map_drop,← List.map_take,gZ,List.append_assoc,List.drop_left' (fp S),List.take_left' (by rw[fo,p6]),fo,xJ,pvs_map,iT,← Do]
theorem El {new r len:Nat}{f:Bool}{S:List (Int×Val)}{J:List PV}{y:PV}(h:S.length=len)(hl:len≤2000000):pj 259 7 96 new r 7 0 len [y] (.cells 259 f ((nX S++J).map AV.pv))=some (.row new 7 0 (len+1),[(r,.none),(new,.cells 259 false ((nX S++y.cells).map AV.pv))]):=by
 subst h
 rw[qN (by rw[List.length_map,List.length_append,fp];omega) (by simp;omega) (by simp;omega),← List.map_take,List.take_left' (fp S),List.map_append]
 simp[dg]
end Go.Proofs.YtbaaokocnegdoaaGreatDoor
