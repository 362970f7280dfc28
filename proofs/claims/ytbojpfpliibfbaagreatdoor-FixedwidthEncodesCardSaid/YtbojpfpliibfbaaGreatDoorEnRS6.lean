/- A part of the proof. -/
import Derived.Test.YtbojpfpliibfbaaGreatDoorEnRS5
set_option maxHeartbeats 16000000
set_option maxRecDepth 100000
set_option linter.unusedVariables false
set_option linter.unusedSimpArgs false
-- many steps
namespace Go.Proofs.YtbojpfpliibfbaaGreatDoor
open Go Go.Ab
attribute [local irreducible] vc
def bP:Typ->List Typ
 | .mk k _ _ _ _ e f=>if k=8 then e else if k=9\/k=10 then f.map TFd.typ else []
theorem Dx (k m M s:Int)(w:List (List UInt8))(e:List Typ)(fs:List TFd)(hf:fs.length*104<=140737488351232):am Tryz.prog az 179 [(Typ.mk k m M s w e fs).pv] (.list ((bP (.mk k m M s w e fs)).map Typ.pv)):=by
 by_cases h8:k=8
 ·rw[show bP (.mk k m M s w e fs)=e from if_pos h8]
  subst h8
  refine am.intro FP.2 (by simp[FP]) ?_
  simp(disch:=try exact dI) only[FP,Typ.pv_mk,push_cast,seval]
 ·by_cases h9:k=9\/k=10
  ·rw[show bP (.mk k m M s w e fs)=fs.map TFd.typ by simp only[bP];rw[if_neg h8,if_pos h9]]
   have key:∀ c:Bool,True:=fun _=>trivial
   rcases h9 with rfl | rfl
   all_goals
    refine am.intro FP.2 (by simp[FP]) ?_
    simp(disch:=try exact dI) only[FP,Typ.pv_mk,push_cast,seval]
    refine au ([]) (fun i:Nat=>[(3,.olist 0 7 (((fs.take i).map TFd.typ).map Typ.pv)),(22,.pv (.int .i64 (i:Int)))]) (fun _=>[]) (fun i=>i<=fs.length) (fun i=>fs.length - i) (0) ?_;intro e0 σ0 n0 h0;simp(disch:=try exact dI) only[push_cast,seval] at h0;obtain⟨rfl,rfl,rfl⟩:=h0;refine⟨?_,?_,?_⟩
    ·exact qsZ
    ·omega
    rintro i hi
    by_cases hlt:i<fs.length
    ·have hltI:(i:Int)<(fs.length:Int):=by omega
     obtain⟨c,hc⟩:∃ c,fs[i]? = some c:=⟨_,List.getElem?_eq_getElem hlt⟩
     have hts:=aK hc
     obtain⟨n',nm',nd',⟨k',m',M',s',w',e',f'⟩,d'⟩:=c
     simp(disch:=try exact dI) only[hc,Option.map_some,TFd.pv_mk,Typ.pv_mk,ag,push_cast,seval]
     exact⟨i+1,aM (by simp(disch:=try exact dI) only[hts,List.map_append,TFd.typ,Typ.pv_mk,push_cast,seval]),by omega,by omega⟩
    ·have he:i=fs.length:=by omega
     subst he
     simp(disch:=try exact dI) only[List.take_length,mE,push_cast,seval]
  ·rw[show bP (.mk k m M s w e fs)=[] by simp only[bP];rw[if_neg h8,if_neg h9]]
   have h9':¬ k=9:=by omega
   have h10:¬ k=10:=by omega
   refine am.intro FP.2 (by simp[FP]) ?_
   simp(disch:=try exact dI) only[FP,Typ.pv_mk,push_cast,seval]
def vT:Nat->Val->Prop
 | 0,_=>False
 | n+1,v=>(∀ x∈v.lst,vT n x)/\∀ x∈v.fields,vT n x.value
theorem kO:∀ (n:Nat) (v:Val),vT n v->vT (n+1) v
 | 0,_,h=>h.elim
 | n+1,v,h=>⟨fun x hx=>kO n x (h.1 x hx),fun x hx=>kO n x.value (h.2 x hx)⟩
theorem m7 {n m:Nat}(h:n<=m){v:Val}(hv:vT n v):vT m v:=by
 induction h with
 | refl=>exact hv
 | step _ ih=>exact kO _ _ ih
theorem qQ {α:Type}(g:α->Val):∀ l:List α,(∀ x∈l,∃ n,vT n (g x))->∃ n,∀ x∈l,vT n (g x)
 | [],_=>⟨0,by simp⟩
 | x::r,h=>by
   obtain⟨n,hn⟩:=h x (by simp)
   obtain⟨m,hm⟩:=qQ g r fun y hy=>h y (List.mem_cons_of_mem _ hy)
   refine⟨max n m,fun y hy=>?_⟩
   rcases List.mem_cons.1 hy with rfl | hy
   ·exact m7 (Nat.le_max_left _ _) hn
   ·exact m7 (Nat.le_max_right _ _) (hm y hy)
theorem m8 (v:Val):∃ n,vT n v:=by
 obtain⟨k,n,s,t,l,fs⟩:=v
 have h1:∀ x∈l,∃ n,vT n x:=fun x hx=>m8 x
 have h2:∀ x∈fs,∃ n,vT n x.value:=fun x hx=>by
  obtain⟨nm,y⟩:=x
  exact m8 y
 obtain⟨a,ha⟩:=qQ id l h1
 obtain⟨b,hb⟩:=qQ Fld.value fs h2
 exact⟨max a b+1,fun x hx=>m7 (Nat.le_max_left _ _) (ha x hx),fun x hx=>m7 (Nat.le_max_right _ _) (hb x hx)⟩
termination_by SizeOf.sizeOf v
decreasing_by
 ·have:=List.sizeOf_lt_of_mem hx;simp;omega
 ·have:=List.sizeOf_lt_of_mem hx;simp at this ⊢;omega
theorem mX:∀ (n:Nat) (v:Val),vT n v->dA n v
 | 0,_,h=>h
 | n+1,v,h=>fun x hx=>by
   unfold bk at hx
   split at hx
   ·exact mX n x (h.1 x hx)
   ·split at hx
    ·obtain⟨y,hy,rfl⟩:=List.mem_map.1 hx
     exact mX n _ (h.2 y hy)
    ·simp at hx
noncomputable def lvl (v:Val):Nat:=(m8 v).choose
theorem IH (v:Val):vT (lvl v) v:=(m8 v).choose_spec
theorem fF (v:Val):dA (lvl v) v:=mX _ v (IH v)
noncomputable def GI (v:Val):Int:=jx 0 (dj (lvl v) 1 v)
theorem Jr (v:Val)(hv:v.ok):am Tryz.prog az 233 [v.pv] (.int .i64 (GI v)):=sK _ v (fF v) hv
theorem sH:∀ (xs:List (Int×Val)) (i:Nat),i<=4096->jx i xs=0->i+xs.length<=4096
 | [],i,h,_=>by simpa using h
 | q::r,i,h,h0=>by
   rw[jx] at h0
   by_cases h1:bg i q=0
   ·rw[if_pos h1] at h0
    have hi:¬ 4096<=i:=fun hh=>by rw[Hu hh] at h1;cases h1
    have:=sH r (i+1) (by omega) h0
    rw[List.length_cons];omega
   ·rw[if_neg h1] at h0;exact absurd h0 h1
end Go.Proofs.YtbojpfpliibfbaaGreatDoor
-- many steps
namespace Go.Proofs.YtbojpfpliibfbaaGreatDoor
open Go Go.Ab
attribute [local irreducible] vc
noncomputable def Ke (v:Val):Int:=((dj (lvl v) 1 v).length:Int)
def KV (v:Val):Prop:=v.ok/\(dj (lvl v) 1 v).length<=1000000000000
noncomputable def gr (least:Typ->Int):TFd->Int
 | .mk _ _ nd t d=>if nd=1 then least t else if nd=3 then (match d with | []=>0 | x::_=>Ke x) else 0
def Af (p:Typ->Int):List Typ->Int
 | []=>0
 | x::_=>p x
def Ag (p:Typ->Int):List TFd->Int
 | []=>0
 | .mk _ _ _ t _::_=>p t
noncomputable def cr (p:Typ->Int)(k m:Int)(e:List Typ)(f:List TFd):Int:=if k=8 then (if 0<m then m*Af p e else 0) else if k=10 then Ag p f else if k=9 then (f.map (gr p)).sum else 0
noncomputable def cl:Nat->Typ->Int
 | 0,_=>1
 | n+1,.mk k m _ _ _ e f=>min (1+cr (cl n) k m e f) 4097
def jT (p:Typ->Prop):TFd->Prop
 | .mk _ _ nd t d=>(nd=1->p t)/\(nd=3->∃ x r,d=x::r/\KV x)
def eO:Nat->Typ->Prop
 | 0,_=>False
 | n+1,.mk k m _ _ _ e f=>(k=8->0<m->m<=256/\∃ x r,e=x::r/\eO n x)/\(k=10->∃ g r,f=g::r/\eO n g.typ)/\(k=9->f.length<=64/\∀ g∈f,jT (eO n) g)
theorem ry {n:Nat}(hle:∀ t,eO n t->1<=cl n t/\cl n t<=4097){g:TFd}(hg:jT (eO n) g):0<=gr (cl n) g/\gr (cl n) g<=1000000000000:=by
 obtain⟨a,b,nd,t,d⟩:=g
 simp only[gr,jT] at hg ⊢
 by_cases h1:nd=1
 ·rw[if_pos h1];have:=hle t (hg.1 h1);omega
 ·rw[if_neg h1]
  by_cases h3:nd=3
  ·obtain⟨x,r,rfl,hx⟩:=hg.2 h3
   rw[if_pos h3]
   have:=hx.2
   simp only[Ke];omega
  ·rw[if_neg h3];omega
theorem jJ {p:TFd->Int}:∀ (f:List TFd),(∀ g∈f,0<=p g/\p g<=1000000000000)->0<=(f.map p).sum/\(f.map p).sum<=1000000000000*f.length
 | [],_=>by simp
 | g::r,h=>by
   have h1:=h g (List.mem_cons_self ..)
   have h2:=jJ r fun x hx=>h x (List.mem_cons_of_mem _ hx)
   simp only[List.map_cons,List.sum_cons,List.length_cons]
   omega
theorem fH:∀ (n:Nat) (t:Typ),eO n t->1<=cl n t/\cl n t<=4097
 | 0,_,h=>h.elim
 | n+1,.mk k m M s w e f,h=>by
   simp only[cl,eO] at h ⊢
   obtain⟨h8,h10,h9⟩:=h
   refine⟨?_,by omega⟩
   have key:0<=cr (cl n) k m e f:=by
    unfold cr
    split
    ·split
     ·rename_i e1 e2
      obtain⟨_,x,r,rfl,hx⟩:=h8 e1 e2
      have:=fH n x hx
      exact Int.mul_nonneg (by omega) (by simp only[Af];omega)
     ·omega
    ·split
     ·rename_i e1 e2
      obtain⟨g,r,rfl,hx⟩:=h10 e2
      have:=fH n g.typ hx
      obtain⟨a,b,c,t,d⟩:=g
      simp only[Ag,TFd.typ] at this ⊢;omega
     ·split
      ·rename_i e1
       exact (jJ f fun g hg=>ry (fH n) ((h9 e1).2 g hg)).1
      ·omega
   omega
theorem rm {p:TFd->Int}{f:List TFd}{i:Nat}{g:TFd}(h:f[i]? = some g):((f.take (i+1)).map p).sum=((f.take i).map p).sum+p g:=by
 rw[aK h,List.map_append,List.sum_append];simp
theorem iQ:∀ (n:Nat) (t:Typ),eO n t->am Tryz.prog az 181 [t.pv] (.int .i64 (cl n t))
 | 0,_,h=>h.elim
 | n+1,.mk k m M s w e f,h=>by
   have ih:=iQ n
   have hle:=fH n
   have hpos:∀ g,jT (eO n) g->0<=gr (cl n) g/\gr (cl n) g<=1000000000000:=fun g hg=>ry hle hg
   simp only[eO] at h
   obtain⟨h8,h10,h9⟩:=h
   simp only[cl]
   generalize cl n=L at *
   refine am.intro J6.2 (by simp[J6]) ?_
   by_cases hk8:k=8
   ·subst hk8
    by_cases hm:0<m
    ·obtain⟨hm2,x,r,rfl,hx⟩:=h8 rfl hm
     have hc:=ih x hx
     have hl:=hle x hx
     obtain⟨k',m',M',s',w',e',f'⟩:=x
     simp only[Typ.pv_mk] at hc
     generalize hz:L (Typ.mk k' m' M' s' w' e' f')=z at hc hl
     have hmul:0<=m*z:=Int.mul_nonneg (by omega) (by omega)
     have hmul2:m*z<=256*4097:=Int.mul_le_mul hm2 hl.2 (by omega) (by omega)
     have hmm:cr L 8 m (Typ.mk k' m' M' s' w' e' f'::r) f=m*z:=by simp only[cr,Af,hz,if_pos hm,if_true]
     clear hz
     rw[hmm]
     simp(disch:=try exact dI) only[J6,Typ.pv_mk,hm,aS,push_cast,seval]
     refine ap hc rfl ?_
     exact qsZ
    ·rw[show cr L 8 m e f=0 by simp only[cr,if_neg hm,if_true]]
     simp(disch:=try exact dI) only[J6,Typ.pv_mk,hm,push_cast,seval]
   by_cases hk10:k=10
   ·subst hk10
    obtain⟨g,r,rfl,hx⟩:=h10 rfl
    obtain⟨n',nm',nd',⟨k',m',M',s',w',e',f'⟩,d'⟩:=g
    simp only[TFd.typ] at hx
    have hc:=ih _ hx
    have hl:=hle _ hx
    simp only[Typ.pv_mk] at hc
    generalize hz:L (Typ.mk k' m' M' s' w' e' f')=z at hc hl
    have hmm:cr L 10 m e (TFd.mk n' nm' nd' (Typ.mk k' m' M' s' w' e' f') d'::r)=z:=by simp[cr,Ag,hz]
    clear hz
    rw[hmm]
    simp(disch:=try exact dI) only[J6,Typ.pv_mk,aS,TFd.pv_mk,ag,push_cast,seval]
    refine ab.pure hc rfl ?_
    exact qsZ
   by_cases hk9:k=9
   ·subst hk9
    obtain⟨hf,hr⟩:=h9 rfl
    rw[show cr L 9 m e f=(f.map (gr L)).sum by simp[cr]]
    have hrp:∀ g∈f,0<=gr L g/\gr L g<=1000000000000:=fun g hg=>hpos g (hr g hg)
    simp(disch:=try exact dI) only[J6,Typ.pv_mk,push_cast,seval]
    refine au ([]) (fun i:Nat=>[(3,.pv (.int .i64 (1+((f.take i).map (gr L)).sum))),(38,.pv (.int .i64 (i:Int)))]) (fun _=>[]) (fun i=>i<=f.length) (fun i=>f.length - i) (0) ?_;intro e0 σ0 n0 h0;simp(disch:=try exact dI) only[push_cast,seval] at h0;obtain⟨rfl,rfl,rfl⟩:=h0;refine⟨?_,?_,?_⟩
    ·simp(disch:=try exact dI) only[List.take_zero,List.map_nil,List.sum_nil,push_cast,seval]
    ·omega
    rintro i hi
    have hsm:=jJ (f.take i) fun g hg=>hrp g (List.mem_of_mem_take hg)
    rw[List.length_take] at hsm
    by_cases hlt:i<f.length
    ·have hltI:(i:Int)<(f.length:Int):=by omega
     obtain⟨g,hg⟩:∃ g,f[i]? = some g:=⟨_,List.getElem?_eq_getElem hlt⟩
     have hst:=rm (p:=gr L) hg
     have hgr:=hr g (List.mem_of_getElem? hg)
     have hgp:=hrp g (List.mem_of_getElem? hg)
     obtain⟨n',nm',nd',⟨k',m',M',s',w',e',f'⟩,d'⟩:=g
     simp only[jT] at hgr
     generalize hS:((f.take i).map (gr L)).sum=S at *
     by_cases h1:nd'=1
     ·subst h1
      have hc:=ih _ (hgr.1 rfl)
      simp only[Typ.pv_mk] at hc
      simp only[gr,if_true] at hst hgp
      generalize L (Typ.mk k' m' M' s' w' e' f')=z at hc hst hgp
      simp(disch:=try exact dI) only[hg,Option.map_some,TFd.pv_mk,Typ.pv_mk,ag,push_cast,seval]
      refine ab.pure hc rfl ?_
      refine zgZ ?_
      exact⟨i+1,aM (by simp(disch:=try exact dI) only[hst,Int.add_assoc,push_cast,seval]),by omega,by omega⟩
     ·by_cases h3:nd'=3
      ·subst h3
       obtain⟨x,r,rfl,hx⟩:=hgr.2 rfl
       have hc:=Hw (lvl x) x (fF x) hx.1 (by have:=hx.2;omega)
       simp only[gr,if_neg h1,if_true,Ke] at hst hgp
       generalize ((dj (lvl x) 1 x).length:Int)=z at hc hst hgp
       obtain⟨vk,vn,vs,vt,vl,vf⟩:=x
       simp only[Val.pv_mk] at hc
       simp(disch:=try exact dI) only[hg,Option.map_some,TFd.pv_mk,Typ.pv_mk,ag,aS,Val.pv_mk,push_cast,seval]
       refine ab.pure hc rfl ?_
       refine zgZ ?_
       exact⟨i+1,aM (by simp(disch:=try exact dI) only[hst,Int.add_assoc,push_cast,seval]),by omega,by omega⟩
      ·simp only[gr,if_neg h1,if_neg h3] at hst
       simp(disch:=try exact dI) only[hg,Option.map_some,TFd.pv_mk,Typ.pv_mk,ag,h1,h3,push_cast,seval]
       exact⟨i+1,aM (by simp(disch:=try exact dI) only[hst,Int.add_zero,push_cast,seval]),by omega,by omega⟩
    ·have he:i=f.length:=by omega
     subst he
     rw[List.take_length] at hsm ⊢
     simp(disch:=try exact dI) only[Int.lt_irrefl,push_cast,seval]
   ·rw[show cr L k m e f=0 by simp[cr,hk8,hk9,hk10]]
    simp(disch:=try exact dI) only[J6,Typ.pv_mk,push_cast,seval]
end Go.Proofs.YtbojpfpliibfbaaGreatDoor
-- many steps
namespace Go.Proofs.YtbojpfpliibfbaaGreatDoor
open Go Go.Ab
attribute [local irreducible] vc
noncomputable def cC:Nat->Typ->Int
 | 0,_=>0
 | n+1,.mk k m M s w e f=>f.foldl (fun a g=>max a (cC n g.typ)) (e.foldl (fun a x=>max a (cC n x)) (cl 9 (.mk k m M s w e f)))
def MO:Nat->Typ->Prop
 | 0,_=>False
 | n+1,.mk k m M s w e f=>eO 9 (.mk k m M s w e f)/\e.length<=9000000000000/\f.length<=9000000000000/\(∀ x∈e,MO n x)/\∀ g∈f,MO n g.typ
theorem en {α β:Type}{p:β->α->β}{l:List α}{i:Nat}{x:α}(h:l[i]? = some x)(b:β):(l.take (i+1)).foldl p b=p ((l.take i).foldl p b) x:=by rw[aK h,List.foldl_append];rfl
theorem fZ:∀ (n:Nat) (t:Typ),MO n t->am Tryz.prog az 124 [t.pv] (.int .i64 (cC n t))
 | 0,_,h=>h.elim
 | n+1,.mk k m M s w e f,h=>by
   have ih:=fZ n
   simp only[MO] at h
   obtain⟨h1,hel,hfl,he,hf⟩:=h
   have hle:=iQ 9 _ h1
   simp only[cC]
   generalize cl 9 (.mk k m M s w e f)=z at *
   simp only[Typ.pv_mk] at hle
   obtain⟨Q,hQ⟩:∃ Q,Q=fun (a:Int) (x:Typ)=>max a (cC n x):=⟨_,rfl⟩
   obtain⟨R,hR⟩:∃ R,R=fun (a:Int) (x:TFd)=>max a (cC n x.typ):=⟨_,rfl⟩
   rw[<- hQ,<- hR]
   refine am.intro PK.2 (by simp[PK]) ?_
   simp(disch:=try exact dI) only[PK,Typ.pv_mk,push_cast,seval]
   refine ab.pure hle rfl ?_
   refine zgZ ?_
   refine au ([]) (fun i:Nat=>[(3,.pv (.int .i64 ((e.take i).foldl Q z))),(13,.pv (.int .i64 (i:Int)))]) (fun _=>[]) (fun i=>i<=e.length) (fun i=>e.length - i) (0) ?_;intro e0 σ0 n0 h0;simp(disch:=try exact dI) only[push_cast,seval] at h0;obtain⟨rfl,rfl,rfl⟩:=h0;refine⟨?_,?_,?_⟩
   ·simp(disch:=try exact dI) only[List.take_zero,List.foldl_nil,push_cast,seval]
   ·omega
   rintro i hi
   by_cases hlt:i<e.length
   ·have hltI:(i:Int)<(e.length:Int):=by omega
    obtain⟨x,hx⟩:∃ x,e[i]? = some x:=⟨_,List.getElem?_eq_getElem hlt⟩
    have hc:=ih x (he x (List.mem_of_getElem? hx))
    have hst:=en (p:=Q) hx z
    rw[show Q ((e.take i).foldl Q z) x=max ((e.take i).foldl Q z) (cC n x) by rw[hQ]] at hst
    generalize cC n x=y at hc hst
    obtain⟨k',m',M',s',w',e',f'⟩:=x
    simp only[Typ.pv_mk] at hc
    simp(disch:=try exact dI) only[hx,Option.map_some,Typ.pv_mk,ag,push_cast,seval]
    refine ab.pure hc rfl ?_
    refine zgZ ?_
    exact⟨i+1,aM (by simp(disch:=try exact dI) only[hst,push_cast,seval]),by omega,by omega⟩
   obtain rfl:i=e.length:=by omega
   clear hi hlt
   rw[List.take_length]
   generalize e.foldl Q z=z2
   simp(disch:=try exact dI) only[Int.lt_irrefl,push_cast,seval]
   refine au ([]) (fun i:Nat=>[(3,.pv (.int .i64 ((f.take i).foldl R z2))),(25,.pv (.int .i64 (i:Int)))]) (fun _=>[]) (fun i=>i<=f.length) (fun i=>f.length - i) (0) ?_;intro e0 σ0 n0 h0;simp(disch:=try exact dI) only[push_cast,seval] at h0;obtain⟨rfl,rfl,rfl⟩:=h0;refine⟨?_,?_,?_⟩
   ·simp(disch:=try exact dI) only[List.take_zero,List.foldl_nil,push_cast,seval]
   ·omega
   rintro i hi
   by_cases hlt:i<f.length
   ·have hltI:(i:Int)<(f.length:Int):=by omega
    obtain⟨x,hx⟩:∃ x,f[i]? = some x:=⟨_,List.getElem?_eq_getElem hlt⟩
    have hc:=ih x.typ (hf x (List.mem_of_getElem? hx))
    have hst:=en (p:=R) hx z2
    rw[show R ((f.take i).foldl R z2) x=max ((f.take i).foldl R z2) (cC n x.typ) by rw[hR]] at hst
    generalize cC n x.typ=y at hc hst
    obtain⟨n',nm',nd',⟨k',m',M',s',w',e',f'⟩,d'⟩:=x
    simp only[TFd.typ,Typ.pv_mk] at hc
    simp(disch:=try exact dI) only[hx,Option.map_some,Typ.pv_mk,TFd.pv_mk,ag,push_cast,seval]
    refine ab.pure hc rfl ?_
    refine zgZ ?_
    exact⟨i+1,aM (by simp(disch:=try exact dI) only[hst,push_cast,seval]),by omega,by omega⟩
   obtain rfl:i=f.length:=by omega
   clear hi hlt
   rw[List.take_length]
   simp(disch:=try exact dI) only[Int.lt_irrefl,push_cast,seval]
theorem oG:∀ (n:Nat) (v:Val),SizeOf.sizeOf v<n->v.ok->am Tryz.prog az 92 [v.pv] v.pv:=by
 intro n
 induction n with
 | zero=>intro v h;omega
 | succ n ih=>
 intro v hn hv
 obtain⟨k,i,s,t,l,f⟩:=v
 rw[Val.ok_mk] at hv
 obtain⟨h1,h2,h3,h4,h5,h7,h6,h8⟩:=hv
 simp only[Val.mk.sizeOf_spec] at hn
 have hl:∀ x∈l,am Tryz.prog az 92 [x.pv] x.pv:=fun x hx=>ih x (by have:=List.sizeOf_lt_of_mem hx;omega) (h7 x hx)
 have hf:∀ a v,Fld.mk a v∈f->am Tryz.prog az 92 [v.pv] v.pv:=fun a v hx=>ih v (by have:=List.sizeOf_lt_of_mem hx;simp only[Fld.mk.sizeOf_spec] at this;omega) (by have:=h8 _ hx;rw[Fld.ok_mk] at this;exact this.2)
 refine am.intro Q92.2 (by simp[Q92]) ?_
 simp(disch:=try exact dI) only[Q92,Val.pv_mk,push_cast,seval]
 refine au ([(3,5,36,6)]) (fun m:Nat=>[(14,.pv (.int .i64 (m:Int)))]) (fun m=>[(1,.cells 36 true [.pv (.int .i64 k),.pv (.int .i64 i),.pv (.int .i64 s),.pv (.str t),.olist 2 6 ((l.take m).map Val.pv),.pv .nils])]) (fun m=>m<=l.length) (fun m=>l.length - m) (0) ?_;intro e0 σ0 n0 h0;simp(disch:=try exact dI) only[push_cast,seval] at h0;obtain⟨rfl,rfl,rfl⟩:=h0;refine⟨?_,?_,?_⟩
 ·exact qsZ
 ·omega
 ·intro m hm
  by_cases hlt:m<l.length
  ·have hltI:(m:Int)<l.length:=by omega
   obtain⟨x,hx⟩:∃ x,l[m]? = some x:=⟨_,List.getElem?_eq_getElem hlt⟩
   have hts:=aK hx
   have hlt2:(l.take m).length=m:=by rw[List.length_take];omega
   have hcall:=hl x (List.mem_of_getElem? hx)
   obtain⟨w1,w2,w3,w4,w5,w6⟩:=x
   rw[Val.pv_mk] at hcall
   simp(disch:=try exact dI) only[hx,Val.pv_mk,push_cast,seval]
   refine ap hcall rfl ?_
   simp(disch:=try exact dI) only[hlt2,push_cast,seval]
   exact⟨m+1,aM (by simp(disch:=try exact dI) only[hts,List.map_append,Val.pv_mk,push_cast,seval]),by omega,by omega⟩
  ·have hltI:¬ (m:Int)<l.length:=by omega
   have hle:l.take m=l:=List.take_of_length_le (by omega)
   simp(disch:=try exact dI) only[hle,push_cast,seval]
   refine au ([(3,6,60,7)]) (fun m:Nat=>[(29,.pv (.int .i64 (m:Int)))]) (fun m=>[(1,.cells 36 true [.pv (.int .i64 k),.pv (.int .i64 i),.pv (.int .i64 s),.pv (.str t),.olist 2 6 (l.map Val.pv),.olist 3 7 ((f.take m).map Fld.pv)])]) (fun m=>m<=f.length) (fun m=>f.length - m) (0) ?_;intro e0 σ0 n0 h0;simp(disch:=try exact dI) only[push_cast,seval] at h0;obtain⟨rfl,rfl,rfl⟩:=h0;refine⟨?_,?_,?_⟩
   ·exact qsZ
   ·omega
   ·intro m hm
    by_cases hlt:m<f.length
    ·have hltI:(m:Int)<f.length:=by omega
     obtain⟨⟨a,v⟩,hx⟩:∃ x,f[m]? = some x:=⟨_,List.getElem?_eq_getElem hlt⟩
     have hts:=aK hx
     have hlt2:(f.take m).length=m:=by rw[List.length_take];omega
     have hcall:=hf a v (List.mem_of_getElem? hx)
     obtain⟨w1,w2,w3,w4,w5,w6⟩:=v
     rw[Val.pv_mk] at hcall
     simp(disch:=try exact dI) only[hx,Fld.pv_mk,Val.pv_mk,push_cast,seval]
     refine ap hcall rfl ?_
     simp(disch:=try exact dI) only[hlt2,push_cast,seval]
     exact⟨m+1,aM (by simp(disch:=try exact dI) only[hts,List.map_append,Fld.pv_mk,Val.pv_mk,push_cast,seval]),by omega,by omega⟩
    ·have hltI:¬ (m:Int)<f.length:=by omega
     have hle:f.take m=f:=List.take_of_length_le (by omega)
     simp(disch:=try exact dI) only[hle,push_cast,seval]
end Go.Proofs.YtbojpfpliibfbaaGreatDoor
