/- A part. -/
import Derived.Test.YtngchmkoadaecaaGreatDoorClJSn
set_option linter.unusedVariables false
set_option linter.unusedSimpArgs false
set_option maxHeartbeats 16000000
set_option maxRecDepth 100000
open List renaming take_zero->U3,getElem?_eq_getElem->Uq,mem_of_getElem?->Us
open Option renaming map_some->UM
namespace Go.Proofs.YtngchmkoadaecaaGreatDoor
open Go Go.Ab
attribute [local irreducible] vc
noncomputable def Rq (v:Val):Int:=((eS (lvl v) 1 v).length:Int)
def NH (v:Val):Prop:=v.ok/\(eS (lvl v) 1 v).length<=1000000000000
noncomputable def p9 (least:Typ->Int):TFd->Int
 | .mk _ _ nd t d=>if nd=1 then least t else if nd=3 then (match d with | []=>0 | x::_=>Rq x) else 0
def LX (p:Typ->Int):List Typ->Int
 | []=>0
 | x::_=>p x
def LY (p:Typ->Int):List TFd->Int
 | []=>0
 | .mk _ _ _ t _::_=>p t
noncomputable def g6 (p:Typ->Int)(k m:Int)(e:List Typ)(f:List TFd):Int:=if k=8 then (if 0<m then m*LX p e else 0) else if k=10 then LY p f else if k=9 then (f.map (p9 p)).sum else 0
noncomputable def cR:Nat->Typ->Int
 | 0,_=>1
 | n+1,.mk k m _ _ _ e f=>min (1+g6 (cR n) k m e f) 4097
def z8 (p:Typ->Prop):TFd->Prop
 | .mk _ _ nd t d=>(nd=1->p t)/\(nd=3->∃ x r,d=x::r/\NH x)
def eF:Nat->Typ->Prop
 | 0,_=>False
 | n+1,.mk k m _ _ _ e f=>(k=8->0<m->m<=256/\∃ x r,e=x::r/\eF n x)/\(k=10->∃ g r,f=g::r/\eF n g.typ)/\(k=9->f.length<=64/\∀ g∈f,z8 (eF n) g)
theorem sl {n:Nat}(hle:∀ t,eF n t->1<=cR n t/\cR n t<=4097){g:TFd}(hg:z8 (eF n) g):0<=p9 (cR n) g/\p9 (cR n) g<=1000000000000:=by
 obtain⟨a,b,nd,t,d⟩:=g
 simp only[p9,z8] at hg ⊢
 by_cases h1:nd=1
 ·rw[if_pos h1];have:=hle t (hg.1 h1);omega
 ·rw[if_neg h1]
  by_cases h3:nd=3
  ·obtain⟨x,r,rfl,hx⟩:=hg.2 h3
   rw[if_pos h3]
   have:=hx.2
   simp only[Rq];omega
  ·rw[if_neg h3];omega
theorem pV {p:TFd->Int}:∀ (f:List TFd),(∀ g∈f,0<=p g/\p g<=1000000000000)->0<=(f.map p).sum/\(f.map p).sum<=1000000000000*f.length
 | [],_=>by simp
 | g::r,h=>by
   have h1:=h g (List.mem_cons_self ..)
   have h2:=pV r fun x hx=>h x (List.mem_cons_of_mem _ hx)
   simp only[List.map_cons,List.sum_cons,List.length_cons]
   omega
theorem fu:∀ (n:Nat) (t:Typ),eF n t->1<=cR n t/\cR n t<=4097
 | 0,_,h=>h.elim
 | n+1,.mk k m M s w e f,h=>by
   simp only[cR,eF] at h ⊢
   obtain⟨h8,h10,h9⟩:=h
   refine⟨?_,by omega⟩
   have key:0<=g6 (cR n) k m e f:=by
    unfold g6
    split
    ·split
     ·rename_i e1 e2
      obtain⟨_,x,r,rfl,hx⟩:=h8 e1 e2
      have:=fu n x hx
      exact Int.mul_nonneg (by omega) (by simp only[LX];omega)
     ·omega
    ·split
     ·rename_i e1 e2
      obtain⟨g,r,rfl,hx⟩:=h10 e2
      have:=fu n g.typ hx
      obtain⟨a,b,c,t,d⟩:=g
      simp only[LY,TFd.typ] at this ⊢;omega
     ·split
      ·rename_i e1
       exact (pV f fun g hg=>sl (fu n) ((h9 e1).2 g hg)).1
      ·omega
   omega
theorem EJ {p:TFd->Int}{f:List TFd}{i:Nat}{g:TFd}(h:f[i]? = some g):((f.take (i+1)).map p).sum=((f.take i).map p).sum+p g:=by
 rw[aC h,List.map_append,List.sum_append];simp
theorem iz:∀ (n:Nat) (t:Typ),eF n t->ap Tryz.prog aB 133 [t.pv] (.int .i64 (cR n t))
 | 0,_,h=>h.elim
 | n+1,.mk k m M s w e f,h=>by
   have ih:=iz n
   have hle:=fu n
   have hpos:∀ g,z8 (eF n) g->0<=p9 (cR n) g/\p9 (cR n) g<=1000000000000:=fun g hg=>sl hle hg
   simp only[eF] at h
   obtain⟨h8,h10,h9⟩:=h
   simp only[cR]
   generalize cR n=L at *
   refine ap.intro M2.2 (by simp[M2]) ?_
   by_cases hk8:k=8
   ·subst hk8
    by_cases hm:0<m
    ·obtain⟨hm2,x,r,rfl,hx⟩:=h8 rfl hm
     have hc:=ih x hx
     have hl:=hle x hx
     obtain⟨k',m',M',s',w',e',f'⟩:=x
     simp only[Um] at hc
     generalize hz:L (Typ.mk k' m' M' s' w' e' f')=z at hc hl
     have hmul:0<=m*z:=Int.mul_nonneg (by omega) (by omega)
     have hmul2:m*z<=256*4097:=Int.mul_le_mul hm2 hl.2 (by omega) (by omega)
     have hmm:g6 L 8 m (Typ.mk k' m' M' s' w' e' f'::r) f=m*z:=by simp only[g6,LX,hz,if_pos hm,if_true]
     clear hz
     rw[hmm]
     simp(maxSteps:=9^7) (disch:=try exact dI) only[M2,Um,hm,cz,push_cast,seval]
     refine au hc rfl ?_
     simp(maxSteps:=9^7) (disch:=try exact dI) only[push_cast,seval]
    ·rw[show g6 L 8 m e f=0 by simp only[g6,if_neg hm,if_true]]
     simp(maxSteps:=9^7) (disch:=try exact dI) only[M2,Um,hm,push_cast,seval]
   by_cases hk10:k=10
   ·subst hk10
    obtain⟨g,r,rfl,hx⟩:=h10 rfl
    obtain⟨n',nm',nd',⟨k',m',M',s',w',e',f'⟩,d'⟩:=g
    simp only[TFd.typ] at hx
    have hc:=ih _ hx
    have hl:=hle _ hx
    simp only[Um] at hc
    generalize hz:L (Typ.mk k' m' M' s' w' e' f')=z at hc hl
    have hmm:g6 L 10 m e (TFd.mk n' nm' nd' (Typ.mk k' m' M' s' w' e' f') d'::r)=z:=by simp[g6,LY,hz]
    clear hz
    rw[hmm]
    simp(maxSteps:=9^7) (disch:=try exact dI) only[M2,Um,cz,Uh,ae,push_cast,seval]
    refine ab.pure hc rfl ?_
    simp(maxSteps:=9^7) (disch:=try exact dI) only[push_cast,seval]
   by_cases hk9:k=9
   ·subst hk9
    obtain⟨hf,hr⟩:=h9 rfl
    rw[show g6 L 9 m e f=(f.map (p9 L)).sum by simp[g6]]
    have hrp:∀ g∈f,0<=p9 L g/\p9 L g<=1000000000000:=fun g hg=>hpos g (hr g hg)
    simp(maxSteps:=9^7) (disch:=try exact dI) only[M2,Um,push_cast,seval]
    refine aw ([]) (fun i:Nat=>[(3,.pv (.int .i64 (1+((f.take i).map (p9 L)).sum))),(38,.pv (.int .i64 (i:Int)))]) (fun _=>[]) (fun i=>i<=f.length) (fun i=>f.length - i) (0) ?_;intro e0 σ0 n0 h0;simp(maxSteps:=9^7) (disch:=try exact dI) only[push_cast,seval] at h0;obtain⟨rfl,rfl,rfl⟩:=h0;refine⟨?_,?_,?_⟩
    ·simp(maxSteps:=9^7) (disch:=try exact dI) only[U3,List.map_nil,List.sum_nil,push_cast,seval]
    ·omega
    rintro i hi
    have hsm:=pV (f.take i) fun g hg=>hrp g (List.mem_of_mem_take hg)
    rw[List.length_take] at hsm
    by_cases hlt:i<f.length
    ·have hltI:(i:Int)<(f.length:Int):=by omega
     obtain⟨g,hg⟩:∃ g,f[i]? = some g:=⟨_,Uq hlt⟩
     have hst:=EJ (p:=p9 L) hg
     have hgr:=hr g (Us hg)
     have hgp:=hrp g (Us hg)
     obtain⟨n',nm',nd',⟨k',m',M',s',w',e',f'⟩,d'⟩:=g
     simp only[z8] at hgr
     generalize hS:((f.take i).map (p9 L)).sum=S at *
     by_cases h1:nd'=1
     ·subst h1
      have hc:=ih _ (hgr.1 rfl)
      simp only[Um] at hc
      simp only[p9,if_true] at hst hgp
      generalize L (Typ.mk k' m' M' s' w' e' f')=z at hc hst hgp
      simp(maxSteps:=9^7) (disch:=try exact dI) only[hg,UM,Uh,Um,ae,push_cast,seval]
      refine ab.pure hc rfl ?_
      simp(maxSteps:=9^7) (disch:=try exact dI) only[push_cast,seval]
      exact⟨i+1,aN (by simp(maxSteps:=9^7) (disch:=try exact dI) only[hst,Int.add_assoc,push_cast,seval]),by omega,by omega⟩
     ·by_cases h3:nd'=3
      ·subst h3
       obtain⟨x,r,rfl,hx⟩:=hgr.2 rfl
       have hc:=JR (lvl x) x (ml x) hx.1 (by have:=hx.2;omega)
       simp only[p9,if_neg h1,if_true,Rq] at hst hgp
       generalize ((eS (lvl x) 1 x).length:Int)=z at hc hst hgp
       obtain⟨vk,vn,vs,vt,vl,vf⟩:=x
       simp only[Uo] at hc
       simp(maxSteps:=9^7) (disch:=try exact dI) only[hg,UM,Uh,Um,ae,cz,Uo,push_cast,seval]
       refine ab.pure hc rfl ?_
       simp(maxSteps:=9^7) (disch:=try exact dI) only[push_cast,seval]
       exact⟨i+1,aN (by simp(maxSteps:=9^7) (disch:=try exact dI) only[hst,Int.add_assoc,push_cast,seval]),by omega,by omega⟩
      ·simp only[p9,if_neg h1,if_neg h3] at hst
       simp(maxSteps:=9^7) (disch:=try exact dI) only[hg,UM,Uh,Um,ae,h1,h3,push_cast,seval]
       exact⟨i+1,aN (by simp(maxSteps:=9^7) (disch:=try exact dI) only[hst,Int.add_zero,push_cast,seval]),by omega,by omega⟩
    ·have he:i=f.length:=by omega
     subst he
     rw[List.take_length] at hsm ⊢
     simp(maxSteps:=9^7) (disch:=try exact dI) only[Int.lt_irrefl,push_cast,seval]
   ·rw[show g6 L k m e f=0 by simp[g6,hk8,hk9,hk10]]
    simp(maxSteps:=9^7) (disch:=try exact dI) only[M2,Um,push_cast,seval]
noncomputable def dR:Nat->Typ->Int
 | 0,_=>0
 | n+1,.mk k m M s w e f=>f.foldl (fun a g=>max a (dR n g.typ)) (e.foldl (fun a x=>max a (dR n x)) (cR 9 (.mk k m M s w e f)))
def Qn:Nat->Typ->Prop
 | 0,_=>False
 | n+1,.mk k m M s w e f=>eF 9 (.mk k m M s w e f)/\e.length<=9000000000000/\f.length<=9000000000000/\(∀ x∈e,Qn n x)/\∀ g∈f,Qn n g.typ
theorem lB {α β:Type}{p:β->α->β}{l:List α}{i:Nat}{x:α}(h:l[i]? = some x)(b:β):(l.take (i+1)).foldl p b=p ((l.take i).foldl p b) x:=by rw[aC h,List.foldl_append];rfl
theorem fI:∀ (n:Nat) (t:Typ),Qn n t->ap Tryz.prog aB 111 [t.pv] (.int .i64 (dR n t))
 | 0,_,h=>h.elim
 | n+1,.mk k m M s w e f,h=>by
   have ih:=fI n
   simp only[Qn] at h
   obtain⟨h1,hel,hfl,he,hf⟩:=h
   have hle:=iz 9 _ h1
   simp only[dR]
   generalize cR 9 (.mk k m M s w e f)=z at *
   simp only[Um] at hle
   obtain⟨Q,hQ⟩:∃ Q,Q=fun (a:Int) (x:Typ)=>max a (dR n x):=⟨_,rfl⟩
   obtain⟨R,hR⟩:∃ R,R=fun (a:Int) (x:TFd)=>max a (dR n x.typ):=⟨_,rfl⟩
   rw[<- hQ,<- hR]
   refine ap.intro S4.2 (by simp[S4]) ?_
   simp(maxSteps:=9^7) (disch:=try exact dI) only[S4,Um,push_cast,seval]
   refine ab.pure hle rfl ?_
   simp(maxSteps:=9^7) (disch:=try exact dI) only[push_cast,seval]
   refine aw ([]) (fun i:Nat=>[(3,.pv (.int .i64 ((e.take i).foldl Q z))),(13,.pv (.int .i64 (i:Int)))]) (fun _=>[]) (fun i=>i<=e.length) (fun i=>e.length - i) (0) ?_;intro e0 σ0 n0 h0;simp(maxSteps:=9^7) (disch:=try exact dI) only[push_cast,seval] at h0;obtain⟨rfl,rfl,rfl⟩:=h0;refine⟨?_,?_,?_⟩
   ·simp(maxSteps:=9^7) (disch:=try exact dI) only[U3,List.foldl_nil,push_cast,seval]
   ·omega
   rintro i hi
   by_cases hlt:i<e.length
   ·have hltI:(i:Int)<(e.length:Int):=by omega
    obtain⟨x,hx⟩:∃ x,e[i]? = some x:=⟨_,Uq hlt⟩
    have hc:=ih x (he x (Us hx))
    have hst:=lB (p:=Q) hx z
    rw[show Q ((e.take i).foldl Q z) x=max ((e.take i).foldl Q z) (dR n x) by rw[hQ]] at hst
    generalize dR n x=y at hc hst
    obtain⟨k',m',M',s',w',e',f'⟩:=x
    simp only[Um] at hc
    simp(maxSteps:=9^7) (disch:=try exact dI) only[hx,UM,Um,ae,push_cast,seval]
    refine ab.pure hc rfl ?_
    simp(maxSteps:=9^7) (disch:=try exact dI) only[push_cast,seval]
    exact⟨i+1,aN (by simp(maxSteps:=9^7) (disch:=try exact dI) only[hst,push_cast,seval]),by omega,by omega⟩
   obtain rfl:i=e.length:=by omega
   clear hi hlt
   rw[List.take_length]
   generalize e.foldl Q z=z2
   simp(maxSteps:=9^7) (disch:=try exact dI) only[Int.lt_irrefl,push_cast,seval]
   refine aw ([]) (fun i:Nat=>[(3,.pv (.int .i64 ((f.take i).foldl R z2))),(25,.pv (.int .i64 (i:Int)))]) (fun _=>[]) (fun i=>i<=f.length) (fun i=>f.length - i) (0) ?_;intro e0 σ0 n0 h0;simp(maxSteps:=9^7) (disch:=try exact dI) only[push_cast,seval] at h0;obtain⟨rfl,rfl,rfl⟩:=h0;refine⟨?_,?_,?_⟩
   ·simp(maxSteps:=9^7) (disch:=try exact dI) only[U3,List.foldl_nil,push_cast,seval]
   ·omega
   rintro i hi
   by_cases hlt:i<f.length
   ·have hltI:(i:Int)<(f.length:Int):=by omega
    obtain⟨x,hx⟩:∃ x,f[i]? = some x:=⟨_,Uq hlt⟩
    have hc:=ih x.typ (hf x (Us hx))
    have hst:=lB (p:=R) hx z2
    rw[show R ((f.take i).foldl R z2) x=max ((f.take i).foldl R z2) (dR n x.typ) by rw[hR]] at hst
    generalize dR n x.typ=y at hc hst
    obtain⟨n',nm',nd',⟨k',m',M',s',w',e',f'⟩,d'⟩:=x
    simp only[TFd.typ,Um] at hc
    simp(maxSteps:=9^7) (disch:=try exact dI) only[hx,UM,Um,Uh,ae,push_cast,seval]
    refine ab.pure hc rfl ?_
    simp(maxSteps:=9^7) (disch:=try exact dI) only[push_cast,seval]
    exact⟨i+1,aN (by simp(maxSteps:=9^7) (disch:=try exact dI) only[hst,push_cast,seval]),by omega,by omega⟩
   obtain rfl:i=f.length:=by omega
   clear hi hlt
   rw[List.take_length]
   simp(maxSteps:=9^7) (disch:=try exact dI) only[Int.lt_irrefl,push_cast,seval]
theorem Ca (l:List TFd)(g:Nat)(cs:List PV)(q:TFd->Bool)(hq:∀ x∈l,ap Tryz.prog aB g (x.pv::cs) (.bool (q x)))(hl:l.length<=9000000000000) :
  ap Tryz.prog aB 171 [.list (l.map TFd.pv),.clo g [] cs] (.int .i64 (ib q l 0)):=by
 refine ap.intro Nl.2 (by simp[Nl]) ?_
 simp(disch:=try exact dI) only[Nl,push_cast,seval]
 refine aw ([]) (fun m:Nat=>[(8,.pv (.int .i64 (m:Int)))]) (fun m=>[]) (fun m=>m<=l.length/\ib q l 0=ib q (l.drop m) m) (fun m=>l.length - m) (0) ?_;intro e0 σ0 n0 h0;simp(disch:=try exact dI) only[push_cast,seval] at h0;obtain⟨rfl,rfl,rfl⟩:=h0;refine⟨?_,?_,?_⟩
 ·exact qsZ
 ·exact⟨by omega,by simp⟩
 ·rintro m ⟨hm,he⟩
  by_cases hlt:m<l.length
  ·have hltI:(m:Int)<l.length:=by omega
   obtain⟨x,hx⟩:∃ x,l[m]? = some x:=⟨_,Uq hlt⟩
   have hcall:=hq x (Us hx)
   simp(disch:=try exact dI) only[hx,TFd.cells_len,TFd.isAgg,push_cast,seval]
   refine ab.pure hcall (by exact sr (x.pv::cs)) ?_
   cases hqx:q x with
   | true=>
     rw[he,jP hx hqx]
     exact qsZ
   | false=>
     rw[gA hx hqx] at he
     refine zgZ ?_
     exact⟨m+1,aN qsZ,⟨by omega,he⟩,by omega⟩
  ·have hltI:¬ (m:Int)<l.length:=by omega
   rw[he,jQ hlt]
   exact qsZ
theorem wW (l:List TFd)(g:Nat)(cs:List PV)(q:TFd->Bool)(hq:∀ x∈l,ap Tryz.prog aB g (x.pv::cs) (.bool (q x)))(hl:l.length<=9000000000000) :
  ap Tryz.prog aB 154 [.list (l.map TFd.pv),.clo g [] cs] (.bool (l.any q)):=by
 have h94:=Ca l g cs q hq hl
 have hfa:=i6 (p:=q) l
 refine ap.intro Jc.2 (by simp[Jc]) ?_
 rcases er (p:=q) l 0 with ⟨h1,h2⟩ | ⟨k,x,h1,h2,h3⟩
 ·rw[h2] at h94
  rw[h1] at hfa
  rw[<- hfa]
  simp(disch:=try exact dI) only[Jc,push_cast,seval]
  refine ab.pure h94 rfl ?_
  refine zgZ ?_
  exact .refl _
 ·rw[h3] at h94
  rw[h2] at hfa
  rw[<- hfa]
  have hk:(0:Int)<=((0+k:Nat):Int):=by omega
  generalize ((0+k:Nat):Int)=z at *
  simp(disch:=try exact dI) only[Jc,push_cast,seval]
  refine ab.pure h94 rfl ?_
  refine zgZ ?_
  exact .refl _
