/- A part. -/
import Derived.Test.YtbaaokocnegdoaaGreatDoorEnVU4
set_option linter.unusedVariables false
set_option linter.unusedSimpArgs false
set_option maxHeartbeats 16000000
set_option maxRecDepth 100000
open List renaming getElem?_eq_getElem->Vg,length_take->Vs,take_zero->V8,mem_of_getElem?->Vk,take_length->VR,flatMap_cons->Wy,length_append->Vp,length_map->Vv
open Option renaming map_some->Vl
open Int renaming lt_irrefl->VH
namespace Go.Proofs.YtbaaokocnegdoaaGreatDoor
open Go Go.Ab
attribute [local irreducible] vc
def gC (k nd:Int)(d:List Val):Int:=if inB nd 1 3=false then 11 else if k=10/\¬ nd=1 then 11 else if nd=3/\d.length=0 then 4 else if 1<d.length then 3 else if ¬ nd=3/\0<d.length then 3 else 0
theorem iS (k:Int)(b:List TFd)(n:Int)(nm:List UInt8)(nd:Int)(t:Typ)(d:List Val):dh k b (.mk n nm nd t d)=if bP nm=false then 12 else if inB n 1 9999=false then 2 else if b.any (j1 n nm)=true then 7 else gC k nd d:=rfl
theorem xz {k nd:Int}{d:List Val}(hb:inB nd 1 3=true)(hk:¬ (k=10/\¬ nd=1)) :
  gC k nd d=4/\nd=3/\d.length=0\/gC k nd d=3/\1<d.length\/gC k nd d=3/\¬ nd=3/\d.length=1\/gC k nd d=0/\nd=3/\d.length=1\/gC k nd d=0/\¬ nd=3/\d.length=0:=by
 unfold gC
 rw[hb,if_neg (show ¬ true=false by decide),if_neg hk]
 split
 ·omega
 ·split
  ·omega
  ·split<;>omega
theorem Ew (k m M s:Int)(w:List (List UInt8))(e:List Typ)(f:List TFd):ae Tryz.prog aq 200 [(Typ.mk k m M s w e f).pv] (.int .i64 (if 64<f.length then 9 else bf k [] f)):=by
 by_cases h64:64<f.length
 ·have h64I:(64:Int)<(f.length:Int):=by omega
  rw[if_pos h64]
  refine ae.intro OJ.2 (by simp[OJ]) ?_
  simp(disch:=try exact dI) only[OJ,Vd,h64I,push_cast,seval]
 have h64I:¬ (64:Int)<(f.length:Int):=by omega
 rw[if_neg h64]
 obtain⟨R,hR⟩:∃ R,R=bf k [] f:=⟨_,rfl⟩
 rw[<- hR]
 refine ae.intro OJ.2 (by simp[OJ]) ?_
 simp(disch:=try exact dI) only[OJ,Vd,h64I,push_cast,seval]
 refine ap ([]) (fun i:Nat=>[(3,.pv (.int .i64 (i:Int)))]) (fun _=>[]) (fun i=>i<=f.length/\R=bf k (f.take i) (f.drop i)) (fun i=>f.length - i) (0) ?_;intro e0 σ0 n0 h0;simp(disch:=try exact dI) only[push_cast,seval] at h0;obtain⟨rfl,rfl,rfl⟩:=h0;refine⟨?_,?_,?_⟩
 ·exact qsZ
 ·exact⟨by omega,by simpa using hR⟩
 rintro i ⟨hi,hr⟩
 by_cases hlt:i<f.length
 ·have hltI:(i:Int)<(f.length:Int):=by omega
  obtain⟨g,hg⟩:∃ g,f[i]? = some g:=⟨_,Vg hlt⟩
  rw[j0 hg] at hr
  obtain⟨n,nm,nd,⟨k',m',M',s',w',e',f'⟩,d⟩:=g
  rw[iS] at hr
  have hn:=tz nm
  have hi1:=mj n 1 9999
  have hi2:=mj nd 1 3
  obtain⟨R',hR'⟩:∃ R',R'=bf k (f.take (i+1)) (f.drop (i+1)):=⟨_,rfl⟩
  rw[<- hR'] at hr
  simp(disch:=try exact dI) only[hg,Vl,U7,Vd,ag,push_cast,seval]
  refine ab.pure hn rfl ?_
  cases hb1:bP nm with
  | false=>
    rw[hb1,if_pos rfl,if_neg (by decide)] at hr
    subst hr
    exact qsZ
  | true=>
  rw[hb1,if_neg (show ¬ true=false by decide)] at hr
  refine zgZ ?_
  refine ab.pure hi1 rfl ?_
  cases hb2:inB n 1 9999 with
  | false=>
    rw[hb2,if_pos rfl,if_neg (by decide)] at hr
    subst hr
    exact qsZ
  | true=>
  rw[hb2,if_neg (show ¬ true=false by decide)] at hr
  refine zgZ ?_
  refine ap ([]) (fun j:Nat=>[(5,.pv (.int .i64 (j:Int)))]) (fun _=>[]) (fun j=>j<=i/\(f.take i).any (j1 n nm)=((f.take i).drop j).any (j1 n nm)) (fun j=>i - j) (0) ?_;intro e0 σ0 n0 h0;simp(disch:=try exact dI) only[push_cast,seval] at h0;obtain⟨rfl,rfl,rfl⟩:=h0;refine⟨?_,?_,?_⟩
  ·exact qsZ
  ·exact⟨by omega,by simp⟩
  rintro j ⟨hj,hd⟩
  by_cases hjlt:j<i
  ·have hjI:(j:Int)<(i:Int):=by omega
   obtain⟨x,hx⟩:∃ x,f[j]? = some x:=⟨_,Vg (by omega)⟩
   have hx':(f.take i)[j]? = some x:=by rw[List.getElem?_take_of_lt hjlt];exact hx
   rw[ja hx'] at hd
   obtain⟨xn,xnm,xnd,⟨a1,a2,a3,a4,a5,a6,a7⟩,xd⟩:=x
   by_cases q1:xnm=nm
   ·rw[show j1 n nm (TFd.mk xn xnm xnd (Typ.mk a1 a2 a3 a4 a5 a6 a7) xd)=true by simp[j1,TFd.name,q1],Bool.true_or] at hd
    rw[hd,if_pos rfl,if_neg (by decide)] at hr
    subst hr
    simp(disch:=try exact dI) only[hx,Vl,U7,Vd,ag,q1,push_cast,seval]
   ·by_cases q2:xn=n
    ·rw[show j1 n nm (TFd.mk xn xnm xnd (Typ.mk a1 a2 a3 a4 a5 a6 a7) xd)=true by simp[j1,TFd.number,q2],Bool.true_or] at hd
     rw[hd,if_pos rfl,if_neg (by decide)] at hr
     subst hr
     simp(disch:=try exact dI) only[hx,Vl,U7,Vd,ag,q1,q2,push_cast,seval]
    ·rw[show j1 n nm (TFd.mk xn xnm xnd (Typ.mk a1 a2 a3 a4 a5 a6 a7) xd)=false by simp[j1,TFd.name,TFd.number,q1,q2],Bool.false_or] at hd
     simp(disch:=try exact dI) only[hx,Vl,U7,Vd,ag,q1,q2,push_cast,seval]
     exact⟨j+1,aI qsZ,⟨by omega,hd⟩,by omega⟩
  obtain rfl:j=i:=by omega
  rw[List.drop_of_length_le (by rw[Vs];omega),List.any_nil] at hd
  rw[hd,if_neg (show ¬ false=true by decide)] at hr
  clear hd hj hjlt
  simp(disch:=try exact dI) only[VH,push_cast,seval]
  refine ab.pure hi2 rfl ?_
  cases hb3:inB nd 1 3 with
  | false=>
    rw[show gC k nd d=11 by simp[gC,hb3],if_neg (by decide)] at hr
    subst hr
    exact qsZ
  | true=>
  by_cases hk:k=10/\¬ nd=1
  ·rw[show gC k nd d=11 by simp[gC,hb3,hk],if_neg (by decide)] at hr
   subst hr
   obtain⟨hk1,hnd⟩:=hk
   simp(disch:=try exact dI) only[hk1,hnd,push_cast,seval]
  have hc5:=xz (d:=d) hb3 hk
  have hk':k=10/\nd=1\/¬ k=10:=by
   by_cases h:k=10
   ·exact .inl ⟨h,Decidable.byContradiction fun hh=>hk ⟨h,hh⟩⟩
   ·exact .inr h
  clear hk
  generalize gC k nd d=x at hc5 hr
  rcases hc5 with ⟨rfl,rfl,h0⟩ | ⟨rfl,h1⟩ | ⟨rfl,hnd,h0⟩ | ⟨rfl,rfl,h0⟩ | ⟨rfl,hnd,h0⟩
  ·rw[if_neg (by decide)] at hr
   subst hr
   rcases hk' with ⟨_,hh⟩ | hk
   ·exact absurd hh (by decide)
   ·have h0I:(d.length:Int)=0:=by omega
    simp(disch:=try exact dI) only[hk,h0I,push_cast,seval]
  ·rw[if_neg (by decide)] at hr
   subst hr
   have h0I:¬ (d.length:Int)=0:=by omega
   have h1I:(1:Int)<d.length:=by omega
   rcases hk' with ⟨hk,rfl⟩ | hk
   ·simp(disch:=try exact dI) only[hk,h0I,h1I,push_cast,seval]
   ·by_cases hnd:nd=3
    ·simp(disch:=try exact dI) only[hk,hnd,h0I,h1I,push_cast,seval]
    ·simp(disch:=try exact dI) only[hk,hnd,h0I,h1I,push_cast,seval]
  ·rw[if_neg (by decide)] at hr
   subst hr
   have h0I:(d.length:Int)=1:=by omega
   rcases hk' with ⟨hk,rfl⟩ | hk
   ·simp(disch:=try exact dI) only[hk,h0I,push_cast,seval]
   ·simp(disch:=try exact dI) only[hk,hnd,h0I,push_cast,seval]
  ·rw[if_pos rfl] at hr
   have h0I:(d.length:Int)=1:=by omega
   rcases hk' with ⟨_,hh⟩ | hk
   ·exact absurd hh (by decide)
   ·simp(disch:=try exact dI) only[hk,h0I,push_cast,seval]
    exact⟨j+1,aI qsZ,⟨by omega,hr.trans hR'⟩,by omega⟩
  ·rw[if_pos rfl] at hr
   have h0I:(d.length:Int)=0:=by omega
   rcases hk' with ⟨hk,rfl⟩ | hk
   ·simp(disch:=try exact dI) only[hk,h0I,push_cast,seval]
    exact⟨j+1,aI qsZ,⟨by omega,hr.trans (hk▸hR')⟩,by omega⟩
   ·simp(disch:=try exact dI) only[hk,hnd,h0I,push_cast,seval]
    exact⟨j+1,aI qsZ,⟨by omega,hr.trans hR'⟩,by omega⟩
 ·obtain rfl:i=f.length:=by omega
  rw[List.drop_length,bf] at hr
  subst hr
  simp(disch:=try exact dI) only[VH,push_cast,seval]
def cj:Nat->Typ->Int
 | 0,_=>1
 | n+1,.mk k m _ _ _ e f=>min (1+cm (cj n) k m e f) 5000
def dM:Nat->Typ->Prop
 | 0,_=>False
 | n+1,.mk k m _ _ _ e f=>(k=8->0<m->m<=256/\∃ x r,e=x::r/\dM n x)/\(k=10->∃ g r,f=g::r/\g.need=1/\dM n g.typ)/\(k=9->f.length<=64/\∀ g∈f,lE (dM n) g)/\(¬ (k=9\/k=10)->f=[])
theorem vo {n:Nat}(hle:∀ t,dM n t->1<=cj n t/\cj n t<=5000){g:TFd}(hg:lE (dM n) g):0<=ic (cj n) g/\ic (cj n) g<=1000000000000:=by
 obtain⟨a,b,nd,t,d⟩:=g
 simp only[ic,lE] at hg ⊢
 by_cases h1:nd=1
 ·rw[if_pos h1];have:=hle t (hg.1 h1);omega
 ·rw[if_neg h1]
  by_cases h3:nd=3
  ·obtain⟨x,r,rfl,hx⟩:=hg.2 h3
   rw[if_pos h3]
   have:=hx.2.2
   simp only[Ol];omega
  ·rw[if_neg h3];omega
theorem gn:∀ (n:Nat) (t:Typ),dM n t->1<=cj n t/\cj n t<=5000
 | 0,_,h=>h.elim
 | n+1,.mk k m M s w e f,h=>by
   simp only[cj,dM] at h ⊢
   obtain⟨h8,h10,h9,_⟩:=h
   refine⟨?_,by omega⟩
   have key:0<=cm (cj n) k m e f:=by
    unfold cm
    split
    ·split
     ·rename_i e1 e2
      obtain⟨_,x,r,rfl,hx⟩:=h8 e1 e2
      have:=gn n x hx
      exact Int.mul_nonneg (by omega) (by simp only[D1];omega)
     ·omega
    ·split
     ·rename_i e1 e2
      obtain⟨g,r,rfl,_,hx⟩:=h10 e2
      have:=gn n g.typ hx
      obtain⟨a,b,c,t,d⟩:=g
      simp only[D2,TFd.typ] at this ⊢;omega
     ·split
      ·rename_i e1
       exact (lc f fun g hg=>vo (gn n) ((h9 e1).2 g hg)).1
      ·omega
   omega
theorem vU:∀ (n:Nat) (t:Typ),dM n t->ae Tryz.prog aq 150 [t.pv] (.int .i64 (cj n t))
 | 0,_,h=>h.elim
 | n+1,.mk k m M s w e f,h=>by
   have ih:=vU n
   have hle:=gn n
   have hpos:∀ g,lE (dM n) g->0<=ic (cj n) g/\ic (cj n) g<=1000000000000:=fun g hg=>vo hle hg
   simp only[dM] at h
   obtain⟨h8,h10,h9,hf⟩:=h
   simp only[cj]
   generalize cj n=L at *
   refine ae.intro N9.2 (by simp[N9]) ?_
   by_cases hk8:k=8
   ·subst hk8
    obtain rfl:=hf (by omega)
    by_cases hm:0<m
    ·obtain⟨hm2,x,r,rfl,hx⟩:=h8 rfl hm
     have hc:=ih x hx
     have hl:=hle x hx
     obtain⟨k',m',M',s',w',e',f'⟩:=x
     simp only[Vd] at hc
     generalize hz:L (Typ.mk k' m' M' s' w' e' f')=z at hc hl
     have hmul:0<=m*z:=Int.mul_nonneg (by omega) (by omega)
     have hmul2:m*z<=256*5000:=Int.mul_le_mul hm2 hl.2 (by omega) (by omega)
     have hmm:cm L 8 m (Typ.mk k' m' M' s' w' e' f'::r) []=m*z:=by simp only[cm,D1,hz,if_pos hm,if_true]
     clear hz
     rw[hmm]
     simp(disch:=try exact dI) only[N9,Vd,hm,az,push_cast,seval]
     refine ak hc rfl ?_
     refine zgZ ?_
     refine ap ([]) (fun i:Nat=>[(4,.pv (.int .i64 (i:Int)))]) (fun _=>[]) (fun i=>i=0) (fun i=>1 - i) (0) ?_;intro e0 σ0 n0 h0;simp(disch:=try exact dI) only[push_cast,seval] at h0;obtain⟨rfl,rfl,rfl⟩:=h0;refine⟨?_,?_,?_⟩
     ·exact qsZ
     ·rfl
     rintro i rfl
     simp(disch:=try exact dI) only[VH,push_cast,seval]
    ·rw[show cm L 8 m e []=0 by simp only[cm,if_neg hm,if_true]]
     simp(disch:=try exact dI) only[N9,Vd,hm,push_cast,seval]
     refine ap ([]) (fun i:Nat=>[(4,.pv (.int .i64 (i:Int)))]) (fun _=>[]) (fun i=>i=0) (fun i=>1 - i) (0) ?_;intro e0 σ0 n0 h0;simp(disch:=try exact dI) only[push_cast,seval] at h0;obtain⟨rfl,rfl,rfl⟩:=h0;refine⟨?_,?_,?_⟩
     ·exact qsZ
     ·rfl
     rintro i rfl
     simp(disch:=try exact dI) only[VH,push_cast,seval]
   by_cases hk10:k=10
   ·subst hk10
    obtain⟨g,r,rfl,hnd,hx⟩:=h10 rfl
    have hc:=ih _ hx
    have hl:=hle _ hx
    obtain⟨n',nm',nd',⟨k',m',M',s',w',e',f'⟩,d'⟩:=g
    simp only[TFd.typ,TFd.need] at hc hl hnd
    subst hnd
    simp only[Vd] at hc
    generalize hz:L (Typ.mk k' m' M' s' w' e' f')=z at hc hl
    have hmm:cm L 10 m e (TFd.mk n' nm' 1 (Typ.mk k' m' M' s' w' e' f') d'::r)=z:=by simp[cm,D2,hz]
    clear hz
    rw[hmm]
    have hg:(TFd.mk n' nm' 1 (Typ.mk k' m' M' s' w' e' f') d'::r)[0]? = some (TFd.mk n' nm' 1 (Typ.mk k' m' M' s' w' e' f') d'):=rfl
    generalize hf0:TFd.mk n' nm' 1 (Typ.mk k' m' M' s' w' e' f') d'::r=f at *
    have h0:(0:Int)<(f.length:Int):=by rw[<- hf0,List.length_cons];omega
    clear hf0
    simp(disch:=try exact dI) only[N9,Vd,push_cast,seval]
    refine ap ([]) (fun x:Nat×Int=>[(3,.pv (.int .i64 x.2)),(4,.pv (.int .i64 (x.1:Int)))]) (fun _=>[]) (fun x=>x=(0,1)\/x=(1,1+z)) (fun x=>2 - x.1) ((0,1)) ?_;intro e0 σ0 n0 h0;simp(disch:=try exact dI) only[push_cast,seval] at h0;obtain⟨rfl,rfl,rfl⟩:=h0;refine⟨?_,?_,?_⟩
    ·exact qsZ
    ·exact .inl rfl
    rintro x (rfl | rfl)
    ·simp(disch:=try exact dI) only[hg,Vl,U7,Vd,ag,h0,az,push_cast,seval]
     refine ab.pure hc rfl ?_
     refine zgZ ?_
     exact⟨(1,1+z),aI qsZ,.inr rfl,by simp only;omega⟩
    ·by_cases h1:(1:Int)<(f.length:Int)
     ·simp(disch:=try exact dI) only[h1,push_cast,seval]
     ·simp(disch:=try exact dI) only[h1,push_cast,seval]
   by_cases hk9:k=9
   ·subst hk9
    obtain⟨hf,hr⟩:=h9 rfl
    rw[show cm L 9 m e f=(f.map (ic L)).sum by simp[cm]]
    have hrp:∀ g∈f,0<=ic L g/\ic L g<=1000000000000:=fun g hg=>hpos g (hr g hg)
    simp(disch:=try exact dI) only[N9,Vd,push_cast,seval]
    refine ap ([]) (fun i:Nat=>[(3,.pv (.int .i64 (1+((f.take i).map (ic L)).sum))),(4,.pv (.int .i64 (i:Int)))]) (fun _=>[]) (fun i=>i<=f.length) (fun i=>f.length - i) (0) ?_;intro e0 σ0 n0 h0;simp(disch:=try exact dI) only[push_cast,seval] at h0;obtain⟨rfl,rfl,rfl⟩:=h0;refine⟨?_,?_,?_⟩
    ·simp(disch:=try exact dI) only[V8,List.map_nil,List.sum_nil,push_cast,seval]
    ·omega
    rintro i hi
    have hsm:=lc (f.take i) fun g hg=>hrp g (List.mem_of_mem_take hg)
    rw[Vs] at hsm
    by_cases hlt:i<f.length
    ·have hltI:(i:Int)<(f.length:Int):=by omega
     obtain⟨g,hg⟩:∃ g,f[i]? = some g:=⟨_,Vg hlt⟩
     have hst:=uQ (p:=ic L) hg
     have hgr:=hr g (Vk hg)
     have hgp:=hrp g (Vk hg)
     obtain⟨n',nm',nd',⟨k',m',M',s',w',e',f'⟩,d'⟩:=g
     simp only[lE] at hgr
     generalize hS:((f.take i).map (ic L)).sum=S at *
     by_cases h1:nd'=1
     ·subst h1
      have hc:=ih _ (hgr.1 rfl)
      simp only[Vd] at hc
      simp only[ic,if_true] at hst hgp
      generalize L (Typ.mk k' m' M' s' w' e' f')=z at hc hst hgp
      simp(disch:=try exact dI) only[hg,Vl,U7,Vd,ag,push_cast,seval]
      refine ab.pure hc rfl ?_
      refine zgZ ?_
      exact⟨i+1,aI (by simp(disch:=try exact dI) only[hst,Int.add_assoc,push_cast,seval]),by omega,by omega⟩
     ·by_cases h3:nd'=3
      ·subst h3
       obtain⟨x,r,rfl,hx⟩:=hgr.2 rfl
       have hc:=BP 9 x hx.1 hx.2.1 (by have:=hx.2.2;rw[oP] at this;omega)
       simp only[ic,if_neg h1,if_true,Ol,oP] at hst hgp
       generalize (szN 9 x:Int)=z at hc hst hgp
       obtain⟨vk,vn,vs,vt,vl,vf⟩:=x
       simp only[Vf] at hc
       simp(disch:=try exact dI) only[hg,Vl,U7,Vd,ag,az,Vf,push_cast,seval]
       refine ab.pure hc rfl ?_
       refine zgZ ?_
       exact⟨i+1,aI (by simp(disch:=try exact dI) only[hst,Int.add_assoc,push_cast,seval]),by omega,by omega⟩
      ·simp only[ic,if_neg h1,if_neg h3] at hst
       simp(disch:=try exact dI) only[hg,Vl,U7,Vd,ag,h1,h3,push_cast,seval]
       exact⟨i+1,aI (by simp(disch:=try exact dI) only[hst,Int.add_zero,push_cast,seval]),by omega,by omega⟩
    ·have he:i=f.length:=by omega
     subst he
     rw[VR] at hsm ⊢
     simp(disch:=try exact dI) only[VH,push_cast,seval]
   ·obtain rfl:=hf (by omega)
    rw[show cm L k m e []=0 by simp[cm,hk8,hk9,hk10]]
    simp(disch:=try exact dI) only[N9,Vd,push_cast,seval]
    refine ap ([]) (fun i:Nat=>[(4,.pv (.int .i64 (i:Int)))]) (fun _=>[]) (fun i=>i=0) (fun i=>1 - i) (0) ?_;intro e0 σ0 n0 h0;simp(disch:=try exact dI) only[push_cast,seval] at h0;obtain⟨rfl,rfl,rfl⟩:=h0;refine⟨?_,?_,?_⟩
    ·exact qsZ
    ·rfl
    rintro i rfl
    simp(disch:=try exact dI) only[VH,push_cast,seval]
def dg:Nat->Typ->Int
 | 0,_=>0
 | n+1,.mk k m M s w e f=>f.foldl (fun a g=>max a (dg n g.typ)) (e.foldl (fun a x=>max a (dg n x)) (cj 9 (.mk k m M s w e f)))
def NV:Nat->Typ->Prop
 | 0,_=>False
 | n+1,.mk k m M s w e f=>dM 9 (.mk k m M s w e f)/\e.length<=1000000000/\f.length<=1000000000/\(∀ x∈e,NV n x)/\∀ g∈f,NV n g.typ
theorem nY:∀ (n:Nat) (t:Typ),NV n t->ae Tryz.prog aq 99 [t.pv] (.int .i64 (dg n t))
 | 0,_,h=>h.elim
 | n+1,.mk k m M s w e f,h=>by
   have ih:=nY n
   simp only[NV] at h
   obtain⟨h1,hel,hfl,he,hf⟩:=h
   have hle:=vU 9 _ h1
   simp only[dg]
   generalize cj 9 (.mk k m M s w e f)=z at *
   simp only[Vd] at hle
   obtain⟨Q,hQ⟩:∃ Q,Q=fun (a:Int) (x:Typ)=>max a (dg n x):=⟨_,rfl⟩
   obtain⟨R,hR⟩:∃ R,R=fun (a:Int) (x:TFd)=>max a (dg n x.typ):=⟨_,rfl⟩
   rw[<- hQ,<- hR]
   refine ae.intro Q99.2 (by simp[Q99]) ?_
   simp(disch:=try exact dI) only[Q99,Vd,push_cast,seval]
   refine ab.pure hle rfl ?_
   refine zgZ ?_
   refine ap ([]) (fun i:Nat=>[(3,.pv (.int .i64 ((e.take i).foldl Q z))),(4,.pv (.int .i64 (i:Int)))]) (fun _=>[]) (fun i=>i<=e.length) (fun i=>e.length - i) (0) ?_;intro e0 σ0 n0 h0;simp(disch:=try exact dI) only[push_cast,seval] at h0;obtain⟨rfl,rfl,rfl⟩:=h0;refine⟨?_,?_,?_⟩
   ·simp(disch:=try exact dI) only[V8,List.foldl_nil,push_cast,seval]
   ·omega
   rintro i hi
   by_cases hlt:i<e.length
   ·have hltI:(i:Int)<(e.length:Int):=by omega
    obtain⟨x,hx⟩:∃ x,e[i]? = some x:=⟨_,Vg hlt⟩
    have hc:=ih x (he x (Vk hx))
    have hst:=go (p:=Q) hx z
    rw[show Q ((e.take i).foldl Q z) x=max ((e.take i).foldl Q z) (dg n x) by rw[hQ]] at hst
    generalize dg n x=y at hc hst
    obtain⟨k',m',M',s',w',e',f'⟩:=x
    simp only[Vd] at hc
    simp(disch:=try exact dI) only[hx,Vl,Vd,ag,push_cast,seval]
    refine ab.pure hc rfl ?_
    refine zgZ ?_
    exact⟨i+1,aI (by simp(disch:=try exact dI) only[hst,push_cast,seval]),by omega,by omega⟩
   obtain rfl:i=e.length:=by omega
   clear hi hlt
   rw[VR]
   generalize e.foldl Q z=z2
   simp(disch:=try exact dI) only[VH,push_cast,seval]
   refine ap ([]) (fun i:Nat=>[(3,.pv (.int .i64 ((f.take i).foldl R z2))),(5,.pv (.int .i64 (i:Int)))]) (fun _=>[]) (fun i=>i<=f.length) (fun i=>f.length - i) (0) ?_;intro e0 σ0 n0 h0;simp(disch:=try exact dI) only[push_cast,seval] at h0;obtain⟨rfl,rfl,rfl⟩:=h0;refine⟨?_,?_,?_⟩
   ·simp(disch:=try exact dI) only[V8,List.foldl_nil,push_cast,seval]
   ·omega
   rintro i hi
   by_cases hlt:i<f.length
   ·have hltI:(i:Int)<(f.length:Int):=by omega
    obtain⟨x,hx⟩:∃ x,f[i]? = some x:=⟨_,Vg hlt⟩
    have hc:=ih x.typ (hf x (Vk hx))
    have hst:=go (p:=R) hx z2
    rw[show R ((f.take i).foldl R z2) x=max ((f.take i).foldl R z2) (dg n x.typ) by rw[hR]] at hst
    generalize dg n x.typ=y at hc hst
    obtain⟨n',nm',nd',⟨k',m',M',s',w',e',f'⟩,d'⟩:=x
    simp only[TFd.typ,Vd] at hc
    simp(disch:=try exact dI) only[hx,Vl,Vd,U7,ag,push_cast,seval]
    refine ab.pure hc rfl ?_
    refine zgZ ?_
    exact⟨i+1,aI (by simp(disch:=try exact dI) only[hst,push_cast,seval]),by omega,by omega⟩
   obtain rfl:i=f.length:=by omega
   clear hi hlt
   rw[VR]
   simp(disch:=try exact dI) only[VH,push_cast,seval]
theorem fc:∀ (n:Nat) (v:Val),cL n v->cL (n+1) v
 | 0,_,h=>h.elim
 | n+1,v,h=>fun x hx=>fc n x (h x hx)
theorem jE {α β:Type}{p q:α->List β}:∀ (l:List α),(∀ x∈l,p x=q x)->l.flatMap p=l.flatMap q
 | [],_=>rfl
 | x::r,h=>by rw[Wy,Wy,h x (List.mem_cons_self ..),jE r fun y hy=>h y (List.mem_cons_of_mem _ hy)]
theorem CO:∀ (n:Nat) (lv:Int) (v:Val),cL n v->ck (n+1) lv v=ck n lv v
 | 0,_,_,h=>h.elim
 | n+1,lv,v,h=>by
   rw[ck,ck]
   congr 1
   exact jE _ fun x hx=>CO n (lv+1) x (h x hx)
def j9 (S:List (Int×Val)):List (Int×Val):=S.reverse.flatMap fun q=>ck 9 q.1 q.2
theorem GY (S:List (Int×Val))(q:Int×Val):j9 (S++[q])=ck 9 q.1 q.2++j9 S:=by
 simp[j9]
def CN (q:Int×Val):List (Int×Val):=(aX q.2).reverse.map fun x=>(q.1+1,x)
theorem B5 (S:List (Int×Val))(q:Int×Val)(h:cL 9 q.2):j9 (S++[q])=q::j9 (S++CN q):=by
 rw[GY]
 obtain⟨lv,v⟩:=q
 rw[ck,List.cons_append]
 congr 1
 simp only[j9,CN,List.reverse_append,List.flatMap_append,List.map_reverse,List.reverse_reverse,List.flatMap_map]
 congr 1
 exact jE _ fun x hx=>(CO 8 (lv+1) x (h x hx)).symm
theorem CM {q x:Int×Val}(h:cL 9 q.2)(hx:x∈CN q):cL 9 x.2:=by
 obtain⟨y,hy,rfl⟩:=List.mem_map.1 hx
 exact fc 8 y (h y (List.mem_reverse.1 hy))
theorem GA (c:Nat)(q:Int×Val):bc c q=if 4096<=c then 9 else if 8<q.1 then 23 else Mr q.2:=by
 unfold bc Mr
 rfl
theorem Jf (S:List (Int×Val))(q:Int×Val)(c:Nat)(h:cL 9 q.2):jg c (j9 (S++[q]))=if bc c q=0 then jg (c+1) (j9 (S++CN q)) else bc c q:=by
 rw[B5 S q h,jg]
def mg:Int×Val->PV
 | (lv,.mk k n s t l f)=>.agg [.int .i64 k,.int .i64 n,.int .i64 s,.str t,.list (l.map Val.pv),.list (f.map Fld.pv),.int .i64 lv]
theorem vX (q:Int×Val):(mg q).cells.length=7:=by obtain⟨lv,⟨k,n,s,t,l,f⟩⟩:=q;rfl
theorem In (q:Int×Val):mg q = .agg (mg q).cells:=by obtain⟨lv,⟨k,n,s,t,l,f⟩⟩:=q;rfl
def sK (S:List (Int×Val)):List PV:=S.flatMap fun q=>(mg q).cells
theorem ky (S T:List (Int×Val)):sK (S++T)=sK S++sK T:=by simp[sK]
theorem ir (q:Int×Val):sK [q]=(mg q).cells:=by simp[sK]
theorem iu:∀ (S:List (Int×Val)),(sK S).length=S.length*7
 | []=>rfl
 | q::r=>by
   rw[show q::r=[q]++r from rfl,ky,Vp,iu r,ir,vX]
   simp;omega
theorem pvs_map:∀ (l:List PV),pvs (l.map AV.pv)=some l
 | []=>rfl
 | x::r=>by rw[List.map_cons,oO];rw[pvs_map r];rfl
theorem CU (S:List (Int×Val))(q:Int×Val)(J:List PV):Mo 7 (S.length*7) ((sK (S++[q])++J).map AV.pv)=some (.pv (mg q)):=by
 rw[<- CV]
 unfold d7
 simp only
 rw[if_pos (by rw[Vv,Vp,iu,Vp];simp;omega)]
 rw[<- List.map_drop,<- List.map_take,ky,List.append_assoc,List.drop_left' (iu S),List.take_left' (by rw[ir,vX]),ir,Dq,pvs_map,l9,<- In]
theorem Jt {new r len:Nat}{f:Bool}{S:List (Int×Val)}{J:List PV}{y:PV}(h:S.length=len)(hl:len<=2000000):up 259 7 96 new r 7 0 len [y] (.cells 259 f ((sK S++J).map AV.pv))=some (.row new 7 0 (len+1),[(r,.none),(new,.cells 259 false ((sK S++y.cells).map AV.pv))]):=by
 subst h
 rw[kP (by rw[Vv,Vp,iu];omega) (by simp;omega) (by simp;omega),<- List.map_take,List.take_left' (iu S),List.map_append]
 simp[bC]
