/- A part of the proof. -/
import Derived.Test.YtbojpfpliibfbaaGreatDoorEnRU5
set_option maxHeartbeats 16000000
set_option maxRecDepth 100000
set_option linter.unusedVariables false
set_option linter.unusedSimpArgs false
-- many steps
namespace Go.Proofs.YtbojpfpliibfbaaGreatDoor
open Go Go.Ab
attribute [local irreducible] vc
def f7 (k nd:Int)(d:List Val):Int:=if inB nd 1 3=false then 11 else if k=10/\¬ nd=1 then 11 else if nd=3/\d.length=0 then 4 else if 1<d.length then 3 else if ¬ nd=3/\0<d.length then 3 else 0
theorem kx (k:Int)(b:List TFd)(n:Int)(nm:List UInt8)(nd:Int)(t:Typ)(d:List Val):bE k b (.mk n nm nd t d)=if bO nm=false then 12 else if inB n 1 9999=false then 2 else if b.any (ky n nm)=true then 7 else f7 k nd d:=rfl
theorem tq {k nd:Int}{d:List Val}(hb:inB nd 1 3=true)(hk:¬ (k=10/\¬ nd=1)) :
  f7 k nd d=4/\nd=3/\d.length=0\/f7 k nd d=3/\1<d.length\/f7 k nd d=3/\¬ nd=3/\d.length=1\/f7 k nd d=0/\nd=3/\d.length=1\/f7 k nd d=0/\¬ nd=3/\d.length=0:=by
 unfold f7
 rw[hb,if_neg (show ¬ true=false by decide),if_neg hk]
 split
 ·omega
 ·split
  ·omega
  ·split<;>omega
theorem bZ (k m M s:Int)(w:List (List UInt8))(e:List Typ)(f:List TFd):am Tryz.prog az 187 [(Typ.mk k m M s w e f).pv] (.int .i64 (if 64<f.length then 9 else aC k [] f)):=by
 by_cases h64:64<f.length
 ·have h64I:(64:Int)<(f.length:Int):=by omega
  rw[if_pos h64]
  refine am.intro Kx.2 (by simp[Kx]) ?_
  simp(disch:=try exact dI) only[Kx,Typ.pv_mk,h64I,push_cast,seval]
 have h64I:¬ (64:Int)<(f.length:Int):=by omega
 rw[if_neg h64]
 obtain⟨R,hR⟩:∃ R,R=aC k [] f:=⟨_,rfl⟩
 rw[<- hR]
 refine am.intro Kx.2 (by simp[Kx]) ?_
 simp(disch:=try exact dI) only[Kx,Typ.pv_mk,h64I,push_cast,seval]
 refine au ([]) (fun i:Nat=>[(3,.pv (.int .i64 (i:Int)))]) (fun _=>[]) (fun i=>i<=f.length/\R=aC k (f.take i) (f.drop i)) (fun i=>f.length - i) (0) ?_;intro e0 σ0 n0 h0;simp(disch:=try exact dI) only[push_cast,seval] at h0;obtain⟨rfl,rfl,rfl⟩:=h0;refine⟨?_,?_,?_⟩
 ·exact qsZ
 ·exact⟨by omega,by simpa using hR⟩
 rintro i ⟨hi,hr⟩
 by_cases hlt:i<f.length
 ·have hltI:(i:Int)<(f.length:Int):=by omega
  obtain⟨g,hg⟩:∃ g,f[i]? = some g:=⟨_,List.getElem?_eq_getElem hlt⟩
  rw[aX hg] at hr
  obtain⟨n,nm,nd,⟨k',m',M',s',w',e',f'⟩,d⟩:=g
  rw[kx] at hr
  have hn:=pX nm
  have hi1:=bf n 1 9999
  have hi2:=bf nd 1 3
  obtain⟨R',hR'⟩:∃ R',R'=aC k (f.take (i+1)) (f.drop (i+1)):=⟨_,rfl⟩
  rw[<- hR'] at hr
  simp(disch:=try exact dI) only[hg,Option.map_some,TFd.pv_mk,Typ.pv_mk,ag,push_cast,seval]
  refine ab.pure hn rfl ?_
  cases hb1:bO nm with
  | false=>
    rw[hb1,if_pos rfl,if_neg (by decide)] at hr
    subst hr
    exact qsZ
  | true=>
  rw[hb1,if_neg (show ¬ true=false by decide)] at hr
  refine zgZ ?_
  refine ab.pure hi1 rfl ?_
  cases hb2:inB n 1 9999 with
  | false=>
    rw[hb2,if_pos rfl,if_neg (by decide)] at hr
    subst hr
    exact qsZ
  | true=>
  rw[hb2,if_neg (show ¬ true=false by decide)] at hr
  refine zgZ ?_
  refine au ([]) (fun j:Nat=>[(5,.pv (.int .i64 (j:Int)))]) (fun _=>[]) (fun j=>j<=i/\(f.take i).any (ky n nm)=((f.take i).drop j).any (ky n nm)) (fun j=>i - j) (0) ?_;intro e0 σ0 n0 h0;simp(disch:=try exact dI) only[push_cast,seval] at h0;obtain⟨rfl,rfl,rfl⟩:=h0;refine⟨?_,?_,?_⟩
  ·exact qsZ
  ·exact⟨by omega,by simp⟩
  rintro j ⟨hj,hd⟩
  by_cases hjlt:j<i
  ·have hjI:(j:Int)<(i:Int):=by omega
   obtain⟨x,hx⟩:∃ x,f[j]? = some x:=⟨_,List.getElem?_eq_getElem (by omega)⟩
   have hx':(f.take i)[j]? = some x:=by rw[List.getElem?_take_of_lt hjlt];exact hx
   rw[jy hx'] at hd
   obtain⟨xn,xnm,xnd,⟨a1,a2,a3,a4,a5,a6,a7⟩,xd⟩:=x
   by_cases q1:xnm=nm
   ·rw[show ky n nm (TFd.mk xn xnm xnd (Typ.mk a1 a2 a3 a4 a5 a6 a7) xd)=true by simp[ky,TFd.name,q1],Bool.true_or] at hd
    rw[hd,if_pos rfl,if_neg (by decide)] at hr
    subst hr
    simp(disch:=try exact dI) only[hx,Option.map_some,TFd.pv_mk,Typ.pv_mk,ag,q1,push_cast,seval]
   ·by_cases q2:xn=n
    ·rw[show ky n nm (TFd.mk xn xnm xnd (Typ.mk a1 a2 a3 a4 a5 a6 a7) xd)=true by simp[ky,TFd.number,q2],Bool.true_or] at hd
     rw[hd,if_pos rfl,if_neg (by decide)] at hr
     subst hr
     simp(disch:=try exact dI) only[hx,Option.map_some,TFd.pv_mk,Typ.pv_mk,ag,q1,q2,push_cast,seval]
    ·rw[show ky n nm (TFd.mk xn xnm xnd (Typ.mk a1 a2 a3 a4 a5 a6 a7) xd)=false by simp[ky,TFd.name,TFd.number,q1,q2],Bool.false_or] at hd
     simp(disch:=try exact dI) only[hx,Option.map_some,TFd.pv_mk,Typ.pv_mk,ag,q1,q2,push_cast,seval]
     exact⟨j+1,aM qsZ,⟨by omega,hd⟩,by omega⟩
  obtain rfl:j=i:=by omega
  rw[List.drop_of_length_le (by rw[List.length_take];omega),List.any_nil] at hd
  rw[hd,if_neg (show ¬ false=true by decide)] at hr
  clear hd hj hjlt
  simp(disch:=try exact dI) only[Int.lt_irrefl,push_cast,seval]
  refine ab.pure hi2 rfl ?_
  cases hb3:inB nd 1 3 with
  | false=>
    rw[show f7 k nd d=11 by simp[f7,hb3],if_neg (by decide)] at hr
    subst hr
    exact qsZ
  | true=>
  by_cases hk:k=10/\¬ nd=1
  ·rw[show f7 k nd d=11 by simp[f7,hb3,hk],if_neg (by decide)] at hr
   subst hr
   obtain⟨hk1,hnd⟩:=hk
   simp(disch:=try exact dI) only[hk1,hnd,push_cast,seval]
  have hc5:=tq (d:=d) hb3 hk
  have hk':k=10/\nd=1\/¬ k=10:=by
   by_cases h:k=10
   ·exact .inl ⟨h,Decidable.byContradiction fun hh=>hk ⟨h,hh⟩⟩
   ·exact .inr h
  clear hk
  generalize f7 k nd d=x at hc5 hr
  rcases hc5 with ⟨rfl,rfl,h0⟩ | ⟨rfl,h1⟩ | ⟨rfl,hnd,h0⟩ | ⟨rfl,rfl,h0⟩ | ⟨rfl,hnd,h0⟩
  ·rw[if_neg (by decide)] at hr
   subst hr
   rcases hk' with ⟨_,hh⟩ | hk
   ·exact absurd hh (by decide)
   ·have h0I:(d.length:Int)=0:=by omega
    simp(disch:=try exact dI) only[hk,h0I,push_cast,seval]
  ·rw[if_neg (by decide)] at hr
   subst hr
   have h0I:¬ (d.length:Int)=0:=by omega
   have h1I:(1:Int)<d.length:=by omega
   rcases hk' with ⟨hk,rfl⟩ | hk
   ·simp(disch:=try exact dI) only[hk,h0I,h1I,push_cast,seval]
   ·by_cases hnd:nd=3
    ·simp(disch:=try exact dI) only[hk,hnd,h0I,h1I,push_cast,seval]
    ·simp(disch:=try exact dI) only[hk,hnd,h0I,h1I,push_cast,seval]
  ·rw[if_neg (by decide)] at hr
   subst hr
   have h0I:(d.length:Int)=1:=by omega
   rcases hk' with ⟨hk,rfl⟩ | hk
   ·simp(disch:=try exact dI) only[hk,h0I,push_cast,seval]
   ·simp(disch:=try exact dI) only[hk,hnd,h0I,push_cast,seval]
  ·rw[if_pos rfl] at hr
   have h0I:(d.length:Int)=1:=by omega
   rcases hk' with ⟨_,hh⟩ | hk
   ·exact absurd hh (by decide)
   ·simp(disch:=try exact dI) only[hk,h0I,push_cast,seval]
    exact⟨j+1,aM qsZ,⟨by omega,hr.trans hR'⟩,by omega⟩
  ·rw[if_pos rfl] at hr
   have h0I:(d.length:Int)=0:=by omega
   rcases hk' with ⟨hk,rfl⟩ | hk
   ·simp(disch:=try exact dI) only[hk,h0I,push_cast,seval]
    exact⟨j+1,aM qsZ,⟨by omega,hr.trans (hk▸hR')⟩,by omega⟩
   ·simp(disch:=try exact dI) only[hk,hnd,h0I,push_cast,seval]
    exact⟨j+1,aM qsZ,⟨by omega,hr.trans hR'⟩,by omega⟩
 ·obtain rfl:i=f.length:=by omega
  rw[List.drop_length,aC] at hr
  subst hr
  simp(disch:=try exact dI) only[Int.lt_irrefl,push_cast,seval]
end Go.Proofs.YtbojpfpliibfbaaGreatDoor
-- many steps
namespace Go.Proofs.YtbojpfpliibfbaaGreatDoor
open Go Go.Ab
attribute [local irreducible] vc
noncomputable def cm:Nat->Typ->Int
 | 0,_=>1
 | n+1,.mk k m _ _ _ e f=>min (1+cr (cm n) k m e f) 5000
def dL:Nat->Typ->Prop
 | 0,_=>False
 | n+1,.mk k m _ _ _ e f=>(k=8->0<m->m<=256/\∃ x r,e=x::r/\dL n x)/\(k=10->∃ g r,f=g::r/\g.need=1/\dL n g.typ)/\(k=9->f.length<=64/\∀ g∈f,jT (dL n) g)/\(¬ (k=9\/k=10)->f=[])
theorem rz {n:Nat}(hle:∀ t,dL n t->1<=cm n t/\cm n t<=5000){g:TFd}(hg:jT (dL n) g):0<=gr (cm n) g/\gr (cm n) g<=1000000000000:=by
 obtain⟨a,b,nd,t,d⟩:=g
 simp only[gr,jT] at hg ⊢
 by_cases h1:nd=1
 ·rw[if_pos h1];have:=hle t (hg.1 h1);omega
 ·rw[if_neg h1]
  by_cases h3:nd=3
  ·obtain⟨x,r,rfl,hx⟩:=hg.2 h3
   rw[if_pos h3]
   have:=hx.2
   simp only[Ke];omega
  ·rw[if_neg h3];omega
theorem fI:∀ (n:Nat) (t:Typ),dL n t->1<=cm n t/\cm n t<=5000
 | 0,_,h=>h.elim
 | n+1,.mk k m M s w e f,h=>by
   simp only[cm,dL] at h ⊢
   obtain⟨h8,h10,h9,_⟩:=h
   refine⟨?_,by omega⟩
   have key:0<=cr (cm n) k m e f:=by
    unfold cr
    split
    ·split
     ·rename_i e1 e2
      obtain⟨_,x,r,rfl,hx⟩:=h8 e1 e2
      have:=fI n x hx
      exact Int.mul_nonneg (by omega) (by simp only[Af];omega)
     ·omega
    ·split
     ·rename_i e1 e2
      obtain⟨g,r,rfl,_,hx⟩:=h10 e2
      have:=fI n g.typ hx
      obtain⟨a,b,c,t,d⟩:=g
      simp only[Ag,TFd.typ] at this ⊢;omega
     ·split
      ·rename_i e1
       exact (jJ f fun g hg=>rz (fI n) ((h9 e1).2 g hg)).1
      ·omega
   omega
theorem rZ:∀ (n:Nat) (t:Typ),dL n t->am Tryz.prog az 127 [t.pv] (.int .i64 (cm n t))
 | 0,_,h=>h.elim
 | n+1,.mk k m M s w e f,h=>by
   have ih:=rZ n
   have hle:=fI n
   have hpos:∀ g,jT (dL n) g->0<=gr (cm n) g/\gr (cm n) g<=1000000000000:=fun g hg=>rz hle hg
   simp only[dL] at h
   obtain⟨h8,h10,h9,hf⟩:=h
   simp only[cm]
   generalize cm n=L at *
   refine am.intro J8.2 (by simp[J8]) ?_
   by_cases hk8:k=8
   ·subst hk8
    obtain rfl:=hf (by omega)
    by_cases hm:0<m
    ·obtain⟨hm2,x,r,rfl,hx⟩:=h8 rfl hm
     have hc:=ih x hx
     have hl:=hle x hx
     obtain⟨k',m',M',s',w',e',f'⟩:=x
     simp only[Typ.pv_mk] at hc
     generalize hz:L (Typ.mk k' m' M' s' w' e' f')=z at hc hl
     have hmul:0<=m*z:=Int.mul_nonneg (by omega) (by omega)
     have hmul2:m*z<=256*5000:=Int.mul_le_mul hm2 hl.2 (by omega) (by omega)
     have hmm:cr L 8 m (Typ.mk k' m' M' s' w' e' f'::r) []=m*z:=by simp only[cr,Af,hz,if_pos hm,if_true]
     clear hz
     rw[hmm]
     simp(disch:=try exact dI) only[J8,Typ.pv_mk,hm,aS,push_cast,seval]
     refine ap hc rfl ?_
     refine zgZ ?_
     refine au ([]) (fun i:Nat=>[(4,.pv (.int .i64 (i:Int)))]) (fun _=>[]) (fun i=>i=0) (fun i=>1 - i) (0) ?_;intro e0 σ0 n0 h0;simp(disch:=try exact dI) only[push_cast,seval] at h0;obtain⟨rfl,rfl,rfl⟩:=h0;refine⟨?_,?_,?_⟩
     ·exact qsZ
     ·rfl
     rintro i rfl
     simp(disch:=try exact dI) only[Int.lt_irrefl,push_cast,seval]
    ·rw[show cr L 8 m e []=0 by simp only[cr,if_neg hm,if_true]]
     simp(disch:=try exact dI) only[J8,Typ.pv_mk,hm,push_cast,seval]
     refine au ([]) (fun i:Nat=>[(4,.pv (.int .i64 (i:Int)))]) (fun _=>[]) (fun i=>i=0) (fun i=>1 - i) (0) ?_;intro e0 σ0 n0 h0;simp(disch:=try exact dI) only[push_cast,seval] at h0;obtain⟨rfl,rfl,rfl⟩:=h0;refine⟨?_,?_,?_⟩
     ·exact qsZ
     ·rfl
     rintro i rfl
     simp(disch:=try exact dI) only[Int.lt_irrefl,push_cast,seval]
   by_cases hk10:k=10
   ·subst hk10
    obtain⟨g,r,rfl,hnd,hx⟩:=h10 rfl
    have hc:=ih _ hx
    have hl:=hle _ hx
    obtain⟨n',nm',nd',⟨k',m',M',s',w',e',f'⟩,d'⟩:=g
    simp only[TFd.typ,TFd.need] at hc hl hnd
    subst hnd
    simp only[Typ.pv_mk] at hc
    generalize hz:L (Typ.mk k' m' M' s' w' e' f')=z at hc hl
    have hmm:cr L 10 m e (TFd.mk n' nm' 1 (Typ.mk k' m' M' s' w' e' f') d'::r)=z:=by simp[cr,Ag,hz]
    clear hz
    rw[hmm]
    have hg:(TFd.mk n' nm' 1 (Typ.mk k' m' M' s' w' e' f') d'::r)[0]? = some (TFd.mk n' nm' 1 (Typ.mk k' m' M' s' w' e' f') d'):=rfl
    generalize hf0:TFd.mk n' nm' 1 (Typ.mk k' m' M' s' w' e' f') d'::r=f at *
    have h0:(0:Int)<(f.length:Int):=by rw[<- hf0,List.length_cons];omega
    clear hf0
    simp(disch:=try exact dI) only[J8,Typ.pv_mk,push_cast,seval]
    refine au ([]) (fun x:Nat×Int=>[(3,.pv (.int .i64 x.2)),(4,.pv (.int .i64 (x.1:Int)))]) (fun _=>[]) (fun x=>x=(0,1)\/x=(1,1+z)) (fun x=>2 - x.1) ((0,1)) ?_;intro e0 σ0 n0 h0;simp(disch:=try exact dI) only[push_cast,seval] at h0;obtain⟨rfl,rfl,rfl⟩:=h0;refine⟨?_,?_,?_⟩
    ·exact qsZ
    ·exact .inl rfl
    rintro x (rfl | rfl)
    ·simp(disch:=try exact dI) only[hg,Option.map_some,TFd.pv_mk,Typ.pv_mk,ag,h0,aS,push_cast,seval]
     refine ab.pure hc rfl ?_
     refine zgZ ?_
     exact⟨(1,1+z),aM qsZ,.inr rfl,by simp only;omega⟩
    ·by_cases h1:(1:Int)<(f.length:Int)
     ·simp(disch:=try exact dI) only[h1,push_cast,seval]
     ·simp(disch:=try exact dI) only[h1,push_cast,seval]
   by_cases hk9:k=9
   ·subst hk9
    obtain⟨hf,hr⟩:=h9 rfl
    rw[show cr L 9 m e f=(f.map (gr L)).sum by simp[cr]]
    have hrp:∀ g∈f,0<=gr L g/\gr L g<=1000000000000:=fun g hg=>hpos g (hr g hg)
    simp(disch:=try exact dI) only[J8,Typ.pv_mk,push_cast,seval]
    refine au ([]) (fun i:Nat=>[(3,.pv (.int .i64 (1+((f.take i).map (gr L)).sum))),(4,.pv (.int .i64 (i:Int)))]) (fun _=>[]) (fun i=>i<=f.length) (fun i=>f.length - i) (0) ?_;intro e0 σ0 n0 h0;simp(disch:=try exact dI) only[push_cast,seval] at h0;obtain⟨rfl,rfl,rfl⟩:=h0;refine⟨?_,?_,?_⟩
    ·simp(disch:=try exact dI) only[List.take_zero,List.map_nil,List.sum_nil,push_cast,seval]
    ·omega
    rintro i hi
    have hsm:=jJ (f.take i) fun g hg=>hrp g (List.mem_of_mem_take hg)
    rw[List.length_take] at hsm
    by_cases hlt:i<f.length
    ·have hltI:(i:Int)<(f.length:Int):=by omega
     obtain⟨g,hg⟩:∃ g,f[i]? = some g:=⟨_,List.getElem?_eq_getElem hlt⟩
     have hst:=rm (p:=gr L) hg
     have hgr:=hr g (List.mem_of_getElem? hg)
     have hgp:=hrp g (List.mem_of_getElem? hg)
     obtain⟨n',nm',nd',⟨k',m',M',s',w',e',f'⟩,d'⟩:=g
     simp only[jT] at hgr
     generalize hS:((f.take i).map (gr L)).sum=S at *
     by_cases h1:nd'=1
     ·subst h1
      have hc:=ih _ (hgr.1 rfl)
      simp only[Typ.pv_mk] at hc
      simp only[gr,if_true] at hst hgp
      generalize L (Typ.mk k' m' M' s' w' e' f')=z at hc hst hgp
      simp(disch:=try exact dI) only[hg,Option.map_some,TFd.pv_mk,Typ.pv_mk,ag,push_cast,seval]
      refine ab.pure hc rfl ?_
      refine zgZ ?_
      exact⟨i+1,aM (by simp(disch:=try exact dI) only[hst,Int.add_assoc,push_cast,seval]),by omega,by omega⟩
     ·by_cases h3:nd'=3
      ·subst h3
       obtain⟨x,r,rfl,hx⟩:=hgr.2 rfl
       have hc:=xA (lvl x) x (fF x) hx.1 (by have:=hx.2;rw[pS] at this;omega)
       simp only[gr,if_neg h1,if_true,Ke,pS] at hst hgp
       generalize (szN (lvl x) x:Int)=z at hc hst hgp
       obtain⟨vk,vn,vs,vt,vl,vf⟩:=x
       simp only[Val.pv_mk] at hc
       simp(disch:=try exact dI) only[hg,Option.map_some,TFd.pv_mk,Typ.pv_mk,ag,aS,Val.pv_mk,push_cast,seval]
       refine ab.pure hc rfl ?_
       refine zgZ ?_
       exact⟨i+1,aM (by simp(disch:=try exact dI) only[hst,Int.add_assoc,push_cast,seval]),by omega,by omega⟩
      ·simp only[gr,if_neg h1,if_neg h3] at hst
       simp(disch:=try exact dI) only[hg,Option.map_some,TFd.pv_mk,Typ.pv_mk,ag,h1,h3,push_cast,seval]
       exact⟨i+1,aM (by simp(disch:=try exact dI) only[hst,Int.add_zero,push_cast,seval]),by omega,by omega⟩
    ·have he:i=f.length:=by omega
     subst he
     rw[List.take_length] at hsm ⊢
     simp(disch:=try exact dI) only[Int.lt_irrefl,push_cast,seval]
   ·obtain rfl:=hf (by omega)
    rw[show cr L k m e []=0 by simp[cr,hk8,hk9,hk10]]
    simp(disch:=try exact dI) only[J8,Typ.pv_mk,push_cast,seval]
    refine au ([]) (fun i:Nat=>[(4,.pv (.int .i64 (i:Int)))]) (fun _=>[]) (fun i=>i=0) (fun i=>1 - i) (0) ?_;intro e0 σ0 n0 h0;simp(disch:=try exact dI) only[push_cast,seval] at h0;obtain⟨rfl,rfl,rfl⟩:=h0;refine⟨?_,?_,?_⟩
    ·exact qsZ
    ·rfl
    rintro i rfl
    simp(disch:=try exact dI) only[Int.lt_irrefl,push_cast,seval]
end Go.Proofs.YtbojpfpliibfbaaGreatDoor
-- many steps
namespace Go.Proofs.YtbojpfpliibfbaaGreatDoor
open Go Go.Ab
attribute [local irreducible] vc
noncomputable def dg:Nat->Typ->Int
 | 0,_=>0
 | n+1,.mk k m M s w e f=>f.foldl (fun a g=>max a (dg n g.typ)) (e.foldl (fun a x=>max a (dg n x)) (cm 9 (.mk k m M s w e f)))
def JJ:Nat->Typ->Prop
 | 0,_=>False
 | n+1,.mk k m M s w e f=>dL 9 (.mk k m M s w e f)/\e.length<=9000000000000/\f.length<=9000000000000/\(∀ x∈e,JJ n x)/\∀ g∈f,JJ n g.typ
theorem lH:∀ (n:Nat) (t:Typ),JJ n t->am Tryz.prog az 72 [t.pv] (.int .i64 (dg n t))
 | 0,_,h=>h.elim
 | n+1,.mk k m M s w e f,h=>by
   have ih:=lH n
   simp only[JJ] at h
   obtain⟨h1,hel,hfl,he,hf⟩:=h
   have hle:=rZ 9 _ h1
   simp only[dg]
   generalize cm 9 (.mk k m M s w e f)=z at *
   simp only[Typ.pv_mk] at hle
   obtain⟨Q,hQ⟩:∃ Q,Q=fun (a:Int) (x:Typ)=>max a (dg n x):=⟨_,rfl⟩
   obtain⟨R,hR⟩:∃ R,R=fun (a:Int) (x:TFd)=>max a (dg n x.typ):=⟨_,rfl⟩
   rw[<- hQ,<- hR]
   refine am.intro Q72.2 (by simp[Q72]) ?_
   simp(disch:=try exact dI) only[Q72,Typ.pv_mk,push_cast,seval]
   refine ab.pure hle rfl ?_
   refine zgZ ?_
   refine au ([]) (fun i:Nat=>[(3,.pv (.int .i64 ((e.take i).foldl Q z))),(4,.pv (.int .i64 (i:Int)))]) (fun _=>[]) (fun i=>i<=e.length) (fun i=>e.length - i) (0) ?_;intro e0 σ0 n0 h0;simp(disch:=try exact dI) only[push_cast,seval] at h0;obtain⟨rfl,rfl,rfl⟩:=h0;refine⟨?_,?_,?_⟩
   ·simp(disch:=try exact dI) only[List.take_zero,List.foldl_nil,push_cast,seval]
   ·omega
   rintro i hi
   by_cases hlt:i<e.length
   ·have hltI:(i:Int)<(e.length:Int):=by omega
    obtain⟨x,hx⟩:∃ x,e[i]? = some x:=⟨_,List.getElem?_eq_getElem hlt⟩
    have hc:=ih x (he x (List.mem_of_getElem? hx))
    have hst:=en (p:=Q) hx z
    rw[show Q ((e.take i).foldl Q z) x=max ((e.take i).foldl Q z) (dg n x) by rw[hQ]] at hst
    generalize dg n x=y at hc hst
    obtain⟨k',m',M',s',w',e',f'⟩:=x
    simp only[Typ.pv_mk] at hc
    simp(disch:=try exact dI) only[hx,Option.map_some,Typ.pv_mk,ag,push_cast,seval]
    refine ab.pure hc rfl ?_
    refine zgZ ?_
    exact⟨i+1,aM (by simp(disch:=try exact dI) only[hst,push_cast,seval]),by omega,by omega⟩
   obtain rfl:i=e.length:=by omega
   clear hi hlt
   rw[List.take_length]
   generalize e.foldl Q z=z2
   simp(disch:=try exact dI) only[Int.lt_irrefl,push_cast,seval]
   refine au ([]) (fun i:Nat=>[(3,.pv (.int .i64 ((f.take i).foldl R z2))),(5,.pv (.int .i64 (i:Int)))]) (fun _=>[]) (fun i=>i<=f.length) (fun i=>f.length - i) (0) ?_;intro e0 σ0 n0 h0;simp(disch:=try exact dI) only[push_cast,seval] at h0;obtain⟨rfl,rfl,rfl⟩:=h0;refine⟨?_,?_,?_⟩
   ·simp(disch:=try exact dI) only[List.take_zero,List.foldl_nil,push_cast,seval]
   ·omega
   rintro i hi
   by_cases hlt:i<f.length
   ·have hltI:(i:Int)<(f.length:Int):=by omega
    obtain⟨x,hx⟩:∃ x,f[i]? = some x:=⟨_,List.getElem?_eq_getElem hlt⟩
    have hc:=ih x.typ (hf x (List.mem_of_getElem? hx))
    have hst:=en (p:=R) hx z2
    rw[show R ((f.take i).foldl R z2) x=max ((f.take i).foldl R z2) (dg n x.typ) by rw[hR]] at hst
    generalize dg n x.typ=y at hc hst
    obtain⟨n',nm',nd',⟨k',m',M',s',w',e',f'⟩,d'⟩:=x
    simp only[TFd.typ,Typ.pv_mk] at hc
    simp(disch:=try exact dI) only[hx,Option.map_some,Typ.pv_mk,TFd.pv_mk,ag,push_cast,seval]
    refine ab.pure hc rfl ?_
    refine zgZ ?_
    exact⟨i+1,aM (by simp(disch:=try exact dI) only[hst,push_cast,seval]),by omega,by omega⟩
   obtain rfl:i=f.length:=by omega
   clear hi hlt
   rw[List.take_length]
   simp(disch:=try exact dI) only[Int.lt_irrefl,push_cast,seval]
end Go.Proofs.YtbojpfpliibfbaaGreatDoor
-- many steps
namespace Go.Proofs.YtbojpfpliibfbaaGreatDoor
open Go Go.Ab
attribute [local irreducible] vc
theorem sA:∀ (n:Nat) (v:Val),dA n v->dA (n+1) v
 | 0,_,h=>h.elim
 | n+1,v,h=>fun x hx=>sA n x (h x hx)
theorem iD {α β:Type}{p q:α->List β}:∀ (l:List α),(∀ x∈l,p x=q x)->l.flatMap p=l.flatMap q
 | [],_=>rfl
 | x::r,h=>by rw[List.flatMap_cons,List.flatMap_cons,h x (List.mem_cons_self ..),iD r fun y hy=>h y (List.mem_cons_of_mem _ hy)]
theorem yB:∀ (n:Nat) (lv:Int) (v:Val),dA n v->dj (n+1) lv v=dj n lv v
 | 0,_,_,h=>h.elim
 | n+1,lv,v,h=>by
   rw[dj,dj]
   congr 1
   exact iD _ fun x hx=>yB n (Go.RowKit.wrap64 (lv+1)) x (h x hx)
def iZ (n:Nat)(S:List (Int×Val)):List (Int×Val):=S.reverse.flatMap fun q=>dj n q.1 q.2
theorem CV (n:Nat)(S:List (Int×Val))(q:Int×Val):iZ n (S++[q])=dj n q.1 q.2++iZ n S:=by
 simp[iZ]
def tX (q:Int×Val):List (Int×Val):=(bk q.2).reverse.map fun x=>(Go.RowKit.wrap64 (q.1+1),x)
theorem xK (n:Nat)(S:List (Int×Val))(q:Int×Val)(h:dA (n+1) q.2):iZ (n+1) (S++[q])=q::iZ (n+1) (S++tX q):=by
 rw[CV]
 obtain⟨lv,v⟩:=q
 rw[dj,List.cons_append]
 congr 1
 simp only[iZ,tX,List.reverse_append,List.flatMap_append,List.map_reverse,List.reverse_reverse,List.flatMap_map]
 congr 1
 exact iD _ fun x hx=>(yB n (Go.RowKit.wrap64 (lv+1)) x (h x hx)).symm
theorem yz {n:Nat}{q x:Int×Val}(h:dA (n+1) q.2)(hx:x∈tX q):dA (n+1) x.2:=by
 obtain⟨y,hy,rfl⟩:=List.mem_map.1 hx
 exact sA n y (h y (List.mem_reverse.1 hy))
theorem CE (c:Nat)(q:Int×Val):bg c q=if 4096<=c then 9 else if 8<q.1 then 23 else gJ q.2:=by
 unfold bg gJ
 rfl
theorem Fk (n:Nat)(S:List (Int×Val))(q:Int×Val)(c:Nat)(h:dA (n+1) q.2):jx c (iZ (n+1) (S++[q]))=if bg c q=0 then jx (c+1) (iZ (n+1) (S++tX q)) else bg c q:=by
 rw[xK n S q h,jx]
end Go.Proofs.YtbojpfpliibfbaaGreatDoor
-- many steps
namespace Go.Proofs.YtbojpfpliibfbaaGreatDoor
open Go Go.Ab
attribute [local irreducible] vc
def kg:Int×Val->PV
 | (lv,.mk k n s t l f)=>.agg [.int .i64 k,.int .i64 n,.int .i64 s,.str t,.list (l.map Val.pv),.list (f.map Fld.pv),.int .i64 lv]
theorem r6 (q:Int×Val):(kg q).cells.length=7:=by obtain⟨lv,⟨k,n,s,t,l,f⟩⟩:=q;rfl
theorem ED (q:Int×Val):kg q = .agg (kg q).cells:=by obtain⟨lv,⟨k,n,s,t,l,f⟩⟩:=q;rfl
def pG (S:List (Int×Val)):List PV:=S.flatMap fun q=>(kg q).cells
theorem jm (S T:List (Int×Val)):pG (S++T)=pG S++pG T:=by simp[pG]
theorem gz (q:Int×Val):pG [q]=(kg q).cells:=by simp[pG]
theorem gA:∀ (S:List (Int×Val)),(pG S).length=S.length*7
 | []=>rfl
 | q::r=>by
   rw[show q::r=[q]++r from rfl,jm,List.length_append,gA r,gz,r6]
   simp;omega
theorem pvs_map:∀ (l:List PV),pvs (l.map AV.pv)=some l
 | []=>rfl
 | x::r=>by rw[List.map_cons,mz];rw[pvs_map r];rfl
theorem yG (S:List (Int×Val))(q:Int×Val)(J:List PV):Ik 7 (S.length*7) ((pG (S++[q])++J).map AV.pv)=some (.pv (kg q)):=by
 rw[<- yH]
 unfold dV
 simp only
 rw[if_pos (by rw[List.length_map,List.length_append,gA,List.length_append];simp;omega)]
 rw[<- List.map_drop,<- List.map_take,jm,List.append_assoc,List.drop_left' (gA S),List.take_left' (by rw[gz,r6]),gz,zx,pvs_map,j8,<- ED]
theorem Fu {new r len:Nat}{f:Bool}{S:List (Int×Val)}{J:List PV}{y:PV}(h:S.length=len)(hl:len<=2000000):BN 234 7 96 new r 7 0 len [y] (.cells 234 f ((pG S++J).map AV.pv))=some (.row new 7 0 (len+1),[(r,.none),(new,.cells 234 false ((pG S++y.cells).map AV.pv))]):=by
 subst h
 rw[sW (by rw[List.length_map,List.length_append,gA];omega) (by simp;omega) (by simp;omega),<- List.map_take,List.take_left' (gA S),List.map_append]
 simp[eT]
end Go.Proofs.YtbojpfpliibfbaaGreatDoor
