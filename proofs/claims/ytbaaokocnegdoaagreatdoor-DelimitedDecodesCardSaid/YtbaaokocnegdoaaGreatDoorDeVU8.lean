/- A part of the proof. -/
import Derived.Test.YtbaaokocnegdoaaGreatDoorDeVU4
set_option linter.unusedVariables false
set_option linter.unusedSimpArgs false
set_option maxHeartbeats 16000000
set_option maxRecDepth 100000
namespace Go.Proofs.YtbaaokocnegdoaaGreatDoor
open Go Go.Ab
attribute [local irreducible] vc
def ga (k nd:Int)(d:List Val):Int:=if inB nd 1 3=false then 11 else if k=10/\¬ nd=1 then 11 else if nd=3/\d.length=0 then 4 else if 1<d.length then 3 else if ¬ nd=3/\0<d.length then 3 else 0
theorem ip (k:Int)(b:List TFd)(n:Int)(nm:List UInt8)(nd:Int)(t:Typ)(d:List Val):cL k b (.mk n nm nd t d)=if bN nm=false then 12 else if inB n 1 9999=false then 2 else if b.any (jv n nm)=true then 7 else ga k nd d:=rfl
theorem wC {k nd:Int}{d:List Val}(hb:inB nd 1 3=true)(hk:¬ (k=10/\¬ nd=1)) :
  ga k nd d=4/\nd=3/\d.length=0\/ga k nd d=3/\1<d.length\/ga k nd d=3/\¬ nd=3/\d.length=1\/ga k nd d=0/\nd=3/\d.length=1\/ga k nd d=0/\¬ nd=3/\d.length=0:=by
 unfold ga
 rw[hb,if_neg (show ¬ true=false by decide),if_neg hk]
 split
 ·omega
 ·split
  ·omega
  ·split<;>omega
theorem Ee (k m M s:Int)(w:List (List UInt8))(e:List Typ)(f:List TFd):ak Tryz.prog aq 200 [(Typ.mk k m M s w e f).pv] (.int .i64 (if 64<f.length then 9 else bg k [] f)):=by
 by_cases h64:64<f.length
 ·have h64I:(64:Int)<(f.length:Int):=by omega
  rw[if_pos h64]
  refine ak.intro OZ.2 (by simp[OZ]) ?_
  simp(disch:=try exact dI) only[OZ,Typ.pv_mk,h64I,push_cast,seval]
 have h64I:¬ (64:Int)<(f.length:Int):=by omega
 rw[if_neg h64]
 obtain⟨R,hR⟩:∃ R,R=bg k [] f:=⟨_,rfl⟩
 rw[<- hR]
 refine ak.intro OZ.2 (by simp[OZ]) ?_
 simp(disch:=try exact dI) only[OZ,Typ.pv_mk,h64I,push_cast,seval]
 refine ap ([]) (fun i:Nat=>[(3,.pv (.int .i64 (i:Int)))]) (fun _=>[]) (fun i=>i<=f.length/\R=bg k (f.take i) (f.drop i)) (fun i=>f.length - i) (0) ?_;intro e0 σ0 n0 h0;simp(disch:=try exact dI) only[push_cast,seval] at h0;obtain⟨rfl,rfl,rfl⟩:=h0;refine⟨?_,?_,?_⟩
 ·exact qsZ
 ·exact⟨by omega,by simpa using hR⟩
 rintro i ⟨hi,hr⟩
 by_cases hlt:i<f.length
 ·have hltI:(i:Int)<(f.length:Int):=by omega
  obtain⟨g,hg⟩:∃ g,f[i]? = some g:=⟨_,List.getElem?_eq_getElem hlt⟩
  rw[ju hg] at hr
  obtain⟨n,nm,nd,⟨k',m',M',s',w',e',f'⟩,d⟩:=g
  rw[ip] at hr
  have hn:=sK nm
  have hi1:=ln n 1 9999
  have hi2:=ln nd 1 3
  obtain⟨R',hR'⟩:∃ R',R'=bg k (f.take (i+1)) (f.drop (i+1)):=⟨_,rfl⟩
  rw[<- hR'] at hr
  simp(disch:=try exact dI) only[hg,Option.map_some,TFd.pv_mk,Typ.pv_mk,ag,push_cast,seval]
  refine ab.pure hn rfl ?_
  cases hb1:bN nm with
  | false=>
    rw[hb1,if_pos rfl,if_neg (by decide)] at hr
    subst hr
    exact qsZ
  | true=>
  rw[hb1,if_neg (show ¬ true=false by decide)] at hr
  refine zgZ ?_
  refine ab.pure hi1 rfl ?_
  cases hb2:inB n 1 9999 with
  | false=>
    rw[hb2,if_pos rfl,if_neg (by decide)] at hr
    subst hr
    exact qsZ
  | true=>
  rw[hb2,if_neg (show ¬ true=false by decide)] at hr
  refine zgZ ?_
  refine ap ([]) (fun j:Nat=>[(5,.pv (.int .i64 (j:Int)))]) (fun _=>[]) (fun j=>j<=i/\(f.take i).any (jv n nm)=((f.take i).drop j).any (jv n nm)) (fun j=>i - j) (0) ?_;intro e0 σ0 n0 h0;simp(disch:=try exact dI) only[push_cast,seval] at h0;obtain⟨rfl,rfl,rfl⟩:=h0;refine⟨?_,?_,?_⟩
  ·exact qsZ
  ·exact⟨by omega,by simp⟩
  rintro j ⟨hj,hd⟩
  by_cases hjlt:j<i
  ·have hjI:(j:Int)<(i:Int):=by omega
   obtain⟨x,hx⟩:∃ x,f[j]? = some x:=⟨_,List.getElem?_eq_getElem (by omega)⟩
   have hx':(f.take i)[j]? = some x:=by rw[List.getElem?_take_of_lt hjlt];exact hx
   rw[iC hx'] at hd
   obtain⟨xn,xnm,xnd,⟨a1,a2,a3,a4,a5,a6,a7⟩,xd⟩:=x
   by_cases q1:xnm=nm
   ·rw[show jv n nm (TFd.mk xn xnm xnd (Typ.mk a1 a2 a3 a4 a5 a6 a7) xd)=true by simp[jv,TFd.name,q1],Bool.true_or] at hd
    rw[hd,if_pos rfl,if_neg (by decide)] at hr
    subst hr
    simp(disch:=try exact dI) only[hx,Option.map_some,TFd.pv_mk,Typ.pv_mk,ag,q1,push_cast,seval]
   ·by_cases q2:xn=n
    ·rw[show jv n nm (TFd.mk xn xnm xnd (Typ.mk a1 a2 a3 a4 a5 a6 a7) xd)=true by simp[jv,TFd.number,q2],Bool.true_or] at hd
     rw[hd,if_pos rfl,if_neg (by decide)] at hr
     subst hr
     simp(disch:=try exact dI) only[hx,Option.map_some,TFd.pv_mk,Typ.pv_mk,ag,q1,q2,push_cast,seval]
    ·rw[show jv n nm (TFd.mk xn xnm xnd (Typ.mk a1 a2 a3 a4 a5 a6 a7) xd)=false by simp[jv,TFd.name,TFd.number,q1,q2],Bool.false_or] at hd
     simp(disch:=try exact dI) only[hx,Option.map_some,TFd.pv_mk,Typ.pv_mk,ag,q1,q2,push_cast,seval]
     exact⟨j+1,aK qsZ,⟨by omega,hd⟩,by omega⟩
  obtain rfl:j=i:=by omega
  rw[List.drop_of_length_le (by rw[List.length_take];omega),List.any_nil] at hd
  rw[hd,if_neg (show ¬ false=true by decide)] at hr
  clear hd hj hjlt
  simp(disch:=try exact dI) only[Int.lt_irrefl,push_cast,seval]
  refine ab.pure hi2 rfl ?_
  cases hb3:inB nd 1 3 with
  | false=>
    rw[show ga k nd d=11 by simp[ga,hb3],if_neg (by decide)] at hr
    subst hr
    exact qsZ
  | true=>
  by_cases hk:k=10/\¬ nd=1
  ·rw[show ga k nd d=11 by simp[ga,hb3,hk],if_neg (by decide)] at hr
   subst hr
   obtain⟨hk1,hnd⟩:=hk
   simp(disch:=try exact dI) only[hk1,hnd,push_cast,seval]
  have hc5:=wC (d:=d) hb3 hk
  have hk':k=10/\nd=1\/¬ k=10:=by
   by_cases h:k=10
   ·exact .inl ⟨h,Decidable.byContradiction fun hh=>hk ⟨h,hh⟩⟩
   ·exact .inr h
  clear hk
  generalize ga k nd d=x at hc5 hr
  rcases hc5 with ⟨rfl,rfl,h0⟩ | ⟨rfl,h1⟩ | ⟨rfl,hnd,h0⟩ | ⟨rfl,rfl,h0⟩ | ⟨rfl,hnd,h0⟩
  ·rw[if_neg (by decide)] at hr
   subst hr
   rcases hk' with ⟨_,hh⟩ | hk
   ·exact absurd hh (by decide)
   ·have h0I:(d.length:Int)=0:=by omega
    simp(disch:=try exact dI) only[hk,h0I,push_cast,seval]
  ·rw[if_neg (by decide)] at hr
   subst hr
   have h0I:¬ (d.length:Int)=0:=by omega
   have h1I:(1:Int)<d.length:=by omega
   rcases hk' with ⟨hk,rfl⟩ | hk
   ·simp(disch:=try exact dI) only[hk,h0I,h1I,push_cast,seval]
   ·by_cases hnd:nd=3
    ·simp(disch:=try exact dI) only[hk,hnd,h0I,h1I,push_cast,seval]
    ·simp(disch:=try exact dI) only[hk,hnd,h0I,h1I,push_cast,seval]
  ·rw[if_neg (by decide)] at hr
   subst hr
   have h0I:(d.length:Int)=1:=by omega
   rcases hk' with ⟨hk,rfl⟩ | hk
   ·simp(disch:=try exact dI) only[hk,h0I,push_cast,seval]
   ·simp(disch:=try exact dI) only[hk,hnd,h0I,push_cast,seval]
  ·rw[if_pos rfl] at hr
   have h0I:(d.length:Int)=1:=by omega
   rcases hk' with ⟨_,hh⟩ | hk
   ·exact absurd hh (by decide)
   ·simp(disch:=try exact dI) only[hk,h0I,push_cast,seval]
    exact⟨j+1,aK qsZ,⟨by omega,hr.trans hR'⟩,by omega⟩
  ·rw[if_pos rfl] at hr
   have h0I:(d.length:Int)=0:=by omega
   rcases hk' with ⟨hk,rfl⟩ | hk
   ·simp(disch:=try exact dI) only[hk,h0I,push_cast,seval]
    exact⟨j+1,aK qsZ,⟨by omega,hr.trans (hk▸hR')⟩,by omega⟩
   ·simp(disch:=try exact dI) only[hk,hnd,h0I,push_cast,seval]
    exact⟨j+1,aK qsZ,⟨by omega,hr.trans hR'⟩,by omega⟩
 ·obtain rfl:i=f.length:=by omega
  rw[List.drop_length,bg] at hr
  subst hr
  simp(disch:=try exact dI) only[Int.lt_irrefl,push_cast,seval]
def ca:Nat->Typ->Int
 | 0,_=>1
 | n+1,.mk k m _ _ _ e f=>min (1+cg (ca n) k m e f) 5000
def dC:Nat->Typ->Prop
 | 0,_=>False
 | n+1,.mk k m _ _ _ e f=>(k=8->0<m->m<=256/\∃ x r,e=x::r/\dC n x)/\(k=10->∃ g r,f=g::r/\g.need=1/\dC n g.typ)/\(k=9->f.length<=64/\∀ g∈f,kE (dC n) g)/\(¬ (k=9\/k=10)->f=[])
theorem up {n:Nat}(hle:∀ t,dC n t->1<=ca n t/\ca n t<=5000){g:TFd}(hg:kE (dC n) g):0<=gH (ca n) g/\gH (ca n) g<=1000000000000:=by
 obtain⟨a,b,nd,t,d⟩:=g
 simp only[gH,kE] at hg ⊢
 by_cases h1:nd=1
 ·rw[if_pos h1];have:=hle t (hg.1 h1);omega
 ·rw[if_neg h1]
  by_cases h3:nd=3
  ·obtain⟨x,r,rfl,hx⟩:=hg.2 h3
   rw[if_pos h3]
   have:=hx.2.2
   simp only[OH];omega
  ·rw[if_neg h3];omega
theorem fT:∀ (n:Nat) (t:Typ),dC n t->1<=ca n t/\ca n t<=5000
 | 0,_,h=>h.elim
 | n+1,.mk k m M s w e f,h=>by
   simp only[ca,dC] at h ⊢
   obtain⟨h8,h10,h9,_⟩:=h
   refine⟨?_,by omega⟩
   have key:0<=cg (ca n) k m e f:=by
    unfold cg
    split
    ·split
     ·rename_i e1 e2
      obtain⟨_,x,r,rfl,hx⟩:=h8 e1 e2
      have:=fT n x hx
      exact Int.mul_nonneg (by omega) (by simp only[DS];omega)
     ·omega
    ·split
     ·rename_i e1 e2
      obtain⟨g,r,rfl,_,hx⟩:=h10 e2
      have:=fT n g.typ hx
      obtain⟨a,b,c,t,d⟩:=g
      simp only[DT,TFd.typ] at this ⊢;omega
     ·split
      ·rename_i e1
       exact (kk f fun g hg=>up (fT n) ((h9 e1).2 g hg)).1
      ·omega
   omega
theorem uR:∀ (n:Nat) (t:Typ),dC n t->ak Tryz.prog aq 150 [t.pv] (.int .i64 (ca n t))
 | 0,_,h=>h.elim
 | n+1,.mk k m M s w e f,h=>by
   have ih:=uR n
   have hle:=fT n
   have hpos:∀ g,kE (dC n) g->0<=gH (ca n) g/\gH (ca n) g<=1000000000000:=fun g hg=>up hle hg
   simp only[dC] at h
   obtain⟨h8,h10,h9,hf⟩:=h
   simp only[ca]
   generalize ca n=L at *
   refine ak.intro Ou.2 (by simp[Ou]) ?_
   by_cases hk8:k=8
   ·subst hk8
    obtain rfl:=hf (by omega)
    by_cases hm:0<m
    ·obtain⟨hm2,x,r,rfl,hx⟩:=h8 rfl hm
     have hc:=ih x hx
     have hl:=hle x hx
     obtain⟨k',m',M',s',w',e',f'⟩:=x
     simp only[Typ.pv_mk] at hc
     generalize hz:L (Typ.mk k' m' M' s' w' e' f')=z at hc hl
     have hmul:0<=m*z:=Int.mul_nonneg (by omega) (by omega)
     have hmul2:m*z<=256*5000:=Int.mul_le_mul hm2 hl.2 (by omega) (by omega)
     have hmm:cg L 8 m (Typ.mk k' m' M' s' w' e' f'::r) []=m*z:=by simp only[cg,DS,hz,if_pos hm,if_true]
     clear hz
     rw[hmm]
     simp(disch:=try exact dI) only[Ou,Typ.pv_mk,hm,az,push_cast,seval]
     refine ae hc rfl ?_
     refine zgZ ?_
     refine ap ([]) (fun i:Nat=>[(4,.pv (.int .i64 (i:Int)))]) (fun _=>[]) (fun i=>i=0) (fun i=>1 - i) (0) ?_;intro e0 σ0 n0 h0;simp(disch:=try exact dI) only[push_cast,seval] at h0;obtain⟨rfl,rfl,rfl⟩:=h0;refine⟨?_,?_,?_⟩
     ·exact qsZ
     ·rfl
     rintro i rfl
     simp(disch:=try exact dI) only[Int.lt_irrefl,push_cast,seval]
    ·rw[show cg L 8 m e []=0 by simp only[cg,if_neg hm,if_true]]
     simp(disch:=try exact dI) only[Ou,Typ.pv_mk,hm,push_cast,seval]
     refine ap ([]) (fun i:Nat=>[(4,.pv (.int .i64 (i:Int)))]) (fun _=>[]) (fun i=>i=0) (fun i=>1 - i) (0) ?_;intro e0 σ0 n0 h0;simp(disch:=try exact dI) only[push_cast,seval] at h0;obtain⟨rfl,rfl,rfl⟩:=h0;refine⟨?_,?_,?_⟩
     ·exact qsZ
     ·rfl
     rintro i rfl
     simp(disch:=try exact dI) only[Int.lt_irrefl,push_cast,seval]
   by_cases hk10:k=10
   ·subst hk10
    obtain⟨g,r,rfl,hnd,hx⟩:=h10 rfl
    have hc:=ih _ hx
    have hl:=hle _ hx
    obtain⟨n',nm',nd',⟨k',m',M',s',w',e',f'⟩,d'⟩:=g
    simp only[TFd.typ,TFd.need] at hc hl hnd
    subst hnd
    simp only[Typ.pv_mk] at hc
    generalize hz:L (Typ.mk k' m' M' s' w' e' f')=z at hc hl
    have hmm:cg L 10 m e (TFd.mk n' nm' 1 (Typ.mk k' m' M' s' w' e' f') d'::r)=z:=by simp[cg,DT,hz]
    clear hz
    rw[hmm]
    have hg:(TFd.mk n' nm' 1 (Typ.mk k' m' M' s' w' e' f') d'::r)[0]? = some (TFd.mk n' nm' 1 (Typ.mk k' m' M' s' w' e' f') d'):=rfl
    generalize hf0:TFd.mk n' nm' 1 (Typ.mk k' m' M' s' w' e' f') d'::r=f at *
    have h0:(0:Int)<(f.length:Int):=by rw[<- hf0,List.length_cons];omega
    clear hf0
    simp(disch:=try exact dI) only[Ou,Typ.pv_mk,push_cast,seval]
    refine ap ([]) (fun x:Nat×Int=>[(3,.pv (.int .i64 x.2)),(4,.pv (.int .i64 (x.1:Int)))]) (fun _=>[]) (fun x=>x=(0,1)\/x=(1,1+z)) (fun x=>2 - x.1) ((0,1)) ?_;intro e0 σ0 n0 h0;simp(disch:=try exact dI) only[push_cast,seval] at h0;obtain⟨rfl,rfl,rfl⟩:=h0;refine⟨?_,?_,?_⟩
    ·exact qsZ
    ·exact .inl rfl
    rintro x (rfl | rfl)
    ·simp(disch:=try exact dI) only[hg,Option.map_some,TFd.pv_mk,Typ.pv_mk,ag,h0,az,push_cast,seval]
     refine ab.pure hc rfl ?_
     refine zgZ ?_
     exact⟨(1,1+z),aK qsZ,.inr rfl,by simp only;omega⟩
    ·by_cases h1:(1:Int)<(f.length:Int)
     ·simp(disch:=try exact dI) only[h1,push_cast,seval]
     ·simp(disch:=try exact dI) only[h1,push_cast,seval]
   by_cases hk9:k=9
   ·subst hk9
    obtain⟨hf,hr⟩:=h9 rfl
    rw[show cg L 9 m e f=(f.map (gH L)).sum by simp[cg]]
    have hrp:∀ g∈f,0<=gH L g/\gH L g<=1000000000000:=fun g hg=>hpos g (hr g hg)
    simp(disch:=try exact dI) only[Ou,Typ.pv_mk,push_cast,seval]
    refine ap ([]) (fun i:Nat=>[(3,.pv (.int .i64 (1+((f.take i).map (gH L)).sum))),(4,.pv (.int .i64 (i:Int)))]) (fun _=>[]) (fun i=>i<=f.length) (fun i=>f.length - i) (0) ?_;intro e0 σ0 n0 h0;simp(disch:=try exact dI) only[push_cast,seval] at h0;obtain⟨rfl,rfl,rfl⟩:=h0;refine⟨?_,?_,?_⟩
    ·simp(disch:=try exact dI) only[List.take_zero,List.map_nil,List.sum_nil,push_cast,seval]
    ·omega
    rintro i hi
    have hsm:=kk (f.take i) fun g hg=>hrp g (List.mem_of_mem_take hg)
    rw[List.length_take] at hsm
    by_cases hlt:i<f.length
    ·have hltI:(i:Int)<(f.length:Int):=by omega
     obtain⟨g,hg⟩:∃ g,f[i]? = some g:=⟨_,List.getElem?_eq_getElem hlt⟩
     have hst:=ud (p:=gH L) hg
     have hgr:=hr g (List.mem_of_getElem? hg)
     have hgp:=hrp g (List.mem_of_getElem? hg)
     obtain⟨n',nm',nd',⟨k',m',M',s',w',e',f'⟩,d'⟩:=g
     simp only[kE] at hgr
     generalize hS:((f.take i).map (gH L)).sum=S at *
     by_cases h1:nd'=1
     ·subst h1
      have hc:=ih _ (hgr.1 rfl)
      simp only[Typ.pv_mk] at hc
      simp only[gH,if_true] at hst hgp
      generalize L (Typ.mk k' m' M' s' w' e' f')=z at hc hst hgp
      simp(disch:=try exact dI) only[hg,Option.map_some,TFd.pv_mk,Typ.pv_mk,ag,push_cast,seval]
      refine ab.pure hc rfl ?_
      refine zgZ ?_
      exact⟨i+1,aK (by simp(disch:=try exact dI) only[hst,Int.add_assoc,push_cast,seval]),by omega,by omega⟩
     ·by_cases h3:nd'=3
      ·subst h3
       obtain⟨x,r,rfl,hx⟩:=hgr.2 rfl
       have hc:=Bp 9 x hx.1 hx.2.1 (by have:=hx.2.2;rw[nU] at this;omega)
       simp only[gH,if_neg h1,if_true,OH,nU] at hst hgp
       generalize (szN 9 x:Int)=z at hc hst hgp
       obtain⟨vk,vn,vs,vt,vl,vf⟩:=x
       simp only[Val.pv_mk] at hc
       simp(disch:=try exact dI) only[hg,Option.map_some,TFd.pv_mk,Typ.pv_mk,ag,az,Val.pv_mk,push_cast,seval]
       refine ab.pure hc rfl ?_
       refine zgZ ?_
       exact⟨i+1,aK (by simp(disch:=try exact dI) only[hst,Int.add_assoc,push_cast,seval]),by omega,by omega⟩
      ·simp only[gH,if_neg h1,if_neg h3] at hst
       simp(disch:=try exact dI) only[hg,Option.map_some,TFd.pv_mk,Typ.pv_mk,ag,h1,h3,push_cast,seval]
       exact⟨i+1,aK (by simp(disch:=try exact dI) only[hst,Int.add_zero,push_cast,seval]),by omega,by omega⟩
    ·have he:i=f.length:=by omega
     subst he
     rw[List.take_length] at hsm ⊢
     simp(disch:=try exact dI) only[Int.lt_irrefl,push_cast,seval]
   ·obtain rfl:=hf (by omega)
    rw[show cg L k m e []=0 by simp[cg,hk8,hk9,hk10]]
    simp(disch:=try exact dI) only[Ou,Typ.pv_mk,push_cast,seval]
    refine ap ([]) (fun i:Nat=>[(4,.pv (.int .i64 (i:Int)))]) (fun _=>[]) (fun i=>i=0) (fun i=>1 - i) (0) ?_;intro e0 σ0 n0 h0;simp(disch:=try exact dI) only[push_cast,seval] at h0;obtain⟨rfl,rfl,rfl⟩:=h0;refine⟨?_,?_,?_⟩
    ·exact qsZ
    ·rfl
    rintro i rfl
    simp(disch:=try exact dI) only[Int.lt_irrefl,push_cast,seval]
def cK:Nat->Typ->Int
 | 0,_=>0
 | n+1,.mk k m M s w e f=>f.foldl (fun a g=>max a (cK n g.typ)) (e.foldl (fun a x=>max a (cK n x)) (ca 9 (.mk k m M s w e f)))
def Ob:Nat->Typ->Prop
 | 0,_=>False
 | n+1,.mk k m M s w e f=>dC 9 (.mk k m M s w e f)/\e.length<=1000000000/\f.length<=1000000000/\(∀ x∈e,Ob n x)/\∀ g∈f,Ob n g.typ
theorem m6:∀ (n:Nat) (t:Typ),Ob n t->ak Tryz.prog aq 99 [t.pv] (.int .i64 (cK n t))
 | 0,_,h=>h.elim
 | n+1,.mk k m M s w e f,h=>by
   have ih:=m6 n
   simp only[Ob] at h
   obtain⟨h1,hel,hfl,he,hf⟩:=h
   have hle:=uR 9 _ h1
   simp only[cK]
   generalize ca 9 (.mk k m M s w e f)=z at *
   simp only[Typ.pv_mk] at hle
   obtain⟨Q,hQ⟩:∃ Q,Q=fun (a:Int) (x:Typ)=>max a (cK n x):=⟨_,rfl⟩
   obtain⟨R,hR⟩:∃ R,R=fun (a:Int) (x:TFd)=>max a (cK n x.typ):=⟨_,rfl⟩
   rw[<- hQ,<- hR]
   refine ak.intro Q99.2 (by simp[Q99]) ?_
   simp(disch:=try exact dI) only[Q99,Typ.pv_mk,push_cast,seval]
   refine ab.pure hle rfl ?_
   refine zgZ ?_
   refine ap ([]) (fun i:Nat=>[(3,.pv (.int .i64 ((e.take i).foldl Q z))),(4,.pv (.int .i64 (i:Int)))]) (fun _=>[]) (fun i=>i<=e.length) (fun i=>e.length - i) (0) ?_;intro e0 σ0 n0 h0;simp(disch:=try exact dI) only[push_cast,seval] at h0;obtain⟨rfl,rfl,rfl⟩:=h0;refine⟨?_,?_,?_⟩
   ·simp(disch:=try exact dI) only[List.take_zero,List.foldl_nil,push_cast,seval]
   ·omega
   rintro i hi
   by_cases hlt:i<e.length
   ·have hltI:(i:Int)<(e.length:Int):=by omega
    obtain⟨x,hx⟩:∃ x,e[i]? = some x:=⟨_,List.getElem?_eq_getElem hlt⟩
    have hc:=ih x (he x (List.mem_of_getElem? hx))
    have hst:=fV (p:=Q) hx z
    rw[show Q ((e.take i).foldl Q z) x=max ((e.take i).foldl Q z) (cK n x) by rw[hQ]] at hst
    generalize cK n x=y at hc hst
    obtain⟨k',m',M',s',w',e',f'⟩:=x
    simp only[Typ.pv_mk] at hc
    simp(disch:=try exact dI) only[hx,Option.map_some,Typ.pv_mk,ag,push_cast,seval]
    refine ab.pure hc rfl ?_
    refine zgZ ?_
    exact⟨i+1,aK (by simp(disch:=try exact dI) only[hst,push_cast,seval]),by omega,by omega⟩
   obtain rfl:i=e.length:=by omega
   clear hi hlt
   rw[List.take_length]
   generalize e.foldl Q z=z2
   simp(disch:=try exact dI) only[Int.lt_irrefl,push_cast,seval]
   refine ap ([]) (fun i:Nat=>[(3,.pv (.int .i64 ((f.take i).foldl R z2))),(5,.pv (.int .i64 (i:Int)))]) (fun _=>[]) (fun i=>i<=f.length) (fun i=>f.length - i) (0) ?_;intro e0 σ0 n0 h0;simp(disch:=try exact dI) only[push_cast,seval] at h0;obtain⟨rfl,rfl,rfl⟩:=h0;refine⟨?_,?_,?_⟩
   ·simp(disch:=try exact dI) only[List.take_zero,List.foldl_nil,push_cast,seval]
   ·omega
   rintro i hi
   by_cases hlt:i<f.length
   ·have hltI:(i:Int)<(f.length:Int):=by omega
    obtain⟨x,hx⟩:∃ x,f[i]? = some x:=⟨_,List.getElem?_eq_getElem hlt⟩
    have hc:=ih x.typ (hf x (List.mem_of_getElem? hx))
    have hst:=fV (p:=R) hx z2
    rw[show R ((f.take i).foldl R z2) x=max ((f.take i).foldl R z2) (cK n x.typ) by rw[hR]] at hst
    generalize cK n x.typ=y at hc hst
    obtain⟨n',nm',nd',⟨k',m',M',s',w',e',f'⟩,d'⟩:=x
    simp only[TFd.typ,Typ.pv_mk] at hc
    simp(disch:=try exact dI) only[hx,Option.map_some,Typ.pv_mk,TFd.pv_mk,ag,push_cast,seval]
    refine ab.pure hc rfl ?_
    refine zgZ ?_
    exact⟨i+1,aK (by simp(disch:=try exact dI) only[hst,push_cast,seval]),by omega,by omega⟩
   obtain rfl:i=f.length:=by omega
   clear hi hlt
   rw[List.take_length]
   simp(disch:=try exact dI) only[Int.lt_irrefl,push_cast,seval]
theorem eG:∀ (n:Nat) (v:Val),cy n v->cy (n+1) v
 | 0,_,h=>h.elim
 | n+1,v,h=>fun x hx=>eG n x (h x hx)
theorem i7 {α β:Type}{p q:α->List β}:∀ (l:List α),(∀ x∈l,p x=q x)->l.flatMap p=l.flatMap q
 | [],_=>rfl
 | x::r,h=>by rw[List.flatMap_cons,List.flatMap_cons,h x (List.mem_cons_self ..),i7 r fun y hy=>h y (List.mem_cons_of_mem _ hy)]
theorem Cq:∀ (n:Nat) (lv:Int) (v:Val),cy n v->cf (n+1) lv v=cf n lv v
 | 0,_,_,h=>h.elim
 | n+1,lv,v,h=>by
   rw[cf,cf]
   congr 1
   exact i7 _ fun x hx=>Cq n (lv+1) x (h x hx)
def jC (S:List (Int×Val)):List (Int×Val):=S.reverse.flatMap fun q=>cf 9 q.1 q.2
theorem GZ (S:List (Int×Val))(q:Int×Val):jC (S++[q])=cf 9 q.1 q.2++jC S:=by
 simp[jC]
def Cp (q:Int×Val):List (Int×Val):=(aV q.2).reverse.map fun x=>(q.1+1,x)
theorem BD (S:List (Int×Val))(q:Int×Val)(h:cy 9 q.2):jC (S++[q])=q::jC (S++Cp q):=by
 rw[GZ]
 obtain⟨lv,v⟩:=q
 rw[cf,List.cons_append]
 congr 1
 simp only[jC,Cp,List.reverse_append,List.flatMap_append,List.map_reverse,List.reverse_reverse,List.flatMap_map]
 congr 1
 exact i7 _ fun x hx=>(Cq 8 (lv+1) x (h x hx)).symm
theorem Co {q x:Int×Val}(h:cy 9 q.2)(hx:x∈Cp q):cy 9 x.2:=by
 obtain⟨y,hy,rfl⟩:=List.mem_map.1 hx
 exact eG 8 y (h y (List.mem_reverse.1 hy))
theorem GA (c:Nat)(q:Int×Val):aY c q=if 4096<=c then 9 else if 8<q.1 then 23 else MO q.2:=by
 unfold aY MO
 rfl
theorem Jt (S:List (Int×Val))(q:Int×Val)(c:Nat)(h:cy 9 q.2):iE c (jC (S++[q]))=if aY c q=0 then iE (c+1) (jC (S++Cp q)) else aY c q:=by
 rw[BD S q h,iE]
def ll:Int×Val->PV
 | (lv,.mk k n s t l f)=>.agg [.int .i64 k,.int .i64 n,.int .i64 s,.str t,.list (l.map Val.pv),.list (f.map Fld.pv),.int .i64 lv]
theorem uU (q:Int×Val):(ll q).cells.length=7:=by obtain⟨lv,⟨k,n,s,t,l,f⟩⟩:=q;rfl
theorem IB (q:Int×Val):ll q = .agg (ll q).cells:=by obtain⟨lv,⟨k,n,s,t,l,f⟩⟩:=q;rfl
def rY (S:List (Int×Val)):List PV:=S.flatMap fun q=>(ll q).cells
theorem jR (S T:List (Int×Val)):rY (S++T)=rY S++rY T:=by simp[rY]
theorem gP (q:Int×Val):rY [q]=(ll q).cells:=by simp[rY]
theorem gQ:∀ (S:List (Int×Val)),(rY S).length=S.length*7
 | []=>rfl
 | q::r=>by
   rw[show q::r=[q]++r from rfl,jR,List.length_append,gQ r,gP,uU]
   simp;omega
theorem pvs_map:∀ (l:List PV),pvs (l.map AV.pv)=some l
 | []=>rfl
 | x::r=>by rw[List.map_cons,nT];rw[pvs_map r];rfl
theorem Cx (S:List (Int×Val))(q:Int×Val)(J:List PV):MK 7 (S.length*7) ((rY (S++[q])++J).map AV.pv)=some (.pv (ll q)):=by
 rw[<- Cy]
 unfold cR
 simp only
 rw[if_pos (by rw[List.length_map,List.length_append,gQ,List.length_append];simp;omega)]
 rw[<- List.map_drop,<- List.map_take,jR,List.append_assoc,List.drop_left' (gQ S),List.take_left' (by rw[gP,uU]),gP,C7,pvs_map,ld,<- IB]
theorem JM {new r len:Nat}{f:Bool}{S:List (Int×Val)}{J:List PV}{y:PV}(h:S.length=len)(hl:len<=2000000):oC 259 7 96 new r 7 0 len [y] (.cells 259 f ((rY S++J).map AV.pv))=some (.row new 7 0 (len+1),[(r,.none),(new,.cells 259 false ((rY S++y.cells).map AV.pv))]):=by
 subst h
 rw[j5 (by rw[List.length_map,List.length_append,gQ];omega) (by simp;omega) (by simp;omega),<- List.map_take,List.take_left' (gQ S),List.map_append]
 simp[bA]
end Go.Proofs.YtbaaokocnegdoaaGreatDoor
