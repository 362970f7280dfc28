/- A part. -/
import Derived.Test.YtngchmkoadaecaaGreatDoorPbJS4
set_option linter.unusedVariables false
set_option linter.unusedSimpArgs false
set_option maxHeartbeats 16000000
set_option maxRecDepth 100000
open List renaming take_zero->Xy,getElem?_eq_getElem->WT,mem_of_getElem?->WV
open Option renaming map_some->Xm
namespace Go.Proofs.YtngchmkoadaecaaGreatDoor
open Go Go.Ab
attribute [local irreducible] vc
noncomputable def TV (v:Val):Int:=((ff (lvl v) 1 v).length:Int)
def P2 (v:Val):Prop:=v.ok/\(ff (lvl v) 1 v).length<=1000000000000
noncomputable def rB (least:Typ->Int):TFd->Int
 | .mk _ _ nd t d=>if nd=1 then least t else if nd=3 then (match d with | []=>0 | x::_=>TV x) else 0
def Oc (p:Typ->Int):List Typ->Int
 | []=>0
 | x::_=>p x
def Od (p:Typ->Int):List TFd->Int
 | []=>0
 | .mk _ _ _ t _::_=>p t
noncomputable def iw (p:Typ->Int)(k m:Int)(e:List Typ)(f:List TFd):Int:=if k=8 then (if 0<m then m*Oc p e else 0) else if k=10 then Od p f else if k=9 then (f.map (rB p)).sum else 0
noncomputable def dl:Nat->Typ->Int
 | 0,_=>1
 | n+1,.mk k m _ _ _ e f=>min (1+iw (dl n) k m e f) 4097
def BN (p:Typ->Prop):TFd->Prop
 | .mk _ _ nd t d=>(nd=1->p t)/\(nd=3->∃ x r,d=x::r/\P2 x)
def eV:Nat->Typ->Prop
 | 0,_=>False
 | n+1,.mk k m _ _ _ e f=>(k=8->0<m->m<=256/\∃ x r,e=x::r/\eV n x)/\(k=10->∃ g r,f=g::r/\eV n g.typ)/\(k=9->f.length<=64/\∀ g∈f,BN (eV n) g)
theorem tY {n:Nat}(hle:∀ t,eV n t->1<=dl n t/\dl n t<=4097){g:TFd}(hg:BN (eV n) g):0<=rB (dl n) g/\rB (dl n) g<=1000000000000:=by
 obtain⟨a,b,nd,t,d⟩:=g
 simp only[rB,BN] at hg ⊢
 by_cases h1:nd=1
 ·rw[if_pos h1];have:=hle t (hg.1 h1);omega
 ·rw[if_neg h1]
  by_cases h3:nd=3
  ·obtain⟨x,r,rfl,hx⟩:=hg.2 h3
   rw[if_pos h3]
   have:=hx.2
   simp only[TV];omega
  ·rw[if_neg h3];omega
theorem rh {p:TFd->Int}:∀ (f:List TFd),(∀ g∈f,0<=p g/\p g<=1000000000000)->0<=(f.map p).sum/\(f.map p).sum<=1000000000000*f.length
 | [],_=>by simp
 | g::r,h=>by
   have h1:=h g (List.mem_cons_self ..)
   have h2:=rh r fun x hx=>h x (List.mem_cons_of_mem _ hx)
   simp only[List.map_cons,List.sum_cons,List.length_cons]
   omega
theorem fM:∀ (n:Nat) (t:Typ),eV n t->1<=dl n t/\dl n t<=4097
 | 0,_,h=>h.elim
 | n+1,.mk k m M s w e f,h=>by
   simp only[dl,eV] at h ⊢
   obtain⟨h8,h10,h9⟩:=h
   refine⟨?_,by omega⟩
   have key:0<=iw (dl n) k m e f:=by
    unfold iw
    split
    ·split
     ·rename_i e1 e2
      obtain⟨_,x,r,rfl,hx⟩:=h8 e1 e2
      have:=fM n x hx
      exact Int.mul_nonneg (by omega) (by simp only[Oc];omega)
     ·omega
    ·split
     ·rename_i e1 e2
      obtain⟨g,r,rfl,hx⟩:=h10 e2
      have:=fM n g.typ hx
      obtain⟨a,b,c,t,d⟩:=g
      simp only[Od,TFd.typ] at this ⊢;omega
     ·split
      ·rename_i e1
       exact (rh f fun g hg=>tY (fM n) ((h9 e1).2 g hg)).1
      ·omega
   omega
theorem GG {p:TFd->Int}{f:List TFd}{i:Nat}{g:TFd}(h:f[i]? = some g):((f.take (i+1)).map p).sum=((f.take i).map p).sum+p g:=by
 rw[aE h,List.map_append,List.sum_append];simp
theorem iW:∀ (n:Nat) (t:Typ),eV n t->ap Tryz.prog aC 133 [t.pv] (.int .i64 (dl n t))
 | 0,_,h=>h.elim
 | n+1,.mk k m M s w e f,h=>by
   have ih:=iW n
   have hle:=fM n
   have hpos:∀ g,BN (eV n) g->0<=rB (dl n) g/\rB (dl n) g<=1000000000000:=fun g hg=>tY hle hg
   simp only[eV] at h
   obtain⟨h8,h10,h9⟩:=h
   simp only[dl]
   generalize dl n=L at *
   refine ap.intro Po.2 (by simp[Po]) ?_
   by_cases hk8:k=8
   ·subst hk8
    by_cases hm:0<m
    ·obtain⟨hm2,x,r,rfl,hx⟩:=h8 rfl hm
     have hc:=ih x hx
     have hl:=hle x hx
     obtain⟨k',m',M',s',w',e',f'⟩:=x
     simp only[WO] at hc
     generalize hz:L (Typ.mk k' m' M' s' w' e' f')=z at hc hl
     have hmul:0<=m*z:=Int.mul_nonneg (by omega) (by omega)
     have hmul2:m*z<=256*4097:=Int.mul_le_mul hm2 hl.2 (by omega) (by omega)
     have hmm:iw L 8 m (Typ.mk k' m' M' s' w' e' f'::r) f=m*z:=by simp only[iw,Oc,hz,if_pos hm,if_true]
     clear hz
     rw[hmm]
     simp(maxSteps:=9^7) (disch:=try exact dI) only[Po,WO,hm,cP,push_cast,seval]
     refine ag hc rfl ?_
     simp(maxSteps:=9^7) (disch:=try exact dI) only[push_cast,seval]
    ·rw[show iw L 8 m e f=0 by simp only[iw,if_neg hm,if_true]]
     simp(maxSteps:=9^7) (disch:=try exact dI) only[Po,WO,hm,push_cast,seval]
   by_cases hk10:k=10
   ·subst hk10
    obtain⟨g,r,rfl,hx⟩:=h10 rfl
    obtain⟨n',nm',nd',⟨k',m',M',s',w',e',f'⟩,d'⟩:=g
    simp only[TFd.typ] at hx
    have hc:=ih _ hx
    have hl:=hle _ hx
    simp only[WO] at hc
    generalize hz:L (Typ.mk k' m' M' s' w' e' f')=z at hc hl
    have hmm:iw L 10 m e (TFd.mk n' nm' nd' (Typ.mk k' m' M' s' w' e' f') d'::r)=z:=by simp[iw,Od,hz]
    clear hz
    rw[hmm]
    simp(maxSteps:=9^7) (disch:=try exact dI) only[Po,WO,cP,WJ,ae,push_cast,seval]
    refine ab.pure hc rfl ?_
    simp(maxSteps:=9^7) (disch:=try exact dI) only[push_cast,seval]
   by_cases hk9:k=9
   ·subst hk9
    obtain⟨hf,hr⟩:=h9 rfl
    rw[show iw L 9 m e f=(f.map (rB L)).sum by simp[iw]]
    have hrp:∀ g∈f,0<=rB L g/\rB L g<=1000000000000:=fun g hg=>hpos g (hr g hg)
    simp(maxSteps:=9^7) (disch:=try exact dI) only[Po,WO,push_cast,seval]
    refine au ([]) (fun i:Nat=>[(3,.pv (.int .i64 (1+((f.take i).map (rB L)).sum))),(38,.pv (.int .i64 (i:Int)))]) (fun _=>[]) (fun i=>i<=f.length) (fun i=>f.length - i) (0) ?_;intro e0 σ0 n0 h0;simp(maxSteps:=9^7) (disch:=try exact dI) only[push_cast,seval] at h0;obtain⟨rfl,rfl,rfl⟩:=h0;refine⟨?_,?_,?_⟩
    ·simp(maxSteps:=9^7) (disch:=try exact dI) only[Xy,List.map_nil,List.sum_nil,push_cast,seval]
    ·omega
    rintro i hi
    have hsm:=rh (f.take i) fun g hg=>hrp g (List.mem_of_mem_take hg)
    rw[List.length_take] at hsm
    by_cases hlt:i<f.length
    ·have hltI:(i:Int)<(f.length:Int):=by omega
     obtain⟨g,hg⟩:∃ g,f[i]? = some g:=⟨_,WT hlt⟩
     have hst:=GG (p:=rB L) hg
     have hgr:=hr g (WV hg)
     have hgp:=hrp g (WV hg)
     obtain⟨n',nm',nd',⟨k',m',M',s',w',e',f'⟩,d'⟩:=g
     simp only[BN] at hgr
     generalize hS:((f.take i).map (rB L)).sum=S at *
     by_cases h1:nd'=1
     ·subst h1
      have hc:=ih _ (hgr.1 rfl)
      simp only[WO] at hc
      simp only[rB,if_true] at hst hgp
      generalize L (Typ.mk k' m' M' s' w' e' f')=z at hc hst hgp
      simp(maxSteps:=9^7) (disch:=try exact dI) only[hg,Xm,WJ,WO,ae,push_cast,seval]
      refine ab.pure hc rfl ?_
      simp(maxSteps:=9^7) (disch:=try exact dI) only[push_cast,seval]
      exact⟨i+1,aJ (by simp(maxSteps:=9^7) (disch:=try exact dI) only[hst,Int.add_assoc,push_cast,seval]),by omega,by omega⟩
     ·by_cases h3:nd'=3
      ·subst h3
       obtain⟨x,r,rfl,hx⟩:=hgr.2 rfl
       have hc:=LZ (lvl x) x (m8 x) hx.1 (by have:=hx.2;omega)
       simp only[rB,if_neg h1,if_true,TV] at hst hgp
       generalize ((ff (lvl x) 1 x).length:Int)=z at hc hst hgp
       obtain⟨vk,vn,vs,vt,vl,vf⟩:=x
       simp only[WQ] at hc
       simp(maxSteps:=9^7) (disch:=try exact dI) only[hg,Xm,WJ,WO,ae,cP,WQ,push_cast,seval]
       refine ab.pure hc rfl ?_
       simp(maxSteps:=9^7) (disch:=try exact dI) only[push_cast,seval]
       exact⟨i+1,aJ (by simp(maxSteps:=9^7) (disch:=try exact dI) only[hst,Int.add_assoc,push_cast,seval]),by omega,by omega⟩
      ·simp only[rB,if_neg h1,if_neg h3] at hst
       simp(maxSteps:=9^7) (disch:=try exact dI) only[hg,Xm,WJ,WO,ae,h1,h3,push_cast,seval]
       exact⟨i+1,aJ (by simp(maxSteps:=9^7) (disch:=try exact dI) only[hst,Int.add_zero,push_cast,seval]),by omega,by omega⟩
    ·have he:i=f.length:=by omega
     subst he
     rw[List.take_length] at hsm ⊢
     simp(maxSteps:=9^7) (disch:=try exact dI) only[Int.lt_irrefl,push_cast,seval]
   ·rw[show iw L k m e f=0 by simp[iw,hk8,hk9,hk10]]
    simp(maxSteps:=9^7) (disch:=try exact dI) only[Po,WO,push_cast,seval]
noncomputable def en:Nat->Typ->Int
 | 0,_=>0
 | n+1,.mk k m M s w e f=>f.foldl (fun a g=>max a (en n g.typ)) (e.foldl (fun a x=>max a (en n x)) (dl 9 (.mk k m M s w e f)))
def SB:Nat->Typ->Prop
 | 0,_=>False
 | n+1,.mk k m M s w e f=>eV 9 (.mk k m M s w e f)/\e.length<=9000000000000/\f.length<=9000000000000/\(∀ x∈e,SB n x)/\∀ g∈f,SB n g.typ
theorem mf {α β:Type}{p:β->α->β}{l:List α}{i:Nat}{x:α}(h:l[i]? = some x)(b:β):(l.take (i+1)).foldl p b=p ((l.take i).foldl p b) x:=by rw[aE h,List.foldl_append];rfl
theorem f0:∀ (n:Nat) (t:Typ),SB n t->ap Tryz.prog aC 111 [t.pv] (.int .i64 (en n t))
 | 0,_,h=>h.elim
 | n+1,.mk k m M s w e f,h=>by
   have ih:=f0 n
   simp only[SB] at h
   obtain⟨h1,hel,hfl,he,hf⟩:=h
   have hle:=iW 9 _ h1
   simp only[en]
   generalize dl 9 (.mk k m M s w e f)=z at *
   simp only[WO] at hle
   obtain⟨Q,hQ⟩:∃ Q,Q=fun (a:Int) (x:Typ)=>max a (en n x):=⟨_,rfl⟩
   obtain⟨R,hR⟩:∃ R,R=fun (a:Int) (x:TFd)=>max a (en n x.typ):=⟨_,rfl⟩
   rw[<- hQ,<- hR]
   refine ap.intro Vz.2 (by simp[Vz]) ?_
   simp(maxSteps:=9^7) (disch:=try exact dI) only[Vz,WO,push_cast,seval]
   refine ab.pure hle rfl ?_
   simp(maxSteps:=9^7) (disch:=try exact dI) only[push_cast,seval]
   refine au ([]) (fun i:Nat=>[(3,.pv (.int .i64 ((e.take i).foldl Q z))),(13,.pv (.int .i64 (i:Int)))]) (fun _=>[]) (fun i=>i<=e.length) (fun i=>e.length - i) (0) ?_;intro e0 σ0 n0 h0;simp(maxSteps:=9^7) (disch:=try exact dI) only[push_cast,seval] at h0;obtain⟨rfl,rfl,rfl⟩:=h0;refine⟨?_,?_,?_⟩
   ·simp(maxSteps:=9^7) (disch:=try exact dI) only[Xy,List.foldl_nil,push_cast,seval]
   ·omega
   rintro i hi
   by_cases hlt:i<e.length
   ·have hltI:(i:Int)<(e.length:Int):=by omega
    obtain⟨x,hx⟩:∃ x,e[i]? = some x:=⟨_,WT hlt⟩
    have hc:=ih x (he x (WV hx))
    have hst:=mf (p:=Q) hx z
    rw[show Q ((e.take i).foldl Q z) x=max ((e.take i).foldl Q z) (en n x) by rw[hQ]] at hst
    generalize en n x=y at hc hst
    obtain⟨k',m',M',s',w',e',f'⟩:=x
    simp only[WO] at hc
    simp(maxSteps:=9^7) (disch:=try exact dI) only[hx,Xm,WO,ae,push_cast,seval]
    refine ab.pure hc rfl ?_
    simp(maxSteps:=9^7) (disch:=try exact dI) only[push_cast,seval]
    exact⟨i+1,aJ (by simp(maxSteps:=9^7) (disch:=try exact dI) only[hst,push_cast,seval]),by omega,by omega⟩
   obtain rfl:i=e.length:=by omega
   clear hi hlt
   rw[List.take_length]
   generalize e.foldl Q z=z2
   simp(maxSteps:=9^7) (disch:=try exact dI) only[Int.lt_irrefl,push_cast,seval]
   refine au ([]) (fun i:Nat=>[(3,.pv (.int .i64 ((f.take i).foldl R z2))),(25,.pv (.int .i64 (i:Int)))]) (fun _=>[]) (fun i=>i<=f.length) (fun i=>f.length - i) (0) ?_;intro e0 σ0 n0 h0;simp(maxSteps:=9^7) (disch:=try exact dI) only[push_cast,seval] at h0;obtain⟨rfl,rfl,rfl⟩:=h0;refine⟨?_,?_,?_⟩
   ·simp(maxSteps:=9^7) (disch:=try exact dI) only[Xy,List.foldl_nil,push_cast,seval]
   ·omega
   rintro i hi
   by_cases hlt:i<f.length
   ·have hltI:(i:Int)<(f.length:Int):=by omega
    obtain⟨x,hx⟩:∃ x,f[i]? = some x:=⟨_,WT hlt⟩
    have hc:=ih x.typ (hf x (WV hx))
    have hst:=mf (p:=R) hx z2
    rw[show R ((f.take i).foldl R z2) x=max ((f.take i).foldl R z2) (en n x.typ) by rw[hR]] at hst
    generalize en n x.typ=y at hc hst
    obtain⟨n',nm',nd',⟨k',m',M',s',w',e',f'⟩,d'⟩:=x
    simp only[TFd.typ,WO] at hc
    simp(maxSteps:=9^7) (disch:=try exact dI) only[hx,Xm,WO,WJ,ae,push_cast,seval]
    refine ab.pure hc rfl ?_
    simp(maxSteps:=9^7) (disch:=try exact dI) only[push_cast,seval]
    exact⟨i+1,aJ (by simp(maxSteps:=9^7) (disch:=try exact dI) only[hst,push_cast,seval]),by omega,by omega⟩
   obtain rfl:i=f.length:=by omega
   clear hi hlt
   rw[List.take_length]
   simp(maxSteps:=9^7) (disch:=try exact dI) only[Int.lt_irrefl,push_cast,seval]
theorem DE (l:List TFd)(g:Nat)(cs:List PV)(q:TFd->Bool)(hq:∀ x∈l,ap Tryz.prog aC g (x.pv::cs) (.bool (q x)))(hl:l.length<=9000000000000) :
  ap Tryz.prog aC 171 [.list (l.map TFd.pv),.clo g [] cs] (.int .i64 (iH q l 0)):=by
 refine ap.intro PK.2 (by simp[PK]) ?_
 simp(disch:=try exact dI) only[PK,push_cast,seval]
 refine au ([]) (fun m:Nat=>[(8,.pv (.int .i64 (m:Int)))]) (fun m=>[]) (fun m=>m<=l.length/\iH q l 0=iH q (l.drop m) m) (fun m=>l.length - m) (0) ?_;intro e0 σ0 n0 h0;simp(disch:=try exact dI) only[push_cast,seval] at h0;obtain⟨rfl,rfl,rfl⟩:=h0;refine⟨?_,?_,?_⟩
 ·exact qsZ
 ·exact⟨by omega,by simp⟩
 ·rintro m ⟨hm,he⟩
  by_cases hlt:m<l.length
  ·have hltI:(m:Int)<l.length:=by omega
   obtain⟨x,hx⟩:∃ x,l[m]? = some x:=⟨_,WT hlt⟩
   have hcall:=hq x (WV hx)
   simp(disch:=try exact dI) only[hx,TFd.cells_len,TFd.isAgg,push_cast,seval]
   refine ab.pure hcall (by exact uc (x.pv::cs)) ?_
   cases hqx:q x with
   | true=>
     rw[he,kr hx hqx]
     exact qsZ
   | false=>
     rw[gU hx hqx] at he
     refine zgZ ?_
     exact⟨m+1,aJ qsZ,⟨by omega,he⟩,by omega⟩
  ·have hltI:¬ (m:Int)<l.length:=by omega
   rw[he,ku hlt]
   exact qsZ
theorem zj (l:List TFd)(g:Nat)(cs:List PV)(q:TFd->Bool)(hq:∀ x∈l,ap Tryz.prog aC g (x.pv::cs) (.bool (q x)))(hl:l.length<=9000000000000) :
  ap Tryz.prog aC 154 [.list (l.map TFd.pv),.clo g [] cs] (.bool (l.any q)):=by
 have h94:=DE l g cs q hq hl
 have hfa:=jB (p:=q) l
 refine ap.intro Lb.2 (by simp[Lb]) ?_
 rcases eM (p:=q) l 0 with ⟨h1,h2⟩ | ⟨k,x,h1,h2,h3⟩
 ·rw[h2] at h94
  rw[h1] at hfa
  rw[<- hfa]
  simp(disch:=try exact dI) only[Lb,push_cast,seval]
  refine ab.pure h94 rfl ?_
  refine zgZ ?_
  exact .refl _
 ·rw[h3] at h94
  rw[h2] at hfa
  rw[<- hfa]
  have hk:(0:Int)<=((0+k:Nat):Int):=by omega
  generalize ((0+k:Nat):Int)=z at *
  simp(disch:=try exact dI) only[Lb,push_cast,seval]
  refine ab.pure h94 rfl ?_
  refine zgZ ?_
  exact .refl _
def named (name:List UInt8)(x:TFd):Bool:=decide (x.name=name)
def iV (name:List UInt8)(x:Fld):Bool:=decide (x.name=name)
def lD:TFd:=.mk 0 [] 0 (.mk 0 0 0 0 [] [] []) []
def Lm:Val:=.mk 0 0 0 [] [] []
def tfR (o:Option TFd):PV:=.tup [(o.getD lD).pv,.bool o.isSome]
def vlR (o:Option Val):PV:=.tup [(o.getD Lm).pv,.bool o.isSome]
theorem IP (l:List (List UInt8))(s:List UInt8)(h:l.length<=9000000000000):ap Tryz.prog aC 187 [.list (l.map PV.str),.str s] (.int .i64 (iH (fun x=>decide (x=s)) l 0)):=by
 refine ap.intro Vb.2 (by simp[Vb]) ?_
 generalize hR:iH (fun x=>decide (x=s)) l 0=R
 simp(disch:=try exact dI) only[Vb,push_cast,seval]
 refine au ([]) (fun m:Nat=>[(8,.pv (.int .i64 (m:Int)))]) (fun m=>[]) (fun m=>m<=l.length/\R=iH (fun x=>decide (x=s)) (l.drop m) m) (fun m=>l.length - m) (0) ?_;intro e0 σ0 n0 h0;simp(disch:=try exact dI) only[push_cast,seval] at h0;obtain⟨rfl,rfl,rfl⟩:=h0;refine⟨?_,?_,?_⟩
 ·exact qsZ
 ·exact⟨by omega,hR.symm⟩
 ·rintro i ⟨hi,he⟩
  by_cases hlt:i<l.length
  ·have hltI:(i:Int)<l.length:=by omega
   obtain⟨x,hx⟩:∃ x,l[i]? = some x:=⟨_,WT hlt⟩
   by_cases hn:s=x
   ·rw[he,kr hx (by simp[hn])]
    simp(disch:=try exact dI) only[hx,hn,push_cast,seval]
   ·rw[gU hx (by simp;exact fun h=>hn h.symm)] at he
    simp(disch:=try exact dI) only[hx,hn,push_cast,seval]
    exact⟨i+1,aJ qsZ,⟨by omega,he⟩,by omega⟩
  ·have hltI:¬ (i:Int)<l.length:=by omega
   rw[he,ku hlt]
   exact qsZ
theorem zh (l:List (List UInt8))(s:List UInt8)(h:l.length<=9000000000000):ap Tryz.prog aC 160 [.list (l.map PV.str),.str s] (.bool (l.any fun x=>decide (x=s))):=by
 have h111:=IP l s h
 have hfa:=jB (p:=fun x=>decide (x=s)) l
 refine ap.intro TM.2 (by simp[TM]) ?_
 rcases eM (p:=fun x=>decide (x=s)) l 0 with ⟨h1,h2⟩ | ⟨k,x,h1,h2,h3⟩
 ·rw[h2] at h111
  rw[h1] at hfa
  rw[<- hfa]
  simp(disch:=try exact dI) only[TM,push_cast,seval]
  refine ab.pure h111 rfl ?_
  refine zgZ ?_
  exact .refl _
 ·rw[h3] at h111
  rw[h2] at hfa
  rw[<- hfa]
  have hk:(0:Int)<=((0+k:Nat):Int):=by omega
  generalize ((0+k:Nat):Int)=z at *
  simp(disch:=try exact dI) only[TM,push_cast,seval]
  refine ab.pure h111 rfl ?_
  refine zgZ ?_
  exact .refl _
theorem RR (x:Fld)(name:List UInt8):ap Tryz.prog aC 197 [x.pv,.eptr [.str name] 0 0] (.bool (iV name x)):=by
 obtain⟨a,⟨k,m,n,s,w,e⟩⟩:=x
 refine ap.intro U5.2 (by simp[U5]) ?_
 simp(disch:=try exact dI) only[U5,Wq,WQ,iV,Fld.name,push_cast,seval]
 exact decide_eq_decide.2 Iff.rfl
theorem IM (l:List Fld)(g:Nat)(cs:List PV)(q:Fld->Bool)(hq:∀ x∈l,ap Tryz.prog aC g (x.pv::cs) (.bool (q x)))(hl:l.length<=9000000000000) :
  ap Tryz.prog aC 196 [.list (l.map Fld.pv),.clo g [] cs] (.int .i64 (iH q l 0)):=by
 refine ap.intro U6.2 (by simp[U6]) ?_
 simp(disch:=try exact dI) only[U6,push_cast,seval]
 refine au ([]) (fun m:Nat=>[(8,.pv (.int .i64 (m:Int)))]) (fun m=>[]) (fun m=>m<=l.length/\iH q l 0=iH q (l.drop m) m) (fun m=>l.length - m) (0) ?_;intro e0 σ0 n0 h0;simp(disch:=try exact dI) only[push_cast,seval] at h0;obtain⟨rfl,rfl,rfl⟩:=h0;refine⟨?_,?_,?_⟩
 ·exact qsZ
 ·exact⟨by omega,by simp⟩
 ·rintro m ⟨hm,he⟩
  by_cases hlt:m<l.length
  ·have hltI:(m:Int)<l.length:=by omega
   obtain⟨x,hx⟩:∃ x,l[m]? = some x:=⟨_,WT hlt⟩
   have hcall:=hq x (WV hx)
   simp(disch:=try exact dI) only[hx,Fld.cells_len,Fld.isAgg,push_cast,seval]
   refine ab.pure hcall (by exact uc (x.pv::cs)) ?_
   cases hqx:q x with
   | true=>
     rw[he,kr hx hqx]
     exact qsZ
   | false=>
     rw[gU hx hqx] at he
     refine zgZ ?_
     exact⟨m+1,aJ qsZ,⟨by omega,he⟩,by omega⟩
  ·have hltI:¬ (m:Int)<l.length:=by omega
   rw[he,ku hlt]
   exact qsZ
theorem IL (v:Val)(name:List UInt8)(h:v.fields.length<=9000000000000):ap Tryz.prog aC 191 [v.pv,.str name] (.int .i64 (iH (iV name) v.fields 0)):=by
 obtain⟨k,i,s,t,l,f⟩:=v
 simp only[Val.fields] at h ⊢
 have h117:=IM f 197 [.eptr [.str name] 0 0] (iV name) (fun x _=>RR x name) (by omega)
 refine ap.intro U8.2 (by simp[U8]) ?_
 simp(disch:=try exact dI) only[U8,WQ,push_cast,seval]
 refine ab.pure h117 rfl ?_
 exact qsZ
theorem Jt (v:Val)(name:List UInt8)(hv:v.ok)(hk:v.kind=9)(h:v.fields.length<=9000000000000):ap Tryz.prog aC 165 [v.pv,.str name] (vlR ((v.fields.find? (iV name)).map Fld.value)):=by
 have h127:=IL v name h
 obtain⟨k,i,s,t,l,f⟩:=v
 rw[WP] at hv
 simp only[Val.fields,Val.kind] at h hk h127 ⊢
 rw[WQ] at h127
 refine ap.intro TJ.2 (by simp[TJ]) ?_
 rcases eM (p:=iV name) f 0 with ⟨h1,h2⟩ | ⟨i',x,h1,h2,h3⟩
 ·rw[h1]
  rw[h2] at h127
  simp(disch:=try exact dI) only[TJ,WQ,push_cast,seval]
  refine ab.pure h127 rfl ?_
  simp(disch:=try exact dI) only[hk,vlR,Option.map_none,Option.getD_none,Option.isSome_none,Lm,WQ,push_cast,seval]
 ·rw[h2]
  rw[h3,Nat.zero_add] at h127
  have hxo:=hv.2.2.2.2.2.2.2 x (WV h1)
  obtain⟨x1,x2⟩:=x
  rw[Wp] at hxo
  have hcl:=kK _ x2 (Nat.lt_succ_self _) hxo.2
  obtain⟨y1,y2,y3,y4,y5,y6⟩:=x2
  rw[WQ] at hcl
  have hi:¬ (i':Int)<0:=by omega
  simp(disch:=try exact dI) only[TJ,WQ,push_cast,seval]
  refine ab.pure h127 rfl ?_
  simp(disch:=try exact dI) only[h1,hk,Wq,WQ,push_cast,seval]
  refine ab.pure hcl rfl ?_
  simp(disch:=try exact dI) only[vlR,Xm,Fld.value,Option.getD_some,Option.isSome_some,WQ,push_cast,seval]
