/- A part. -/
import Derived.Test.YtamoeblcphjbaaaGreatDoorTyLS1
set_option linter.unusedVariables false
set_option linter.unusedSimpArgs false
set_option maxHeartbeats 16000000
set_option maxRecDepth 100000
open List renaming length_cons->WG,map_append->XG,take_zero->XS,length_take->Xd,getElem?_eq_getElem->WE,mem_of_getElem?->WK,take_length->WV
open Option renaming map_some->WZ,getD_some->XK
open Int renaming lt_irrefl->XT
namespace Go.Proofs.YtamoeblcphjbaaaGreatDoor
open Go Go.Ab
attribute [local irreducible] vc
noncomputable def TL (v:Val):Int:=((bF (lvl v) 1 v).length:Int)
def Qu (v:Val):Prop:=v.ok/\(bF (lvl v) 1 v).length<=1000000000000
noncomputable def dY (least:Typ->Int):TFd->Int
 | .mk _ _ nd t d=>if nd=1 then least t else if nd=3 then (match d with | []=>0 | x::_=>TL x) else 0
def Ok (p:Typ->Int):List Typ->Int
 | []=>0
 | x::_=>p x
def Ol (p:Typ->Int):List TFd->Int
 | []=>0
 | .mk _ _ _ t _::_=>p t
noncomputable def jV (p:Typ->Int)(k m:Int)(e:List Typ)(f:List TFd):Int:=if k=8 then (if 0<m then m*Ok p e else 0) else if k=10 then Ol p f else if k=9 then (f.map (dY p)).sum else 0
noncomputable def dF:Nat->Typ->Int
 | 0,_=>1
 | n+1,.mk k m _ _ _ e f=>min (1+jV (dF n) k m e f) 4097
def CE (p:Typ->Prop):TFd->Prop
 | .mk _ _ nd t d=>(nd=1->p t)/\(nd=3->∃ x r,d=x::r/\Qu x)
def fQ:Nat->Typ->Prop
 | 0,_=>False
 | n+1,.mk k m _ _ _ e f=>(k=8->0<m->m<=256/\∃ x r,e=x::r/\fQ n x)/\(k=10->∃ g r,f=g::r/\fQ n g.typ)/\(k=9->f.length<=64/\∀ g∈f,CE (fQ n) g)
theorem wi {n:Nat}(hle:∀ t,fQ n t->1<=dF n t/\dF n t<=4097){g:TFd}(hg:CE (fQ n) g):0<=dY (dF n) g/\dY (dF n) g<=1000000000000:=by
 obtain⟨a,b,nd,t,d⟩:=g
 simp only[dY,CE] at hg ⊢
 by_cases h1:nd=1
 ·rw[if_pos h1];have:=hle t (hg.1 h1);omega
 ·rw[if_neg h1]
  by_cases h3:nd=3
  ·obtain⟨x,r,rfl,hx⟩:=hg.2 h3
   rw[if_pos h3]
   have:=hx.2
   simp only[TL];omega
  ·rw[if_neg h3];omega
theorem tr {p:TFd->Int}:∀ (f:List TFd),(∀ g∈f,0<=p g/\p g<=1000000000000)->0<=(f.map p).sum/\(f.map p).sum<=1000000000000*f.length
 | [],_=>by simp
 | g::r,h=>by
   have h1:=h g (List.mem_cons_self ..)
   have h2:=tr r fun x hx=>h x (List.mem_cons_of_mem _ hx)
   simp only[List.map_cons,List.sum_cons,WG]
   omega
theorem gS:∀ (n:Nat) (t:Typ),fQ n t->1<=dF n t/\dF n t<=4097
 | 0,_,h=>h.elim
 | n+1,.mk k m M s w e f,h=>by
   simp only[dF,fQ] at h ⊢
   obtain⟨h8,h10,h9⟩:=h
   refine⟨?_,by omega⟩
   have key:0<=jV (dF n) k m e f:=by
    unfold jV
    split
    ·split
     ·rename_i e1 e2
      obtain⟨_,x,r,rfl,hx⟩:=h8 e1 e2
      have:=gS n x hx
      exact Int.mul_nonneg (by omega) (by simp only[Ok];omega)
     ·omega
    ·split
     ·rename_i e1 e2
      obtain⟨g,r,rfl,hx⟩:=h10 e2
      have:=gS n g.typ hx
      obtain⟨a,b,c,t,d⟩:=g
      simp only[Ol,TFd.typ] at this ⊢;omega
     ·split
      ·rename_i e1
       exact (tr f fun g hg=>wi (gS n) ((h9 e1).2 g hg)).1
      ·omega
   omega
theorem Hs {p:TFd->Int}{f:List TFd}{i:Nat}{g:TFd}(h:f[i]? = some g):((f.take (i+1)).map p).sum=((f.take i).map p).sum+p g:=by
 rw[aK h,XG,List.sum_append];simp
theorem kA:∀ (n:Nat) (t:Typ),fQ n t->am Tryz.prog aC 145 [t.pv] (.int .i64 (dF n t))
 | 0,_,h=>h.elim
 | n+1,.mk k m M s w e f,h=>by
   have ih:=kA n
   have hle:=gS n
   have hpos:∀ g,CE (fQ n) g->0<=dY (dF n) g/\dY (dF n) g<=1000000000000:=fun g hg=>wi hle hg
   simp only[fQ] at h
   obtain⟨h8,h10,h9⟩:=h
   simp only[dF]
   generalize dF n=L at *
   refine am.intro Pz.2 (by simp[Pz]) ?_
   by_cases hk8:k=8
   ·subst hk8
    by_cases hm:0<m
    ·obtain⟨hm2,x,r,rfl,hx⟩:=h8 rfl hm
     have hc:=ih x hx
     have hl:=hle x hx
     obtain⟨k',m',M',s',w',e',f'⟩:=x
     simp only[WB] at hc
     generalize hz:L (Typ.mk k' m' M' s' w' e' f')=z at hc hl
     have hmul:0<=m*z:=Int.mul_nonneg (by omega) (by omega)
     have hmul2:m*z<=256*4097:=Int.mul_le_mul hm2 hl.2 (by omega) (by omega)
     have hmm:jV L 8 m (Typ.mk k' m' M' s' w' e' f'::r) f=m*z:=by simp only[jV,Ok,hz,if_pos hm,if_true]
     clear hz
     rw[hmm]
     simp(disch:=try exact dI) only[Pz,WB,hm,aJ,push_cast,seval]
     refine ag hc rfl ?_
     exact qsZ
    ·rw[show jV L 8 m e f=0 by simp only[jV,if_neg hm,if_true]]
     simp(disch:=try exact dI) only[Pz,WB,hm,push_cast,seval]
   by_cases hk10:k=10
   ·subst hk10
    obtain⟨g,r,rfl,hx⟩:=h10 rfl
    obtain⟨n',nm',nd',⟨k',m',M',s',w',e',f'⟩,d'⟩:=g
    simp only[TFd.typ] at hx
    have hc:=ih _ hx
    have hl:=hle _ hx
    simp only[WB] at hc
    generalize hz:L (Typ.mk k' m' M' s' w' e' f')=z at hc hl
    have hmm:jV L 10 m e (TFd.mk n' nm' nd' (Typ.mk k' m' M' s' w' e' f') d'::r)=z:=by simp[jV,Ol,hz]
    clear hz
    rw[hmm]
    simp(disch:=try exact dI) only[Pz,WB,aJ,Wt,ap,push_cast,seval]
    refine ae.pure hc rfl ?_
    exact qsZ
   by_cases hk9:k=9
   ·subst hk9
    obtain⟨hf,hr⟩:=h9 rfl
    rw[show jV L 9 m e f=(f.map (dY L)).sum by simp[jV]]
    have hrp:∀ g∈f,0<=dY L g/\dY L g<=1000000000000:=fun g hg=>hpos g (hr g hg)
    simp(disch:=try exact dI) only[Pz,WB,push_cast,seval]
    refine aG ([]) (fun i:Nat=>[(3,.pv (.int .i64 (1+((f.take i).map (dY L)).sum))),(38,.pv (.int .i64 (i:Int)))]) (fun _=>[]) (fun i=>i<=f.length) (fun i=>f.length - i) (0) ?_;intro e0 σ0 n0 h0;simp(disch:=try exact dI) only[push_cast,seval] at h0;obtain⟨rfl,rfl,rfl⟩:=h0;refine⟨?_,?_,?_⟩
    ·simp(disch:=try exact dI) only[XS,List.map_nil,List.sum_nil,push_cast,seval]
    ·omega
    rintro i hi
    have hsm:=tr (f.take i) fun g hg=>hrp g (List.mem_of_mem_take hg)
    rw[Xd] at hsm
    by_cases hlt:i<f.length
    ·have hltI:(i:Int)<(f.length:Int):=by omega
     obtain⟨g,hg⟩:∃ g,f[i]? = some g:=⟨_,WE hlt⟩
     have hst:=Hs (p:=dY L) hg
     have hgr:=hr g (WK hg)
     have hgp:=hrp g (WK hg)
     obtain⟨n',nm',nd',⟨k',m',M',s',w',e',f'⟩,d'⟩:=g
     simp only[CE] at hgr
     generalize hS:((f.take i).map (dY L)).sum=S at *
     by_cases h1:nd'=1
     ·subst h1
      have hc:=ih _ (hgr.1 rfl)
      simp only[WB] at hc
      simp only[dY,if_true] at hst hgp
      generalize L (Typ.mk k' m' M' s' w' e' f')=z at hc hst hgp
      simp(disch:=try exact dI) only[hg,WZ,Wt,WB,ap,push_cast,seval]
      refine ae.pure hc rfl ?_
      refine zgZ ?_
      exact⟨i+1,bl (by simp(disch:=try exact dI) only[hst,Int.add_assoc,push_cast,seval]),by omega,by omega⟩
     ·by_cases h3:nd'=3
      ·subst h3
       obtain⟨x,r,rfl,hx⟩:=hgr.2 rfl
       have hc:=MK (lvl x) x (wM x) hx.1 (by have:=hx.2;omega)
       simp only[dY,if_neg h1,if_true,TL] at hst hgp
       generalize ((bF (lvl x) 1 x).length:Int)=z at hc hst hgp
       obtain⟨vk,vn,vs,vt,vl,vf⟩:=x
       simp only[WD] at hc
       simp(disch:=try exact dI) only[hg,WZ,Wt,WB,ap,aJ,WD,push_cast,seval]
       refine ae.pure hc rfl ?_
       refine zgZ ?_
       exact⟨i+1,bl (by simp(disch:=try exact dI) only[hst,Int.add_assoc,push_cast,seval]),by omega,by omega⟩
      ·simp only[dY,if_neg h1,if_neg h3] at hst
       simp(disch:=try exact dI) only[hg,WZ,Wt,WB,ap,h1,h3,push_cast,seval]
       exact⟨i+1,bl (by simp(disch:=try exact dI) only[hst,Int.add_zero,push_cast,seval]),by omega,by omega⟩
    ·have he:i=f.length:=by omega
     subst he
     rw[WV] at hsm ⊢
     simp(disch:=try exact dI) only[XT,push_cast,seval]
   ·rw[show jV L k m e f=0 by simp[jV,hk8,hk9,hk10]]
    simp(disch:=try exact dI) only[Pz,WB,push_cast,seval]
noncomputable def eV:Nat->Typ->Int
 | 0,_=>0
 | n+1,.mk k m M s w e f=>f.foldl (fun a g=>max a (eV n g.typ)) (e.foldl (fun a x=>max a (eV n x)) (dF 9 (.mk k m M s w e f)))
def SM:Nat->Typ->Prop
 | 0,_=>False
 | n+1,.mk k m M s w e f=>fQ 9 (.mk k m M s w e f)/\e.length<=9000000000000/\f.length<=9000000000000/\(∀ x∈e,SM n x)/\∀ g∈f,SM n g.typ
theorem oB {α β:Type}{p:β->α->β}{l:List α}{i:Nat}{x:α}(h:l[i]? = some x)(b:β):(l.take (i+1)).foldl p b=p ((l.take i).foldl p b) x:=by rw[aK h,List.foldl_append];rfl
theorem io:∀ (n:Nat) (t:Typ),SM n t->am Tryz.prog aC 64 [t.pv] (.int .i64 (eV n t))
 | 0,_,h=>h.elim
 | n+1,.mk k m M s w e f,h=>by
   have ih:=io n
   simp only[SM] at h
   obtain⟨h1,hel,hfl,he,hf⟩:=h
   have hle:=kA 9 _ h1
   simp only[eV]
   generalize dF 9 (.mk k m M s w e f)=z at *
   simp only[WB] at hle
   obtain⟨Q,hQ⟩:∃ Q,Q=fun (a:Int) (x:Typ)=>max a (eV n x):=⟨_,rfl⟩
   obtain⟨R,hR⟩:∃ R,R=fun (a:Int) (x:TFd)=>max a (eV n x.typ):=⟨_,rfl⟩
   rw[<- hQ,<- hR]
   refine am.intro Q64.2 (by simp[Q64]) ?_
   simp(disch:=try exact dI) only[Q64,WB,push_cast,seval]
   refine ae.pure hle rfl ?_
   refine zgZ ?_
   refine aG ([]) (fun i:Nat=>[(3,.pv (.int .i64 ((e.take i).foldl Q z))),(13,.pv (.int .i64 (i:Int)))]) (fun _=>[]) (fun i=>i<=e.length) (fun i=>e.length - i) (0) ?_;intro e0 σ0 n0 h0;simp(disch:=try exact dI) only[push_cast,seval] at h0;obtain⟨rfl,rfl,rfl⟩:=h0;refine⟨?_,?_,?_⟩
   ·simp(disch:=try exact dI) only[XS,List.foldl_nil,push_cast,seval]
   ·omega
   rintro i hi
   by_cases hlt:i<e.length
   ·have hltI:(i:Int)<(e.length:Int):=by omega
    obtain⟨x,hx⟩:∃ x,e[i]? = some x:=⟨_,WE hlt⟩
    have hc:=ih x (he x (WK hx))
    have hst:=oB (p:=Q) hx z
    rw[show Q ((e.take i).foldl Q z) x=max ((e.take i).foldl Q z) (eV n x) by rw[hQ]] at hst
    generalize eV n x=y at hc hst
    obtain⟨k',m',M',s',w',e',f'⟩:=x
    simp only[WB] at hc
    simp(disch:=try exact dI) only[hx,WZ,WB,ap,push_cast,seval]
    refine ae.pure hc rfl ?_
    refine zgZ ?_
    exact⟨i+1,bl (by simp(disch:=try exact dI) only[hst,push_cast,seval]),by omega,by omega⟩
   obtain rfl:i=e.length:=by omega
   clear hi hlt
   rw[WV]
   generalize e.foldl Q z=z2
   simp(disch:=try exact dI) only[XT,push_cast,seval]
   refine aG ([]) (fun i:Nat=>[(3,.pv (.int .i64 ((f.take i).foldl R z2))),(25,.pv (.int .i64 (i:Int)))]) (fun _=>[]) (fun i=>i<=f.length) (fun i=>f.length - i) (0) ?_;intro e0 σ0 n0 h0;simp(disch:=try exact dI) only[push_cast,seval] at h0;obtain⟨rfl,rfl,rfl⟩:=h0;refine⟨?_,?_,?_⟩
   ·simp(disch:=try exact dI) only[XS,List.foldl_nil,push_cast,seval]
   ·omega
   rintro i hi
   by_cases hlt:i<f.length
   ·have hltI:(i:Int)<(f.length:Int):=by omega
    obtain⟨x,hx⟩:∃ x,f[i]? = some x:=⟨_,WE hlt⟩
    have hc:=ih x.typ (hf x (WK hx))
    have hst:=oB (p:=R) hx z2
    rw[show R ((f.take i).foldl R z2) x=max ((f.take i).foldl R z2) (eV n x.typ) by rw[hR]] at hst
    generalize eV n x.typ=y at hc hst
    obtain⟨n',nm',nd',⟨k',m',M',s',w',e',f'⟩,d'⟩:=x
    simp only[TFd.typ,WB] at hc
    simp(disch:=try exact dI) only[hx,WZ,WB,Wt,ap,push_cast,seval]
    refine ae.pure hc rfl ?_
    refine zgZ ?_
    exact⟨i+1,bl (by simp(disch:=try exact dI) only[hst,push_cast,seval]),by omega,by omega⟩
   obtain rfl:i=f.length:=by omega
   clear hi hlt
   rw[WV]
   simp(disch:=try exact dI) only[XT,push_cast,seval]
theorem Em (l:List TFd)(g:Nat)(cs:List PV)(q:TFd->Bool)(hq:∀ x∈l,am Tryz.prog aC g (x.pv::cs) (.bool (q x)))(hl:l.length<=9000000000000) :
  am Tryz.prog aC 254 [.list (l.map TFd.pv),.clo g [] cs] (.int .i64 (j6 q l 0)):=by
 refine am.intro PX.2 (by simp[PX]) ?_
 simp(disch:=try exact dI) only[PX,push_cast,seval]
 refine aG ([]) (fun m:Nat=>[(8,.pv (.int .i64 (m:Int)))]) (fun m=>[]) (fun m=>m<=l.length/\j6 q l 0=j6 q (l.drop m) m) (fun m=>l.length - m) (0) ?_;intro e0 σ0 n0 h0;simp(disch:=try exact dI) only[push_cast,seval] at h0;obtain⟨rfl,rfl,rfl⟩:=h0;refine⟨?_,?_,?_⟩
 ·exact qsZ
 ·exact⟨by omega,by simp⟩
 ·rintro m ⟨hm,he⟩
  by_cases hlt:m<l.length
  ·have hltI:(m:Int)<l.length:=by omega
   obtain⟨x,hx⟩:∃ x,l[m]? = some x:=⟨_,WE hlt⟩
   have hcall:=hq x (WK hx)
   simp(disch:=try exact dI) only[hx,TFd.cells_len,TFd.isAgg,push_cast,seval]
   refine ae.pure hcall (by exact rj (x.pv::cs)) ?_
   cases hqx:q x with
   | true=>
     rw[he,mR hx hqx]
     exact qsZ
   | false=>
     rw[jn hx hqx] at he
     refine zgZ ?_
     exact⟨m+1,bl qsZ,⟨by omega,he⟩,by omega⟩
  ·have hltI:¬ (m:Int)<l.length:=by omega
   rw[he,mS hlt]
   exact qsZ
theorem AK (l:List TFd)(g:Nat)(cs:List PV)(q:TFd->Bool)(hq:∀ x∈l,am Tryz.prog aC g (x.pv::cs) (.bool (q x)))(hl:l.length<=9000000000000) :
  am Tryz.prog aC 225 [.list (l.map TFd.pv),.clo g [] cs] (.bool (l.any q)):=by
 have h94:=Em l g cs q hq hl
 have hfa:=lp (p:=q) l
 refine am.intro Md.2 (by simp[Md]) ?_
 rcases fE (p:=q) l 0 with ⟨h1,h2⟩ | ⟨k,x,h1,h2,h3⟩
 ·rw[h2] at h94
  rw[h1] at hfa
  rw[<- hfa]
  simp(disch:=try exact dI) only[Md,push_cast,seval]
  refine ae.pure h94 rfl ?_
  refine zgZ ?_
  exact .refl _
 ·rw[h3] at h94
  rw[h2] at hfa
  rw[<- hfa]
  have hk:(0:Int)<=((0+k:Nat):Int):=by omega
  generalize ((0+k:Nat):Int)=z at *
  simp(disch:=try exact dI) only[Md,push_cast,seval]
  refine ae.pure h94 rfl ?_
  refine zgZ ?_
  exact .refl _
def named (name:List UInt8)(x:TFd):Bool:=decide (x.name=name)
def kz (name:List UInt8)(x:Fld):Bool:=decide (x.name=name)
def nK:TFd:=.mk 0 [] 0 (.mk 0 0 0 0 [] [] []) []
def Mh:Val:=.mk 0 0 0 [] [] []
def tfR (o:Option TFd):PV:=.tup [(o.getD nK).pv,.bool o.isSome]
def vlR (o:Option Val):PV:=.tup [(o.getD Mh).pv,.bool o.isSome]
theorem Jh (l:List (List UInt8))(s:List UInt8)(h:l.length<=9000000000000):am Tryz.prog aC 255 [.list (l.map PV.str),.str s] (.int .i64 (j6 (fun x=>decide (x=s)) l 0)):=by
 refine am.intro Vd.2 (by simp[Vd]) ?_
 generalize hR:j6 (fun x=>decide (x=s)) l 0=R
 simp(disch:=try exact dI) only[Vd,push_cast,seval]
 refine aG ([]) (fun m:Nat=>[(8,.pv (.int .i64 (m:Int)))]) (fun m=>[]) (fun m=>m<=l.length/\R=j6 (fun x=>decide (x=s)) (l.drop m) m) (fun m=>l.length - m) (0) ?_;intro e0 σ0 n0 h0;simp(disch:=try exact dI) only[push_cast,seval] at h0;obtain⟨rfl,rfl,rfl⟩:=h0;refine⟨?_,?_,?_⟩
 ·exact qsZ
 ·exact⟨by omega,hR.symm⟩
 ·rintro i ⟨hi,he⟩
  by_cases hlt:i<l.length
  ·have hltI:(i:Int)<l.length:=by omega
   obtain⟨x,hx⟩:∃ x,l[i]? = some x:=⟨_,WE hlt⟩
   by_cases hn:s=x
   ·rw[he,mR hx (by simp[hn])]
    simp(disch:=try exact dI) only[hx,hn,push_cast,seval]
   ·rw[jn hx (by simp;exact fun h=>hn h.symm)] at he
    simp(disch:=try exact dI) only[hx,hn,push_cast,seval]
    exact⟨i+1,bl qsZ,⟨by omega,he⟩,by omega⟩
  ·have hltI:¬ (i:Int)<l.length:=by omega
   rw[he,mS hlt]
   exact qsZ
theorem AJ (l:List (List UInt8))(s:List UInt8)(h:l.length<=9000000000000):am Tryz.prog aC 227 [.list (l.map PV.str),.str s] (.bool (l.any fun x=>decide (x=s))):=by
 have h111:=Jh l s h
 have hfa:=lp (p:=fun x=>decide (x=s)) l
 refine am.intro Tu.2 (by simp[Tu]) ?_
 rcases fE (p:=fun x=>decide (x=s)) l 0 with ⟨h1,h2⟩ | ⟨k,x,h1,h2,h3⟩
 ·rw[h2] at h111
  rw[h1] at hfa
  rw[<- hfa]
  simp(disch:=try exact dI) only[Tu,push_cast,seval]
  refine ae.pure h111 rfl ?_
  refine zgZ ?_
  exact .refl _
 ·rw[h3] at h111
  rw[h2] at hfa
  rw[<- hfa]
  have hk:(0:Int)<=((0+k:Nat):Int):=by omega
  generalize ((0+k:Nat):Int)=z at *
  simp(disch:=try exact dI) only[Tu,push_cast,seval]
  refine ae.pure h111 rfl ?_
  refine zgZ ?_
  exact .refl _
theorem Sb (x:Fld)(name:List UInt8):am Tryz.prog aC 275 [x.pv,.eptr [.str name] 0 0] (.bool (kz name x)):=by
 obtain⟨a,⟨k,m,n,s,w,e⟩⟩:=x
 refine am.intro U7.2 (by simp[U7]) ?_
 simp(disch:=try exact dI) only[U7,Wq,WD,kz,Fld.name,push_cast,seval]
 exact decide_eq_decide.2 Iff.rfl
theorem Jg (l:List Fld)(g:Nat)(cs:List PV)(q:Fld->Bool)(hq:∀ x∈l,am Tryz.prog aC g (x.pv::cs) (.bool (q x)))(hl:l.length<=9000000000000) :
  am Tryz.prog aC 274 [.list (l.map Fld.pv),.clo g [] cs] (.int .i64 (j6 q l 0)):=by
 refine am.intro U8.2 (by simp[U8]) ?_
 simp(disch:=try exact dI) only[U8,push_cast,seval]
 refine aG ([]) (fun m:Nat=>[(8,.pv (.int .i64 (m:Int)))]) (fun m=>[]) (fun m=>m<=l.length/\j6 q l 0=j6 q (l.drop m) m) (fun m=>l.length - m) (0) ?_;intro e0 σ0 n0 h0;simp(disch:=try exact dI) only[push_cast,seval] at h0;obtain⟨rfl,rfl,rfl⟩:=h0;refine⟨?_,?_,?_⟩
 ·exact qsZ
 ·exact⟨by omega,by simp⟩
 ·rintro m ⟨hm,he⟩
  by_cases hlt:m<l.length
  ·have hltI:(m:Int)<l.length:=by omega
   obtain⟨x,hx⟩:∃ x,l[m]? = some x:=⟨_,WE hlt⟩
   have hcall:=hq x (WK hx)
   simp(disch:=try exact dI) only[hx,Fld.cells_len,Fld.isAgg,push_cast,seval]
   refine ae.pure hcall (by exact rj (x.pv::cs)) ?_
   cases hqx:q x with
   | true=>
     rw[he,mR hx hqx]
     exact qsZ
   | false=>
     rw[jn hx hqx] at he
     refine zgZ ?_
     exact⟨m+1,bl qsZ,⟨by omega,he⟩,by omega⟩
  ·have hltI:¬ (m:Int)<l.length:=by omega
   rw[he,mS hlt]
   exact qsZ
theorem Jf (v:Val)(name:List UInt8)(h:v.fields.length<=9000000000000):am Tryz.prog aC 259 [v.pv,.str name] (.int .i64 (j6 (kz name) v.fields 0)):=by
 obtain⟨k,i,s,t,l,f⟩:=v
 simp only[Val.fields] at h ⊢
 have h117:=Jg f 275 [.eptr [.str name] 0 0] (kz name) (fun x _=>Sb x name) (by omega)
 refine am.intro Va.2 (by simp[Va]) ?_
 simp(disch:=try exact dI) only[Va,WD,push_cast,seval]
 refine ae.pure h117 rfl ?_
 exact qsZ
theorem JJ (v:Val)(name:List UInt8)(hv:v.ok)(hk:v.kind=9)(h:v.fields.length<=9000000000000):am Tryz.prog aC 232 [v.pv,.str name] (vlR ((v.fields.find? (kz name)).map Fld.value)):=by
 have h127:=Jf v name h
 obtain⟨k,i,s,t,l,f⟩:=v
 rw[WC] at hv
 simp only[Val.fields,Val.kind] at h hk h127 ⊢
 rw[WD] at h127
 refine am.intro Tq.2 (by simp[Tq]) ?_
 rcases fE (p:=kz name) f 0 with ⟨h1,h2⟩ | ⟨i',x,h1,h2,h3⟩
 ·rw[h1]
  rw[h2] at h127
  simp(disch:=try exact dI) only[Tq,WD,push_cast,seval]
  refine ae.pure h127 rfl ?_
  simp(disch:=try exact dI) only[hk,vlR,Option.map_none,Option.getD_none,Option.isSome_none,Mh,WD,push_cast,seval]
 ·rw[h2]
  rw[h3,Nat.zero_add] at h127
  have hxo:=hv.2.2.2.2.2.2.2 x (WK h1)
  obtain⟨x1,x2⟩:=x
  rw[Wp] at hxo
  have hcl:=na _ x2 (Nat.lt_succ_self _) hxo.2
  obtain⟨y1,y2,y3,y4,y5,y6⟩:=x2
  rw[WD] at hcl
  have hi:¬ (i':Int)<0:=by omega
  simp(disch:=try exact dI) only[Tq,WD,push_cast,seval]
  refine ae.pure h127 rfl ?_
  simp(disch:=try exact dI) only[h1,hk,Wq,WD,push_cast,seval]
  refine ae.pure hcl rfl ?_
  simp(disch:=try exact dI) only[vlR,WZ,Fld.value,XK,Option.isSome_some,WD,push_cast,seval]
theorem J1 (w:List (List UInt8))(hw:w.length*16<=140737488351232):am Tryz.prog aC 281 [.list (w.map PV.str)] (.list (w.map PV.str)):=by
 refine am.intro Tn.2 (by simp[Tn]) ?_
 cases w with
 | nil=>
   simp(disch:=try exact dI) only[Tn,push_cast,seval]
   intro b
   cases b<;>simp(disch:=try exact dI) only[push_cast,seval]
 | cons x r=>
   rw[WG] at hw
   simp(disch:=try exact dI) only[Tn,push_cast,seval]
theorem xQ (n:Int)(nm:List UInt8)(nd k m M s:Int)(w:List (List UInt8))(e:List Typ)(f:List TFd)(d:List Val)(hT:am Tryz.prog aC 280 [(Typ.mk k m M s w e f).pv] (Typ.mk k m M s w e f).pv)(hd:d.length*88<=140737488351232)(hv:∀ v∈d,v.ok) :
  am Tryz.prog aC 273 [(TFd.mk n nm nd (Typ.mk k m M s w e f) d).pv] (TFd.mk n nm nd (Typ.mk k m M s w e f) d).pv:=by
 simp only[WB] at hT
 refine am.intro U9.2 (by simp[U9]) ?_
 simp(disch:=try exact dI) only[U9,Wt,WB,ap,push_cast,seval]
 refine ae.pure hT rfl ?_
 refine zgZ ?_
 refine aG ([]) (fun i:Nat=>[(17,.pv (.int .i64 (i:Int))),(3,.olist 2 6 ((d.take i).map Val.pv))]) (fun _=>[]) (fun i=>i<=d.length) (fun i=>d.length - i) (0) ?_;intro e0 σ0 n0 h0;simp(disch:=try exact dI) only[push_cast,seval] at h0;obtain⟨rfl,rfl,rfl⟩:=h0;refine⟨?_,?_,?_⟩
 ·exact qsZ
 ·omega
 intro i hi
 by_cases hlt:i<d.length
 ·have hltI:(i:Int)<(d.length:Int):=by omega
  obtain⟨x,hx⟩:∃ x,d[i]? = some x:=⟨_,WE hlt⟩
  have hc:=na _ x (Nat.lt_succ_self _) (hv x (WK hx))
  have hts:=aK hx
  have hlt2:(d.take i).length=i:=by rw[Xd];omega
  obtain⟨vk,vn,vs,vt,vl,vf⟩:=x
  simp only[WD] at hc
  simp(disch:=try exact dI) only[hx,WZ,WD,push_cast,seval]
  refine ae.pure hc rfl ?_
  simp(disch:=try exact dI) only[hlt2,push_cast,seval]
  exact⟨i+1,bl (by simp(disch:=try exact dI) only[hts,XG,WD,push_cast,seval]),by omega,by omega⟩
 ·obtain rfl:i=d.length:=by omega
  simp(disch:=try exact dI) only[WV,XT,push_cast,seval]
def bN:Nat->Typ->Prop
 | 0,_=>False
 | n+1,.mk k m M s w e f=>w.length*16<=140737488351232/\e.length*104<=140737488351232/\f.length*160<=140737488351232/\(∀ x∈e,bN n x)/\∀ g∈f,g.dflt.length*88<=140737488351232/\(∀ v∈g.dflt,v.ok)/\bN n g.typ
theorem xP:∀ (n:Nat) (t:Typ),bN n t->am Tryz.prog aC 280 [t.pv] t.pv
 | 0,_,h=>h.elim
 | n+1,.mk k m M s w e f,h=>by
   have ih:=xP n
   simp only[bN] at h
   obtain⟨hw,hel,hfl,he,hf⟩:=h
   have h297:=J1 w hw
   refine am.intro U6.2 (by simp[U6]) ?_
   simp(disch:=try exact dI) only[U6,WB,push_cast,seval]
   refine aG ([]) (fun i:Nat=>[(16,.pv (.int .i64 (i:Int))),(3,.olist 2 7 ((e.take i).map Typ.pv))]) (fun _=>[]) (fun i=>i<=e.length) (fun i=>e.length - i) (0) ?_;intro e0 σ0 n0 h0;simp(disch:=try exact dI) only[push_cast,seval] at h0;obtain⟨rfl,rfl,rfl⟩:=h0;refine⟨?_,?_,?_⟩
   ·exact qsZ
   ·omega
   intro i hi
   by_cases hlt:i<e.length
   ·have hltI:(i:Int)<(e.length:Int):=by omega
    obtain⟨x,hx⟩:∃ x,e[i]? = some x:=⟨_,WE hlt⟩
    have hc:=ih x (he x (WK hx))
    have hts:=aK hx
    have hlt2:(e.take i).length=i:=by rw[Xd];omega
    obtain⟨k',m',M',s',w',e',f'⟩:=x
    simp only[WB] at hc
    simp(disch:=try exact dI) only[hx,WZ,WB,ap,push_cast,seval]
    refine ae.pure hc rfl ?_
    simp(disch:=try exact dI) only[hlt2,push_cast,seval]
    exact⟨i+1,bl (by simp(disch:=try exact dI) only[hts,XG,WB,push_cast,seval]),by omega,by omega⟩
   obtain rfl:i=e.length:=by omega
   clear hi hlt
   simp(disch:=try exact dI) only[WV,XT,push_cast,seval]
   refine aG ([]) (fun i:Nat=>[(33,.pv (.int .i64 (i:Int))),(6,.olist 3 11 ((f.take i).map TFd.pv))]) (fun _=>[]) (fun i=>i<=f.length) (fun i=>f.length - i) (0) ?_;intro e0 σ0 n0 h0;simp(disch:=try exact dI) only[push_cast,seval] at h0;obtain⟨rfl,rfl,rfl⟩:=h0;refine⟨?_,?_,?_⟩
   ·exact qsZ
   ·omega
   intro i hi
   by_cases hlt:i<f.length
   ·have hltI:(i:Int)<(f.length:Int):=by omega
    obtain⟨x,hx⟩:∃ x,f[i]? = some x:=⟨_,WE hlt⟩
    obtain⟨hdl,hdv,hds⟩:=hf x (WK hx)
    have hts:=aK hx
    have hlt2:(f.take i).length=i:=by rw[Xd];omega
    obtain⟨n',nm',nd',⟨k',m',M',s',w',e',f'⟩,d'⟩:=x
    have hc:=xQ n' nm' nd' k' m' M' s' w' e' f' d' (ih _ hds) hdl hdv
    simp only[Wt,WB,ap] at hc
    simp(disch:=try exact dI) only[hx,WZ,Wt,WB,ap,push_cast,seval]
    refine ae.pure hc rfl ?_
    simp(disch:=try exact dI) only[hlt2,push_cast,seval]
    exact⟨i+1,bl (by simp(disch:=try exact dI) only[hts,XG,Wt,WB,ap,push_cast,seval]),by omega,by omega⟩
   obtain rfl:i=f.length:=by omega
   clear hi hlt
   simp(disch:=try exact dI) only[WV,XT,push_cast,seval]
   refine ae.pure h297 rfl ?_
   exact qsZ
theorem R8 (x:TFd)(name:List UInt8):am Tryz.prog aC 258 [x.pv,.eptr [.str name] 0 0] (.bool (named name x)):=by
 obtain⟨a,b,c,⟨k,m,n,s,w,e,fs⟩,d⟩:=x
 refine am.intro Vb.2 (by simp[Vb]) ?_
 simp(disch:=try exact dI) only[Vb,Wt,WB,named,TFd.name,push_cast,seval]
 exact decide_eq_decide.2 Iff.rfl
theorem qN {n:Nat}{k m M s:Int}{w:List (List UInt8)}{e:List Typ}{f:List TFd}(h:bN (n+1) (.mk k m M s w e f)){x:TFd}(hx:x∈f):am Tryz.prog aC 273 [x.pv] x.pv:=by
 simp only[bN] at h
 obtain⟨h1,h2,h3⟩:=h.2.2.2.2 x hx
 obtain⟨n',nm',nd',⟨k',m',M',s',w',e',f'⟩,d'⟩:=x
 exact xQ _ _ _ _ _ _ _ _ _ _ _ (xP n _ h3) h1 h2
def dw (t:Typ)(name:List UInt8):Option TFd:=if t.kind=9\/t.kind=10 then t.fields.find? (named name) else none
theorem OD (n:Nat)(t:Typ)(name:List UInt8)(h:bN n t):am Tryz.prog aC 257 [t.pv,.clo 258 [] [.eptr [.str name] 0 0]] (tfR (dw t name)):=by
 cases n with
 | zero=>exact h.elim
 | succ n=>
 obtain⟨k,m,M,s,w,e,f⟩:=t
 have hcl:=fun x hx=>qN h (x:=x) hx
 have hfl:f.length<=9000000000000:=by simp only[bN] at h;have:=h.2.2.1;omega
 clear h
 have h147:=Em f 258 [.eptr [.str name] 0 0] (named name) (fun x _=>R8 x name) (by omega)
 refine am.intro S0.2 (by simp[S0]) ?_
 by_cases hk:k=9\/k=10
 ·rw[show dw (.mk k m M s w e f) name=f.find? (named name) from if_pos hk]
  rcases fE (p:=named name) f 0 with ⟨h1,h2⟩ | ⟨i,x,h1,h2,h3⟩
  ·rw[h1]
   rw[h2] at h147
   rcases hk with rfl | rfl
   all_goals
    simp(disch:=try exact dI) only[S0,WB,push_cast,seval]
    refine ae.pure h147 rfl ?_
    simp(disch:=try exact dI) only[tfR,Option.getD_none,Option.isSome_none,nK,Wt,WB,ap,push_cast,seval]
  ·rw[h2]
   rw[h3,Nat.zero_add] at h147
   have hc:=hcl x (WK h1)
   obtain⟨x1,x2,x3,⟨y1,y2,y3,y4,y5,y6,y7⟩,x5⟩:=x
   simp only[Wt,WB,ap] at hc
   have hi:¬ (i:Int)<0:=by omega
   rcases hk with rfl | rfl
   all_goals
    simp(disch:=try exact dI) only[S0,WB,push_cast,seval]
    refine ae.pure h147 rfl ?_
    simp(disch:=try exact dI) only[h1,WZ,Wt,WB,ap,push_cast,seval]
    refine ae.pure hc rfl ?_
    simp(disch:=try exact dI) only[tfR,XK,Option.isSome_some,Wt,WB,ap,push_cast,seval]
 ·rw[show dw (.mk k m M s w e f) name=none from if_neg hk]
  have h9:¬ k=9:=by omega
  have h10:¬ k=10:=by omega
  simp(disch:=try exact dI) only[S0,WB,tfR,Option.getD_none,Option.isSome_none,nK,Wt,ap,push_cast,seval]
theorem xG (n:Nat)(t:Typ)(name:List UInt8)(h:bN n t):am Tryz.prog aC 230 [t.pv,.str name] (tfR (dw t name)):=by
 have hf:=OD n t name h
 generalize dw t name=o at hf ⊢
 obtain⟨k,m,M,s,w,e,f⟩:=t
 simp only[WB] at hf
 refine am.intro Ts.2 (by simp[Ts]) ?_
 cases o with
 | none=>
   simp only[tfR,Option.getD_none,Option.isSome_none,nK,Wt,WB,ap] at hf ⊢
   simp(disch:=try exact dI) only[Ts,WB,push_cast,seval]
   refine ae.pure hf rfl ?_
   exact qsZ
 | some x=>
   obtain⟨x1,x2,x3,⟨y1,y2,y3,y4,y5,y6,y7⟩,x5⟩:=x
   simp only[tfR,XK,Option.isSome_some,Wt,WB,ap] at hf ⊢
   simp(disch:=try exact dI) only[Ts,WB,push_cast,seval]
   refine ae.pure hf rfl ?_
   exact qsZ
theorem Jd (l:List Val)(g:Nat)(cs:List PV)(q:Val->Bool)(hq:∀ x∈l,am Tryz.prog aC g (x.pv::cs) (.bool (q x)))(hl:l.length<=9000000000000) :
  am Tryz.prog aC 256 [.list (l.map Val.pv),.clo g [] cs] (.int .i64 (j6 q l 0)):=by
 refine am.intro Vc.2 (by simp[Vc]) ?_
 simp(disch:=try exact dI) only[Vc,push_cast,seval]
 refine aG ([]) (fun m:Nat=>[(8,.pv (.int .i64 (m:Int)))]) (fun m=>[]) (fun m=>m<=l.length/\j6 q l 0=j6 q (l.drop m) m) (fun m=>l.length - m) (0) ?_;intro e0 σ0 n0 h0;simp(disch:=try exact dI) only[push_cast,seval] at h0;obtain⟨rfl,rfl,rfl⟩:=h0;refine⟨?_,?_,?_⟩
 ·exact qsZ
 ·exact⟨by omega,by simp⟩
 ·rintro m ⟨hm,he⟩
  by_cases hlt:m<l.length
  ·have hltI:(m:Int)<l.length:=by omega
   obtain⟨x,hx⟩:∃ x,l[m]? = some x:=⟨_,WE hlt⟩
   have hcall:=hq x (WK hx)
   have hcl:x.pv.cells.length=6:=by cases x;rw[WD];rfl
   have hag:x.pv.isAgg=true:=by cases x;rw[WD];rfl
   simp(disch:=try exact dI) only[hx,hcl,hag,push_cast,seval]
   refine ae.pure hcall (by exact rj (x.pv::cs)) ?_
   cases hqx:q x with
   | true=>
     rw[he,mR hx hqx]
     exact qsZ
   | false=>
     rw[jn hx hqx] at he
     refine zgZ ?_
     exact⟨m+1,bl qsZ,⟨by omega,he⟩,by omega⟩
  ·have hltI:¬ (m:Int)<l.length:=by omega
   rw[he,mS hlt]
   exact qsZ
theorem uZ (l:List Val)(g:Nat)(cs:List PV)(q:Val->Bool)(hq:∀ x∈l,am Tryz.prog aC g (x.pv::cs) (.bool (q x)))(hl:l.length<=9000000000000) :
  am Tryz.prog aC 228 [.list (l.map Val.pv),.clo g [] cs] (.bool (l.any q)):=by
 have h94:=Jd l g cs q hq hl
 have hfa:=lp (p:=q) l
 refine am.intro Tt.2 (by simp[Tt]) ?_
 rcases fE (p:=q) l 0 with ⟨h1,h2⟩ | ⟨k,x,h1,h2,h3⟩
 ·rw[h2] at h94
  rw[h1] at hfa
  rw[<- hfa]
  simp(disch:=try exact dI) only[Tt,push_cast,seval]
  refine ae.pure h94 rfl ?_
  refine zgZ ?_
  exact .refl _
 ·rw[h3] at h94
  rw[h2] at hfa
  rw[<- hfa]
  have hk:(0:Int)<=((0+k:Nat):Int):=by omega
  generalize ((0+k:Nat):Int)=z at *
  simp(disch:=try exact dI) only[Tt,push_cast,seval]
  refine ae.pure h94 rfl ?_
  refine zgZ ?_
  exact .refl _
def Ah (v:Val):TFd->Bool
 | .mk _ nm nd _ _=>(v.fields.find? (kz nm)).isNone&&!decide (nd=2)
theorem R9 (v:Val)(g:TFd)(hv:v.ok)(hk:v.kind=9)(h:v.fields.length<=9000000000000):am Tryz.prog aC 231 [g.pv,.eptr [v.pv] 0 0] (.bool (Ah v g)):=by
 obtain⟨n',nm',nd',⟨k',m',M',s',w',e',f'⟩,d'⟩:=g
 have h52:=JJ v nm' hv hk h
 simp only[Ah]
 generalize v.fields.find? (kz nm')=o at h52 ⊢
 obtain⟨vk,vn,vs,vt,vl,vf⟩:=v
 simp only[WD] at h52
 refine am.intro S1.2 (by simp[S1]) ?_
 cases o with
 | none=>
   simp only[vlR,Option.map_none,Option.getD_none,Option.isSome_none,Option.isNone_none,Mh,WD] at h52 ⊢
   by_cases hnd:nd'=2
   ·simp(disch:=try exact dI) only[S1,WD,Wt,WB,ap,push_cast,seval]
    refine ae.pure h52 rfl ?_
    simp(disch:=try exact dI) only[hnd,push_cast,seval]
   ·simp(disch:=try exact dI) only[S1,WD,Wt,WB,ap,push_cast,seval]
    refine ae.pure h52 rfl ?_
    simp(disch:=try exact dI) only[hnd,push_cast,seval]
 | some x=>
   obtain⟨xn,⟨xk,xi,xs,xt,xl,xf⟩⟩:=x
   simp only[vlR,WZ,XK,Option.isSome_some,Option.isNone_some,Fld.value,WD] at h52 ⊢
   simp(disch:=try exact dI) only[S1,WD,Wt,WB,ap,push_cast,seval]
   refine ae.pure h52 rfl ?_
   exact qsZ
