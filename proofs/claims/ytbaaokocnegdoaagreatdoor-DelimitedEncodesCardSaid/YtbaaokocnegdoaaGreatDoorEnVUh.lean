/- A part. -/
import Derived.Test.YtbaaokocnegdoaaGreatDoorEnVUd
set_option linter.unusedVariables false
set_option linter.unusedSimpArgs false
set_option maxHeartbeats 16000000
set_option maxRecDepth 100000
open List renaming map_cons->VG,mem_cons_self->VN,mem_cons_of_mem->Wn,length_take->Vs,length_map->Vv,mem_map->Vy,mem_of_mem_take->VU,take->Wt
open Option renaming map_some->Vl
namespace Go.Proofs.YtbaaokocnegdoaaGreatDoor
open Go Go.Ab
attribute [local irreducible] vc
theorem jG {k:Int}{b:List TFd}{n:Int}{nm:List UInt8}{nd:Int}{t:Typ}{d:List Val}(h:dh k b (.mk n nm nd t d)=0):gC k nd d=0:=by
 rw[iS] at h
 repeat' split at h
 all_goals first | exact absurd h (by decide) | exact h
theorem k8 {k nd:Int}{d:List Val}(h:gC k nd d=0):(k=10->nd=1)/\((nd=3/\d.length=1)\/(¬ nd=3/\d.length=0)):=by
 unfold gC at h
 by_cases h1:inB nd 1 3=false
 ·rw[if_pos h1] at h;exact absurd h (by decide)
 rw[if_neg h1] at h
 by_cases h2:k=10/\¬ nd=1
 ·rw[if_pos h2] at h;exact absurd h (by decide)
 rw[if_neg h2] at h
 by_cases h3:nd=3/\d.length=0
 ·rw[if_pos h3] at h;exact absurd h (by decide)
 rw[if_neg h3] at h
 by_cases h4:1<d.length
 ·rw[if_pos h4] at h;exact absurd h (by decide)
 rw[if_neg h4] at h
 by_cases h5:¬ nd=3/\0<d.length
 ·rw[if_pos h5] at h;exact absurd h (by decide)
 refine⟨fun hk=>Decidable.byContradiction fun hh=>h2 ⟨hk,hh⟩,?_⟩
 by_cases hn:nd=3
 ·exact .inl ⟨hn,by have:¬ d.length=0:=fun hh=>h3 ⟨hn,hh⟩;omega⟩
 ·exact .inr ⟨hn,by have:¬ 0<d.length:=fun hh=>h5 ⟨hn,hh⟩;omega⟩
theorem oc {n:Nat}{rec:Int->Typ->Int×Int}:∀ (f:List TFd) (l:Int),(∀ g∈f,nq n g=false)->eX rec l (f.map TFd.typ)=dK n rec l f
 | [],_,_=>rfl
 | x::r,l,h=>by
   rw[VG,eX,dK,h x (VN ..),if_neg (show ¬ false=true by decide)]
   split
   ·exact oc r _ fun g hg=>h g (Wn _ hg)
   ·rfl
theorem DM (rec:Int->Typ->Int×Int)(l:Int)(t:Typ):eX rec l [t]=rec l t:=by
 rw[eX]
 split
 ·rename_i h;rw[eX];exact Prod.ext h.symm rfl
 ·rfl
theorem E3 {n:Nat}{k m M s:Int}{w:List (List UInt8)}{e:List Typ}{f:List TFd}(h:fv (.mk k m M s w e f)=0)(h8:¬ k=8)(l:Int):dL (n+1) l (.mk k m M s w e f)=dK n (dL n) (l - 1) f:=by
 rw[dL,if_pos h]
 by_cases h9:k=9
 ·rw[if_pos h9]
 rw[if_neg h9]
 by_cases h10:k=10
 ·subst h10
  rw[show bi (.mk 10 m M s w e f)=f.map TFd.typ from rfl]
  refine oc f _ fun g hg=>?_
  obtain⟨b,hb⟩:=bI f [] (bE h).2.2.2 g hg
  obtain⟨n',nm',nd',t',d'⟩:=g
  obtain rfl:=(k8 (jG hb)).1 rfl
  rfl
 ·obtain rfl:=(iF h).2 (by omega)
  rw[show bi (.mk k m M s w e [])=[] by simp only[bi];rw[if_neg h8,if_neg (by omega)]]
  rfl
def N6 (n:Nat):Prop:=∀ (t:Typ) (d l:Int),bt n t->aP n t->0<=d->d+n<=9->kM n<=l->l<=4096 ->
 bk Tryz.prog aq 1 98 [.pv t.pv,.pv (.int .i64 d),.ptr 0 0] [.cells 3 true [.pv (.int .i64 l)]] (.pv (.int .i64 (dL n l t).1)) [.cells 3 true [.pv (.int .i64 (dL n l t).2)]]
theorem pP {n:Nat}{k m M s:Int}{w:List (List UInt8)}{e:List Typ}{f:List TFd}(h:bt (n+1) (.mk k m M s w e f)):ae Tryz.prog aq 148 [(Typ.mk k m M s w e f).pv] (.int .i64 (fv (.mk k m M s w e f))):=by
 simp only[bt] at h
 exact PP m M s w e f k (fun x hx=>by have:=h.2.1 x hx;omega)
theorem Bb (n:Nat)(ih:N6 n)(m M s:Int)(w:List (List UInt8))(e:List Typ)(f:List TFd)(d l:Int)(ht:bt (n+1) (.mk 8 m M s w e f))(hn:aP (n+1) (.mk 8 m M s w e f))(hd:0<=d)(hdn:d+(n+1:Nat)<=9)(hl:kM (n+1)<=l)(hl2:l<=4096) :
  bk Tryz.prog aq 1 98 [.pv (Typ.mk 8 m M s w e f).pv,.pv (.int .i64 d),.ptr 0 0] [.cells 3 true [.pv (.int .i64 l)]] (.pv (.int .i64 (dL (n+1) l (.mk 8 m M s w e f)).1)) [.cells 3 true [.pv (.int .i64 (dL (n+1) l (.mk 8 m M s w e f)).2)]]:=by
 have h148:=pP ht
 have hpt:=(oA ht).2.2
 have hc0:=gw n
 simp only[aP] at hn
 rw[kM] at hl
 have hl0:¬ l=0:=by omega
 have hd8:¬ 8<d:=by omega
 by_cases hz:fv (.mk 8 m M s w e f)=0
 ·obtain⟨x,rfl⟩:=kA hz
  have hxt:=hpt x (by rw[show bi (.mk 8 m M s w [x] f)=[x] from rfl];exact VN ..)
  have hcall:=ih x (d+1) (l - 1) hxt (hn.2.2.1 x (VN ..)) (by omega) (by omega) (by omega) (by omega)
  rw[dL,if_pos hz,if_neg (by decide),show bi (.mk 8 m M s w [x] f)=[x] from rfl,DM]
  rw[hz] at h148
  obtain⟨⟨e1,e2⟩,he⟩:∃ q,q=dL n (l - 1) x:=⟨_,rfl⟩
  rw[<- he] at hcall ⊢
  clear he hz hxt hpt
  obtain⟨k',m',M',s',w',e',f'⟩:=x
  simp only[Vd,VG,List.map_nil] at h148 hcall
  simp only at hcall ⊢
  refine bk.intro Q98.2 (by simp[Q98]) ?_
  simp(disch:=try exact dI) only[Q98,Vd,hl0,hd8,push_cast,seval]
  refine ab.pure h148 rfl ?_
  simp(disch:=try exact dI) only[Vd,az,ag,push_cast,seval]
  refine ab.lentK hcall [0] rfl qsZ qsZ ?_
  refine zgZ ?_
  exact aC [] qsZ
 ·rw[dL,if_neg hz]
  generalize fv (.mk 8 m M s w e f)=z at *
  simp only[Vd] at h148 ⊢
  refine bk.intro Q98.2 (by simp[Q98]) ?_
  simp(disch:=try exact dI) only[Q98,hl0,hd8,push_cast,seval]
  refine ab.pure h148 rfl ?_
  simp(disch:=try exact dI) only[hz,push_cast,seval]
  exact aC [] qsZ
theorem Ba (n:Nat)(ih:N6 n)(k m M s:Int)(w:List (List UInt8))(e:List Typ)(f:List TFd)(d l:Int)(ht:bt (n+1) (.mk k m M s w e f))(hn:aP (n+1) (.mk k m M s w e f))(hd:0<=d)(hdn:d+(n+1:Nat)<=9)(hl:kM (n+1)<=l)(hl2:l<=4096)(hk:¬ k=8) :
  bk Tryz.prog aq 1 98 [.pv (Typ.mk k m M s w e f).pv,.pv (.int .i64 d),.ptr 0 0] [.cells 3 true [.pv (.int .i64 l)]] (.pv (.int .i64 (dL (n+1) l (.mk k m M s w e f)).1)) [.cells 3 true [.pv (.int .i64 (dL (n+1) l (.mk k m M s w e f)).2)]]:=by
 have h148:=pP ht
 have hc0:=gw n
 simp only[bt] at ht
 simp only[aP] at hn
 have hrem:=lD hc0 hn.2.1
 rw[kM] at hl
 have hl0:¬ l=0:=by omega
 have hd8:¬ 8<d:=by omega
 by_cases hz:fv (.mk k m M s w e f)=0
 ·have hfl:=(bE hz).2.2.2
  rw[E3 hz hk]
  rw[hz] at h148
  clear hz
  obtain⟨R,hR⟩:∃ R,R=dK n (dL n) (l - 1) f:=⟨_,rfl⟩
  rw[<- hR]
  simp only[Vd] at h148 ⊢
  refine bk.intro Q98.2 (by simp[Q98]) ?_
  simp(disch:=try exact dI) only[Q98,hl0,hd8,push_cast,seval]
  refine ab.pure h148 rfl ?_
  simp(disch:=try exact dI) only[hk,push_cast,seval]
  refine ap ([]) (fun x:Nat×Int=>[(8,.pv (.int .i64 (x.1:Int)))]) (fun x=>[(0,.cells 3 true [.pv (.int .i64 x.2)])]) (fun x=>x.1<=f.length/\R=dK n (dL n) x.2 (f.drop x.1)/\na (kM n) (f.drop x.1)<=x.2/\x.2<=4096) (fun x=>f.length - x.1) ((0,l - 1)) ?_;intro e0 σ0 n0 h0;simp(disch:=try exact dI) only[push_cast,seval] at h0;obtain⟨rfl,rfl,rfl⟩:=h0;refine⟨?_,?_,?_⟩
  ·exact qsZ
  ·exact⟨by simp,by simpa using hR,by simpa using (show na (kM n) f<=l - 1 by omega),by simp only;omega⟩
  rintro⟨i,L⟩ ⟨hi,hr,hL,hL2⟩
  simp only at hi hr hL hL2
  by_cases hlt:i<f.length
  ·have hltI:(i:Int)<(f.length:Int):=by omega
   obtain⟨g,hg⟩:∃ g,f[i]? = some g:=⟨_,List.getElem?_eq_getElem hlt⟩
   have hgm:=List.mem_of_getElem? hg
   obtain⟨hr1,hr2⟩:=lC hc0 hg
   have hgt:=(ht.2.2.2.2.2 g hgm).2.2
   have hgn:=hn.2.2.2 g hgm
   have hcall:=ih g.typ (d+1) L hgt hgn (by omega) (by omega) (by omega) hL2
   have hleft:=fT n g.typ hgn L (by omega)
   have hty:=fS n L g.typ hgn
   obtain⟨bb,hfe⟩:=bI f [] hfl g hgm
   have hgd:=(ht.2.2.2.2.2 g hgm).2.1
   rw[oa hg] at hr
   obtain⟨⟨e1,e2⟩,he⟩:∃ q,q=dL n L g.typ:=⟨_,rfl⟩
   rw[<- he] at hcall hleft hr hty
   clear he
   obtain⟨n',nm',nd',t',d'⟩:=g
   simp only[TFd.typ,TFd.dflt] at hcall hleft hr hty hgt hgn hgd
   have hnd:=(k8 (jG hfe)).2
   by_cases he0:e1=0
   ·subst he0
    rw[if_pos rfl] at hr
    rcases hnd with ⟨rfl,hd1⟩ | ⟨h3,hd0⟩
    ·obtain⟨x,r,rfl⟩:=gq hfe
     obtain⟨hx1,hx2,hx3⟩:=hgd x (VN ..)
     have hd0I:(0:Int)<((x::r).length:Int):=by omega
     have hacc:=AG n t' x hx2 hx1.1 (fun hc=>mp n 9 t' x (hty rfl) hgt (uI hx2 hc) hx1)
     simp only[nq,pg,decide_true,Bool.true_and] at hr
     generalize accB n t' x=q at hacc hr
     obtain⟨k',m',M',s',w',e',f'⟩:=t'
     obtain⟨vk,vn,vs,vt,vl,vf⟩:=x
     simp only[Vd,Vf] at hcall hacc
     simp(disch:=try exact dI) only[hg,Vl,U7,Vd,ag,push_cast,seval]
     refine ab.lentK hcall [0] rfl qsZ qsZ ?_
     simp(disch:=try exact dI) only[Vf,ag,az,hd0I,push_cast,seval]
     refine ab.pure hacc rfl ?_
     cases q with
     | true=>
       rw[if_neg (by decide)] at hr
       refine zgZ ?_
       exact⟨(i+1,e2),aI qsZ,⟨by simp only;omega,hr,by simp only;omega,by simp only;omega⟩,by simp only;omega⟩
     | false=>
       rw[if_pos (by decide)] at hr
       subst hr
       refine zgZ ?_
       exact aC [] qsZ
    ·rw[if_neg (by simp[nq,h3])] at hr
     obtain rfl:=List.length_eq_zero_iff.1 hd0
     obtain⟨k',m',M',s',w',e',f'⟩:=t'
     simp only[Vd] at hcall
     simp(disch:=try exact dI) only[hg,Vl,U7,Vd,ag,push_cast,seval]
     refine ab.lentK hcall [0] rfl qsZ qsZ ?_
     refine zgZ ?_
     exact⟨(i+1,e2),aI qsZ,⟨by simp only;omega,hr,by simp only;omega,by simp only;omega⟩,by simp only;omega⟩
   ·rw[if_neg he0] at hr
    subst hr
    obtain⟨k',m',M',s',w',e',f'⟩:=t'
    simp only[Vd] at hcall
    simp(disch:=try exact dI) only[hg,Vl,U7,Vd,ag,push_cast,seval]
    refine ab.lentK hcall [0] rfl qsZ qsZ ?_
    simp(disch:=try exact dI) only[he0,push_cast,seval]
    exact aC [] qsZ
  ·obtain rfl:i=f.length:=by omega
   rw[List.drop_length,dK] at hr
   subst hr
   simp(disch:=try exact dI) only[Int.lt_irrefl,push_cast,seval]
   exact aC [] qsZ
 ·rw[dL,if_neg hz]
  generalize fv (.mk k m M s w e f)=z at *
  simp only[Vd] at h148 ⊢
  refine bk.intro Q98.2 (by simp[Q98]) ?_
  simp(disch:=try exact dI) only[Q98,hl0,hd8,push_cast,seval]
  refine ab.pure h148 rfl ?_
  simp(disch:=try exact dI) only[hz,push_cast,seval]
  exact aC [] qsZ
theorem Bc:∀ n,N6 n
 | 0=>fun _ _ _ h=>h.elim
 | n+1=>fun t d l ht hn hd hdn hl hl2=>by
   have ih:=Bc n
   obtain⟨k,m,M,s,w,e,f⟩:=t
   by_cases hk:k=8
   ·subst hk;exact Bb n ih m M s w e f d l ht hn hd hdn hl hl2
   ·exact Ba n ih k m M s w e f d l ht hn hd hdn hl hl2 hk
def F4 (a b:Int):Prop:=0<=a/\a<=b/\(a=b\/4097<=a)
theorem Cd {p q:TFd->Int}:∀ (f:List TFd),(∀ g∈f,F4 (p g) (q g))->F4 (f.map p).sum (f.map q).sum
 | [],_=>by simp[F4]
 | g::r,h=>by
   have h1:=h g (VN ..)
   have h2:=Cd r fun x hx=>h x (Wn _ hx)
   simp only[VG,List.sum_cons,F4] at *
   omega
theorem L5 {m a b:Int}(hm:0<m)(h:F4 a b):F4 (m*a) (m*b):=by
 obtain⟨h1,h2,h3⟩:=h
 refine⟨Int.mul_nonneg (by omega) h1,Int.mul_le_mul_of_nonneg_left h2 (by omega),?_⟩
 rcases h3 with rfl | h3
 ·exact .inl rfl
 ·have:1*a<=m*a:=Int.mul_le_mul_of_nonneg_right (by omega) h1
  exact .inr (by omega)
theorem kz {a:Int}(h:0<=a):F4 a a:=⟨h,by omega,.inl rfl⟩
theorem qr:∀ (n:Nat) (t:Typ),dM n t->F4 (ci n t) (cj n t)/\ci n t=min (cj n t) 4097
 | 0,_,h=>h.elim
 | n+1,.mk k m M s w e f,h=>by
   have ih:=qr n
   simp only[dM] at h
   obtain⟨h8,h10,h9,hf⟩:=h
   have key:F4 (cm (ci n) k m e f) (cm (cj n) k m e f):=by
    unfold cm
    by_cases e8:k=8
    ·rw[if_pos e8,if_pos e8]
     by_cases hm:0<m
     ·rw[if_pos hm,if_pos hm]
      obtain⟨_,x,r,rfl,hx⟩:=h8 e8 hm
      exact L5 hm (ih x hx).1
     ·rw[if_neg hm,if_neg hm];exact kz (by omega)
    rw[if_neg e8,if_neg e8]
    by_cases e10:k=10
    ·rw[if_pos e10,if_pos e10]
     obtain⟨g,r,rfl,_,hx⟩:=h10 e10
     obtain⟨a,b,c,t,d⟩:=g
     exact (ih t hx).1
    rw[if_neg e10,if_neg e10]
    by_cases e9:k=9
    ·rw[if_pos e9,if_pos e9]
     refine Cd f fun g hg=>?_
     have hr:=(h9 e9).2 g hg
     obtain⟨a,b,nd,t,d⟩:=g
     simp only[ic,lE] at hr ⊢
     by_cases n1:nd=1
     ·rw[if_pos n1,if_pos n1];exact (ih t (hr.1 n1)).1
     ·rw[if_neg n1,if_neg n1]
      by_cases n3:nd=3
      ·obtain⟨x,r,rfl,hx⟩:=hr.2 n3
       rw[if_pos n3];simp only[Ol];exact kz (by omega)
      ·rw[if_neg n3];exact kz (by omega)
    ·rw[if_neg e9,if_neg e9];exact kz (by omega)
   simp only[ci,cj,F4] at key ⊢
   omega
theorem fP {α:Type}{p:α->Int}:∀ (l:List α) (a:Int),(4096<l.foldl (fun a x=>max a (p x)) a↔(4096<a\/∃ x∈l,4096<p x))
 | [],a=>by simp
 | x::r,a=>by
   rw[List.foldl_cons,fP r,show (4096<max a (p x)↔(4096<a\/4096<p x)) by omega]
   simp[or_assoc]
theorem mq:∀ (n:Nat) (t:Typ),NV n t->(4096<cB n t↔4096<dg n t)
 | 0,_,h=>h.elim
 | n+1,.mk k m M s w e f,h=>by
   simp only[NV] at h
   obtain⟨hs,_,_,he,hf⟩:=h
   have h9:=(qr 9 _ hs).2
   simp only[cB,dg]
   rw[fP (p:=fun g:TFd=>cB n g.typ) f,fP (p:=fun g:TFd=>dg n g.typ) f,fP e,fP e,h9]
   exact or_congr (or_congr (by omega) (exists_congr fun x=>and_congr_right fun hx=>mq n x (he x hx))) (exists_congr fun g=>and_congr_right fun hg=>mq n g.typ (hf g hg))
theorem ip:∀ (n N:Nat) (t:Typ),n<=N->tyV n t->bt n t->dM N t
 | 0,_,_,_,h,_=>h.elim
 | _+1,0,_,h,_,_=>absurd h (by omega)
 | n+1,N+1,.mk k m M s w e f,hN,h,ht=>by
   obtain⟨ho,h8,h9⟩:=h
   simp only[bt] at ht
   obtain⟨t1,t2,t3,t4,t5,t6⟩:=ht
   refine⟨fun hk hm=>?_,fun hk=>?_,fun hk=>⟨Kb ho,fun g hg=>?_⟩,fun hk=>(iF ho).2 hk⟩
   ·subst hk
    obtain⟨x,rfl⟩:=kA ho
    exact⟨C1 ho,x,[],rfl,ip n N x (by omega) (h8 rfl x (VN ..)) (t5 x (VN ..))⟩
   ·subst hk
    obtain⟨g,r,rfl⟩:=CZ ho
    obtain⟨b,hb⟩:=bI _ [] (bE ho).2.2.2 g (VN ..)
    refine⟨g,r,rfl,?_,ip n N g.typ (by omega) (h9 (.inr rfl) g (VN ..)) (t6 g (VN ..)).2.2⟩
    obtain⟨n',nm',nd',t',d'⟩:=g
    exact (k8 (jG hb)).1 rfl
   ·subst hk
    have hs:=ip n N g.typ (by omega) (h9 (.inl rfl) g hg) (t6 g hg).2.2
    obtain⟨b,hb⟩:=bI f [] (bE ho).2.2.2 g hg
    have hd:=(t6 g hg).2.1
    obtain⟨n',nm',nd',t',d'⟩:=g
    refine⟨fun _=>hs,fun h3=>?_⟩
    subst h3
    obtain⟨x,r,rfl⟩:=gq hb
    obtain⟨x1,x2,x3⟩:=hd x (VN ..)
    exact⟨x,r,rfl,x2,x1.1,x3⟩
theorem uq:∀ (n:Nat) (t:Typ),n<=9->tyV n t->bt n t->NV n t
 | 0,_,_,h,_=>h.elim
 | n+1,.mk k m M s w e f,hN,h,ht=>by
   have hs:=ip (n+1) 9 _ hN h ht
   obtain⟨ho,h8,h9⟩:=h
   obtain⟨he,hf⟩:=iF ho
   simp only[bt] at ht
   obtain⟨t1,t2,t3,t4,t5,t6⟩:=ht
   refine⟨hs,by omega,by omega,fun x hx=>?_,fun g hg=>?_⟩
   ·by_cases hk:k=8
    ·exact uq n x (by omega) (h8 hk x hx) (t5 x hx)
    ·rw[he hk] at hx;cases hx
   ·by_cases hk:k=9\/k=10
    ·exact uq n g.typ (by omega) (h9 hk g hg) (t6 g hg).2.2
    ·rw[hf hk] at hg;cases hg
theorem NG (n:Nat)(t:Typ)(hn:n<=5)(ht:bt n t)(hw:aP n t):ae Tryz.prog aq 51 [t.pv] (.int .i64 (FV n t)):=by
 have hcnt:kM n<=4096:=by
  have hc:n=0\/n=1\/n=2\/n=3\/n=4\/n=5:=by omega
  rcases hc with rfl | rfl | rfl | rfl | rfl | rfl<;>decide
 have h94:=Bc n t 1 4096 ht hw (by omega) (by omega) hcnt (by omega)
 have h95:(dL n 4096 t).1=0->ae Tryz.prog aq 99 [t.pv] (.int .i64 (dg n t))/\(4096<cB n t↔4096<dg n t):=fun h=>by
  have ha:=uq n t (by omega) (fS n 4096 t hw h) ht
  exact⟨nY n t ha,mq n t ha⟩
 simp only[FV]
 obtain⟨⟨z,L⟩,hq⟩:∃ q,q=dL n 4096 t:=⟨_,rfl⟩
 rw[<- hq] at h94 h95 ⊢
 simp only at h94 h95 ⊢
 clear hq
 generalize cB n t=G at h95 ⊢
 generalize dg n t=H at h95
 obtain⟨k,m,M,s,w,e,f⟩:=t
 simp only[Vd] at h94 h95
 refine ae.intro Q51.2 (by simp[Q51]) ?_
 by_cases hz:z=0
 ·subst hz
  obtain⟨h95,hGH⟩:=h95 rfl
  rw[if_pos rfl]
  by_cases hg:4096<H
  ·rw[if_pos (hGH.2 hg)]
   simp(disch:=try exact dI) only[Q51,Vd,push_cast,seval]
   refine ab.lentK h94 [1] rfl qsZ qsZ ?_
   refine zgZ ?_
   refine ab.pure h95 rfl ?_
   simp(disch:=try exact dI) only[hg,push_cast,seval]
  ·rw[if_neg (fun h=>hg (hGH.1 h))]
   simp(disch:=try exact dI) only[Q51,Vd,push_cast,seval]
   refine ab.lentK h94 [1] rfl qsZ qsZ ?_
   refine zgZ ?_
   refine ab.pure h95 rfl ?_
   simp(disch:=try exact dI) only[hg,push_cast,seval]
 ·rw[if_neg hz]
  simp(disch:=try exact dI) only[Q51,Vd,push_cast,seval]
  refine ab.lentK h94 [1] rfl qsZ qsZ ?_
  simp(disch:=try exact dI) only[hz,push_cast,seval]
theorem Lq {rec:Val->Val}{on:Bool}(hr:∀ v:Val,v.ok->(rec v).ok):∀ v:Val,v.ok->(cE rec on v).ok
 | .mk k i s t l f,h=>by
   rw[Ve] at h
   obtain⟨h1,h2,h3,h4,h5,h6,h7,h8⟩:=h
   simp only[cE,Ve]
   have ht:(t.take 40).length<=140737488351232:=by rw[Vs];omega
   cases on with
   | false=>simp only[Bool.false_eq_true,if_false];exact⟨h1,h2,h3,ht,by simp,by simp,by simp,by simp⟩
   | true=>
     simp only[if_true]
     refine⟨h1,h2,h3,ht,by rw[Vv,Vs];omega,fun x hx=>?_,by rw[Vv,Vs];omega,fun x hx=>?_⟩
     ·obtain⟨y,hy,rfl⟩:=Vy.1 hx
      exact hr y (h6 y (VU hy))
     ·obtain⟨y,hy,rfl⟩:=Vy.1 hx
      have:=h8 y (VU hy)
      obtain⟨n,v⟩:=y
      rw[U2] at this
      simp only[fg,U2]
      exact⟨by rw[Vs];omega,hr v this.2⟩
theorem p5:∀ (n:Nat) (v:Val),v.ok->(aJ n v).ok
 | 0=>Lq (fun _ h=>h)
 | n+1=>Lq (p5 n)
theorem eO {rec:Val->Val}{on:Bool}(v:Val):(cE rec on v).lst.length<=6/\(cE rec on v).fields.length<=6/\(∀ x∈(cE rec on v).lst,on=true/\∃ y∈v.lst,x=rec y)/\∀ x∈(cE rec on v).fields,on=true/\∃ y∈v.fields,x.value=rec y.value:=by
 obtain⟨k,i,s,t,l,f⟩:=v
 simp only[cE,Val.lst,Val.fields]
 cases on with
 | false=>simp
 | true=>
   simp only[if_true]
   refine⟨by rw[Vv,Vs];omega,by rw[Vv,Vs];omega,fun x hx=>?_,fun x hx=>?_⟩
   ·obtain⟨y,hy,rfl⟩:=Vy.1 hx
    exact⟨by trivial,y,VU hy,rfl⟩
   ·obtain⟨y,hy,rfl⟩:=Vy.1 hx
    obtain⟨n,v⟩:=y
    exact⟨by trivial,_,VU hy,rfl⟩
theorem qG {v x:Val}(h:x∈aX v):x∈v.lst\/∃ f∈v.fields,x=f.value:=by
 unfold aX at h
 split at h
 ·exact .inl h
 ·split at h
  ·obtain⟨f,hf,rfl⟩:=Vy.1 h
   exact .inr ⟨f,hf,rfl⟩
  ·cases h
theorem qH (v:Val)(h1:v.lst.length<=6)(h2:v.fields.length<=6):(aX v).length<=6:=by
 unfold aX
 split
 ·exact h1
 ·split
  ·rw[Vv];exact h2
  ·simp
theorem jQ {n:Nat}{v x:Val}(h:x∈aX (aJ (n+1) v)):∃ y,x=aJ n y:=by
 obtain⟨_,_,h3,h4⟩:=eO (rec:=aJ n) (on:=decide (0<n)) v
 rcases qG h with h | ⟨f,hf,rfl⟩
 ·obtain⟨_,y,_,e⟩:=h3 x h;exact⟨y,e⟩
 ·obtain⟨_,y,_,e⟩:=h4 f hf;exact⟨y.value,e⟩
theorem io (v:Val):aX (aJ 0 v)=[]:=by
 obtain⟨_,_,h3,h4⟩:=eO (rec:=id) (on:=false) v
 refine List.eq_nil_iff_forall_not_mem.2 fun x h=>?_
 rcases qG h with h | ⟨f,hf,rfl⟩
 ·exact absurd (h3 x h).1 (by decide)
 ·exact absurd (h4 f hf).1 (by decide)
theorem sG:∀ (n:Nat) (v:Val),(aX (aJ n v)).length<=6
 | 0,v=>qH _ (eO (rec:=id) (on:=false) v).1 (eO (rec:=id) (on:=false) v).2.1
 | n+1,v=>qH _ (eO (rec:=aJ n) (on:=decide (0<n)) v).1 (eO (rec:=aJ n) (on:=decide (0<n)) v).2.1
theorem ln:∀ (n:Nat) (v:Val),cL (n+1) (aJ n v)
 | 0,v=>by intro x hx;rw[io] at hx;cases hx
 | n+1,v=>by
   intro x hx
   obtain⟨y,rfl⟩:=jQ hx
   exact ln n y
def OB:Nat->Nat
 | 0=>1
 | n+1=>1+6*OB n
theorem nE {c:Nat}:∀ (l:List Nat),(∀ x∈l,x<=c)->l.sum<=l.length*c
 | [],_=>by simp
 | x::r,h=>by
   have h1:=h x (VN ..)
   have h2:=nE r fun y hy=>h y (Wn _ hy)
   rw[List.sum_cons,List.length_cons,Nat.add_mul,Nat.one_mul]
   omega
theorem pZ:∀ (n m:Nat) (v:Val),szN m (aJ n v)<=OB n
 | _,0,_=>by rw[szN];exact Nat.zero_le _
 | 0,m+1,v=>by rw[szN,io];simp[OB]
 | n+1,m+1,v=>by
   rw[szN,OB]
   have h1:=nE (c:=OB n) ((aX (aJ (n+1) v)).map (szN m)) fun x hx=>by
    obtain⟨y,hy,rfl⟩:=Vy.1 hx
    obtain⟨z,rfl⟩:=jQ hy
    exact pZ n m z
   have h2:=sG (n+1) v
   rw[Vv] at h1
   have h3:=Nat.mul_le_mul_right (OB n) h2
   omega
theorem BG {n:Nat}{rec:Val->Val}{on:Bool}(hr:∀ v:Val,v.ok->(rec v).ok)(ht:on=true->∀ v:Val,v.ok->kZ n (rec v))(v:Val)(hv:v.ok):kZ (n+1) (cE rec on v):=by
 obtain⟨h1,h2,h3,h4⟩:=eO (rec:=rec) (on:=on) v
 refine⟨Lq hr v hv,by omega,by omega,fun x hx=>?_,fun x hx=>?_⟩
 ·obtain⟨ho,y,hy,rfl⟩:=h3 x hx
  obtain⟨k,i,s,t,l,f⟩:=v
  rw[Ve] at hv
  exact ht ho y (hv.2.2.2.2.2.1 y hy)
 ·obtain⟨ho,y,hy,e⟩:=h4 x hx
  rw[e]
  obtain⟨k,i,s,t,l,f⟩:=v
  rw[Ve] at hv
  have:=hv.2.2.2.2.2.2.2 y hy
  obtain⟨n',v'⟩:=y
  rw[U2] at this
  exact ht ho v' this.2
theorem lk:∀ (n:Nat) (v:Val),v.ok->kZ (n+1) (aJ n v)
 | 0=>BG (fun _ h=>h) (fun h=>absurd h (by decide))
 | n+1=>BG (p5 n) (fun _=>lk n)
theorem eN:∀ (n:Nat) (v:Val),kZ n v->kZ (n+1) v
 | 0,_,h=>h.elim
 | n+1,v,h=>⟨h.1,h.2.1,h.2.2.1,fun x hx=>eN n x (h.2.2.2.1 x hx),fun x hx=>eN n x.value (h.2.2.2.2 x hx)⟩
theorem Pf (v:Val)(hv:v.ok):kZ 9 (aJ 3 v)/\cL 9 (aJ 3 v)/\(ck 9 1 (aJ 3 v)).length<=1000000000000:=by
 refine⟨eN _ _ (eN _ _ (eN _ _ (eN _ _ (eN _ _ (lk 3 v hv))))),fc _ _ (fc _ _ (fc _ _ (fc _ _ (fc _ _ (ln 3 v))))),?_⟩
 rw[oP]
 exact Nat.le_trans (pZ 3 9 v) (by decide)
theorem BL {n:Nat}{rec:Typ->Typ}{on:Bool}(hr:on=true->∀ t:Typ,t.ok->bt n (rec t)/\aP n (rec t)):∀ t:Typ,t.ok->bt (n+1) (dz rec on t)/\aP (n+1) (dz rec on t)
 | .mk k m M s w e f,h=>by
   rw[Vc] at h
   obtain⟨h1,h2,h3,h4,h5,h6,h7,h8,h9,h10⟩:=h
   have hw1:((w.take 6).map (Wt 40)).length<=1000000:=by rw[Vv,Vs];omega
   have hw2:∀ x∈(w.take 6).map (Wt 40),x.length<=1000000:=fun x hx=>by
    obtain⟨y,hy,rfl⟩:=Vy.1 hx
    rw[Vs];omega
   simp only[dz,bt,aP]
   cases on with
   | false=>simp only[Bool.false_eq_true,if_false];exact⟨⟨hw1,hw2,by simp,by simp,by simp,by simp⟩,by simp,by simp,by simp,by simp⟩
   | true=>
     simp only[if_true]
     have hel:((e.take 2).map rec).length<=2:=by rw[Vv,Vs];omega
     have hfl:((f.take 6).map (cG rec)).length<=6:=by rw[Vv,Vs];omega
     have he:∀ x∈(e.take 2).map rec,bt n x/\aP n x:=fun x hx=>by
      obtain⟨y,hy,rfl⟩:=Vy.1 hx
      exact hr rfl y (h8 y (VU hy))
     have hf:∀ g∈(f.take 6).map (cG rec),(g.dflt.length<=1000000/\(∀ v∈g.dflt,kZ 9 v/\cL 9 v/\(ck 9 1 v).length<=1000000000000)/\bt n g.typ)/\aP n g.typ:=fun x hx=>by
      obtain⟨y,hy,rfl⟩:=Vy.1 hx
      have hy':=h10 y (VU hy)
      obtain⟨a,b,c,t,d⟩:=y
      rw[U6] at hy'
      obtain⟨_,_,_,q4,_,q6⟩:=hy'
      have hh:=hr rfl t q4
      simp only[cG,TFd.dflt,TFd.typ]
      refine⟨⟨by rw[Vv,Vs];omega,fun v hv=>?_,hh.1⟩,hh.2⟩
      obtain⟨z,hz,rfl⟩:=Vy.1 hv
      exact Pf z (q6 z (VU hz))
     exact⟨⟨hw1,hw2,by omega,by omega,fun x hx=>(he x hx).1,fun g hg=>(hf g hg).1⟩,by omega,by omega,fun x hx=>(he x hx).2,fun g hg=>(hf g hg).2⟩
theorem lr:∀ (n:Nat) (t:Typ),t.ok->bt (n+1) (a8 n t)/\aP (n+1) (a8 n t)
 | 0=>BL (fun h=>absurd h (by decide))
 | n+1=>BL (fun _=>lr n)
