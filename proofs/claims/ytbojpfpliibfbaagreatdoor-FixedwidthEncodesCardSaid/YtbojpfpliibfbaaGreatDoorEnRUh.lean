/- A part of the proof. -/
import Derived.Test.YtbojpfpliibfbaaGreatDoorEnRUg
set_option maxHeartbeats 16000000
set_option maxRecDepth 100000
set_option linter.unusedVariables false
set_option linter.unusedSimpArgs false
-- many steps
namespace Go.Proofs.YtbojpfpliibfbaaGreatDoor
open Go Go.Ab
attribute [local irreducible] vc
theorem iF {k:Int}{b:List TFd}{n:Int}{nm:List UInt8}{nd:Int}{t:Typ}{d:List Val}(h:bE k b (.mk n nm nd t d)=0):f7 k nd d=0:=by
 rw[kx] at h
 repeat' split at h
 all_goals first | exact absurd h (by decide) | exact h
theorem jI {k nd:Int}{d:List Val}(h:f7 k nd d=0):(k=10->nd=1)/\((nd=3/\d.length=1)\/(¬ nd=3/\d.length=0)):=by
 unfold f7 at h
 by_cases h1:inB nd 1 3=false
 ·rw[if_pos h1] at h;exact absurd h (by decide)
 rw[if_neg h1] at h
 by_cases h2:k=10/\¬ nd=1
 ·rw[if_pos h2] at h;exact absurd h (by decide)
 rw[if_neg h2] at h
 by_cases h3:nd=3/\d.length=0
 ·rw[if_pos h3] at h;exact absurd h (by decide)
 rw[if_neg h3] at h
 by_cases h4:1<d.length
 ·rw[if_pos h4] at h;exact absurd h (by decide)
 rw[if_neg h4] at h
 by_cases h5:¬ nd=3/\0<d.length
 ·rw[if_pos h5] at h;exact absurd h (by decide)
 refine⟨fun hk=>Decidable.byContradiction fun hh=>h2 ⟨hk,hh⟩,?_⟩
 by_cases hn:nd=3
 ·exact .inl ⟨hn,by have:¬ d.length=0:=fun hh=>h3 ⟨hn,hh⟩;omega⟩
 ·exact .inr ⟨hn,by have:¬ 0<d.length:=fun hh=>h5 ⟨hn,hh⟩;omega⟩
theorem lO {n:Nat}{rec:Int->Typ->Int×Int}:∀ (f:List TFd) (l:Int),(∀ g∈f,gV n g=false)->da rec l (f.map TFd.typ)=cz n rec l f
 | [],_,_=>rfl
 | x::r,l,h=>by
   rw[List.map_cons,da,cz,h x (List.mem_cons_self ..),if_neg (show ¬ false=true by decide)]
   split
   ·exact lO r _ fun g hg=>h g (List.mem_cons_of_mem _ hg)
   ·rfl
theorem zU (rec:Int->Typ->Int×Int)(l:Int)(t:Typ):da rec l [t]=rec l t:=by
 rw[da]
 split
 ·rename_i h;rw[da];exact Prod.ext h.symm rfl
 ·rfl
theorem Be {δ:Int}{n:Nat}{k m M s:Int}{w:List (List UInt8)}{e:List Typ}{f:List TFd}(h:bm (.mk k m M s w e f)=0)(h8:¬ k=8){l:Int}(hl:¬ l=0):ci δ (n+1) l (.mk k m M s w e f)=cz n (ci δ n) (l - 1) f:=by
 rw[ci,if_neg hl,if_pos h]
 by_cases h9:k=9
 ·rw[if_pos h9]
 rw[if_neg h9]
 by_cases h10:k=10
 ·subst h10
  rw[show bP (.mk 10 m M s w e f)=f.map TFd.typ from rfl]
  refine lO f _ fun g hg=>?_
  obtain⟨b,hb⟩:=bJ f [] (bu h).2.2.2 g hg
  obtain⟨n',nm',nd',t',d'⟩:=g
  obtain rfl:=(jI (iF hb)).1 rfl
  rfl
 ·obtain rfl:=(ee h).2 (by omega)
  rw[show bP (.mk k m M s w e [])=[] by simp only[bP];rw[if_neg h8,if_neg (by omega)]]
  rfl
def J4 (n:Nat):Prop:=∀ (t:Typ) (d l:Int),t.ok->d+n=9->0<=l->l<=4096 ->
 bn Tryz.prog az 1 71 [.pv t.pv,.pv (.int .i64 d),.ptr 0 0] [.cells 3 true [.pv (.int .i64 l)]] (.pv (.int .i64 (ci 1 n l t).1)) [.cells 3 true [.pv (.int .i64 (ci 1 n l t).2)]]
theorem zc {k m M s:Int}{w:List (List UInt8)}{e:List Typ}{f:List TFd}(h:(Typ.mk k m M s w e f).ok):am Tryz.prog az 125 [(Typ.mk k m M s w e f).pv] (.int .i64 (bm (.mk k m M s w e f))):=by
 rw[Typ.ok_mk] at h
 exact Lq m M s w e f k (fun x hx=>by have:=h.2.2.2.2.2.1 x hx;omega)
theorem wE (t:Typ)(d l:Int)(hd:d=9)(hl:0<=l)(hl2:l<=4096):bn Tryz.prog az 1 71 [.pv t.pv,.pv (.int .i64 d),.ptr 0 0] [.cells 3 true [.pv (.int .i64 l)]] (.pv (.int .i64 (ci 1 0 l t).1)) [.cells 3 true [.pv (.int .i64 (ci 1 0 l t).2)]]:=by
 subst hd
 rw[ci]
 obtain⟨k',m',M',s',w',e',f'⟩:=t
 simp only[Typ.pv_mk]
 by_cases h0:l=0
 ·subst h0
  rw[if_pos rfl]
  refine bn.intro Q71.2 (by simp[Q71]) ?_
  simp(disch:=try exact dI) only[Q71,push_cast,seval]
  exact aL [] qsZ
 ·rw[if_neg h0]
  refine bn.intro Q71.2 (by simp[Q71]) ?_
  simp(disch:=try exact dI) only[Q71,h0,push_cast,seval]
  exact aL [] qsZ
theorem wB (n:Nat)(t:Typ)(d:Int):bn Tryz.prog az 1 71 [.pv t.pv,.pv (.int .i64 d),.ptr 0 0] [.cells 3 true [.pv (.int .i64 0)]] (.pv (.int .i64 (ci 1 (n+1) 0 t).1)) [.cells 3 true [.pv (.int .i64 (ci 1 (n+1) 0 t).2)]]:=by
 obtain⟨k',m',M',s',w',e',f'⟩:=t
 rw[ci,if_pos rfl]
 simp only[Typ.pv_mk]
 refine bn.intro Q71.2 (by simp[Q71]) ?_
 simp(disch:=try exact dI) only[Q71,push_cast,seval]
 exact aL [] qsZ
theorem wD (n:Nat)(ih:J4 n)(m M s:Int)(w:List (List UInt8))(e:List Typ)(f:List TFd)(d l:Int)(ht:(Typ.mk 8 m M s w e f).ok)(hdn:d+(n+1:Nat)=9)(hd:1<=d)(hl:0<=l)(hl2:l<=4096)(hl0:¬ l=0) :
  bn Tryz.prog az 1 71 [.pv (Typ.mk 8 m M s w e f).pv,.pv (.int .i64 d),.ptr 0 0] [.cells 3 true [.pv (.int .i64 l)]] (.pv (.int .i64 (ci 1 (n+1) l (.mk 8 m M s w e f)).1)) [.cells 3 true [.pv (.int .i64 (ci 1 (n+1) l (.mk 8 m M s w e f)).2)]]:=by
 have h148:=zc ht
 have hpt:=(zd ht).2.2.1
 have hd8:¬ 8<d:=by omega
 by_cases hz:bm (.mk 8 m M s w e f)=0
 ·obtain⟨x,rfl⟩:=jp hz
  have hxt:=hpt x (by rw[show bP (.mk 8 m M s w [x] f)=[x] from rfl];exact List.mem_cons_self ..)
  have hcall:=ih x (d+1) (l - 1) hxt (by omega) (by omega) (by omega)
  rw[ci,if_neg hl0,if_pos hz,if_neg (by decide),show bP (.mk 8 m M s w [x] f)=[x] from rfl,zU]
  rw[hz] at h148
  obtain⟨⟨e1,e2⟩,he⟩:∃ q,q=ci 1 n (l - 1) x:=⟨_,rfl⟩
  rw[<- he] at hcall ⊢
  clear he hz hxt hpt
  obtain⟨k',m',M',s',w',e',f'⟩:=x
  simp only[Typ.pv_mk,List.map_cons,List.map_nil] at h148 hcall
  simp only at hcall ⊢
  refine bn.intro Q71.2 (by simp[Q71]) ?_
  simp(disch:=try exact dI) only[Q71,Typ.pv_mk,hl0,hd8,push_cast,seval]
  refine ab.pure h148 rfl ?_
  simp(disch:=try exact dI) only[Typ.pv_mk,aS,ag,push_cast,seval]
  refine ab.lentK hcall [0] rfl qsZ qsZ ?_
  refine zgZ ?_
  exact aL [] qsZ
 ·rw[ci,if_neg hl0,if_neg hz]
  generalize bm (.mk 8 m M s w e f)=z at *
  simp only[Typ.pv_mk] at h148 ⊢
  refine bn.intro Q71.2 (by simp[Q71]) ?_
  simp(disch:=try exact dI) only[Q71,hl0,hd8,push_cast,seval]
  refine ab.pure h148 rfl ?_
  simp(disch:=try exact dI) only[hz,push_cast,seval]
  exact aL [] qsZ
theorem wC (n:Nat)(ih:J4 n)(k m M s:Int)(w:List (List UInt8))(e:List Typ)(f:List TFd)(d l:Int)(ht:(Typ.mk k m M s w e f).ok)(hdn:d+(n+1:Nat)=9)(hd:1<=d)(hl:0<=l)(hl2:l<=4096)(hl0:¬ l=0)(hk:¬ k=8) :
  bn Tryz.prog az 1 71 [.pv (Typ.mk k m M s w e f).pv,.pv (.int .i64 d),.ptr 0 0] [.cells 3 true [.pv (.int .i64 l)]] (.pv (.int .i64 (ci 1 (n+1) l (.mk k m M s w e f)).1)) [.cells 3 true [.pv (.int .i64 (ci 1 (n+1) l (.mk k m M s w e f)).2)]]:=by
 have h148:=zc ht
 rw[Typ.ok_mk] at ht
 have hd8:¬ 8<d:=by omega
 by_cases hz:bm (.mk k m M s w e f)=0
 ·have hfl:=(bu hz).2.2.2
  rw[Be hz hk hl0]
  rw[hz] at h148
  clear hz
  obtain⟨R,hR⟩:∃ R,R=cz n (ci 1 n) (l - 1) f:=⟨_,rfl⟩
  rw[<- hR]
  simp only[Typ.pv_mk] at h148 ⊢
  refine bn.intro Q71.2 (by simp[Q71]) ?_
  simp(disch:=try exact dI) only[Q71,hl0,hd8,push_cast,seval]
  refine ab.pure h148 rfl ?_
  simp(disch:=try exact dI) only[hk,push_cast,seval]
  refine au ([]) (fun x:Nat×Int=>[(8,.pv (.int .i64 (x.1:Int)))]) (fun x=>[(0,.cells 3 true [.pv (.int .i64 x.2)])]) (fun x=>x.1<=f.length/\R=cz n (ci 1 n) x.2 (f.drop x.1)/\0<=x.2/\x.2<=4096) (fun x=>f.length - x.1) ((0,l - 1)) ?_;intro e0 σ0 n0 h0;simp(disch:=try exact dI) only[push_cast,seval] at h0;obtain⟨rfl,rfl,rfl⟩:=h0;refine⟨?_,?_,?_⟩
  ·exact qsZ
  ·exact⟨by simp,by simpa using hR,by simp only;omega,by simp only;omega⟩
  rintro⟨i,L⟩ ⟨hi,hr,hL,hL2⟩
  simp only at hi hr hL hL2
  by_cases hlt:i<f.length
  ·have hltI:(i:Int)<(f.length:Int):=by omega
   obtain⟨g,hg⟩:∃ g,f[i]? = some g:=⟨_,List.getElem?_eq_getElem hlt⟩
   have hgm:=List.mem_of_getElem? hg
   have hgt:=(dt (ht.2.2.2.2.2.2.2.2.2 g hgm)).1
   have hcall:=ih g.typ (d+1) L hgt (by omega) hL hL2
   have hleft:=fw (δ:=1) (by decide) n g.typ L hL hL2
   have hty:=fv (δ:=1) n L g.typ
   obtain⟨bb,hfe⟩:=bJ f [] hfl g hgm
   have hgd:=(dt (ht.2.2.2.2.2.2.2.2.2 g hgm)).2
   rw[lL hg] at hr
   obtain⟨⟨e1,e2⟩,he⟩:∃ q,q=ci 1 n L g.typ:=⟨_,rfl⟩
   rw[<- he] at hcall hleft hr hty
   clear he
   obtain⟨n',nm',nd',t',d'⟩:=g
   simp only[TFd.typ,TFd.dflt] at hcall hleft hr hty hgt hgd
   have hnd:=(jI (iF hfe)).2
   by_cases he0:e1=0
   ·subst he0
    rw[if_pos rfl] at hr
    rcases hnd with ⟨rfl,hd1⟩ | ⟨h3,hd0⟩
    ·obtain⟨x,r,rfl⟩:=fK hfe
     have hx1:=hgd x (List.mem_cons_self ..)
     have hd0I:(0:Int)<((x::r).length:Int):=by omega
     have hacc:=vU n t' x hx1 (fun hc=>kh n (lvl x) t' x (hty rfl) hgt (rg (fF x) hc) hx1)
     simp only[gV,qA,decide_true,Bool.true_and] at hr
     generalize accB n t' x=q at hacc hr
     obtain⟨k',m',M',s',w',e',f'⟩:=t'
     obtain⟨vk,vn,vs,vt,vl,vf⟩:=x
     simp only[Typ.pv_mk,Val.pv_mk] at hcall hacc
     simp(disch:=try exact dI) only[hg,Option.map_some,TFd.pv_mk,Typ.pv_mk,ag,push_cast,seval]
     refine ab.lentK hcall [0] rfl qsZ qsZ ?_
     simp(disch:=try exact dI) only[Val.pv_mk,ag,aS,hd0I,push_cast,seval]
     refine ab.pure hacc rfl ?_
     cases q with
     | true=>
       rw[if_neg (by decide)] at hr
       refine zgZ ?_
       exact⟨(i+1,e2),aM qsZ,⟨by simp only;omega,hr,by simp only;omega,by simp only;omega⟩,by simp only;omega⟩
     | false=>
       rw[if_pos (by decide)] at hr
       subst hr
       refine zgZ ?_
       exact aL [] qsZ
    ·rw[if_neg (by simp[gV,h3])] at hr
     obtain rfl:=List.length_eq_zero_iff.1 hd0
     obtain⟨k',m',M',s',w',e',f'⟩:=t'
     simp only[Typ.pv_mk] at hcall
     simp(disch:=try exact dI) only[hg,Option.map_some,TFd.pv_mk,Typ.pv_mk,ag,push_cast,seval]
     refine ab.lentK hcall [0] rfl qsZ qsZ ?_
     refine zgZ ?_
     exact⟨(i+1,e2),aM qsZ,⟨by simp only;omega,hr,by simp only;omega,by simp only;omega⟩,by simp only;omega⟩
   ·rw[if_neg he0] at hr
    subst hr
    obtain⟨k',m',M',s',w',e',f'⟩:=t'
    simp only[Typ.pv_mk] at hcall
    simp(disch:=try exact dI) only[hg,Option.map_some,TFd.pv_mk,Typ.pv_mk,ag,push_cast,seval]
    refine ab.lentK hcall [0] rfl qsZ qsZ ?_
    simp(disch:=try exact dI) only[he0,push_cast,seval]
    exact aL [] qsZ
  ·obtain rfl:i=f.length:=by omega
   rw[List.drop_length,cz] at hr
   subst hr
   simp(disch:=try exact dI) only[Int.lt_irrefl,push_cast,seval]
   exact aL [] qsZ
 ·rw[ci,if_neg hl0,if_neg hz]
  generalize bm (.mk k m M s w e f)=z at *
  simp only[Typ.pv_mk] at h148 ⊢
  refine bn.intro Q71.2 (by simp[Q71]) ?_
  simp(disch:=try exact dI) only[Q71,hl0,hd8,push_cast,seval]
  refine ab.pure h148 rfl ?_
  simp(disch:=try exact dI) only[hz,push_cast,seval]
  exact aL [] qsZ
theorem wF:∀ n,n<=8->J4 n
 | 0,_=>fun t d l ht hd hl hl2=>wE t d l (by omega) hl hl2
 | n+1,hn=>fun t d l ht hd hl hl2=>by
   by_cases hl0:l=0
   ·subst hl0;exact wB n t d
   have ih:=wF n (by omega)
   obtain⟨k,m,M,s,w,e,f⟩:=t
   by_cases hk:k=8
   ·subst hk;exact wD n ih m M s w e f d l ht hd (by omega) hl hl2 hl0
   ·exact wC n ih k m M s w e f d l ht hd (by omega) hl hl2 hl0 hk
end Go.Proofs.YtbojpfpliibfbaaGreatDoor
-- many steps
namespace Go.Proofs.YtbojpfpliibfbaaGreatDoor
open Go Go.Ab
attribute [local irreducible] vc
def B8 (a b:Int):Prop:=0<=a/\a<=b/\(a=b\/4097<=a)
theorem xT {p q:TFd->Int}:∀ (f:List TFd),(∀ g∈f,B8 (p g) (q g))->B8 (f.map p).sum (f.map q).sum
 | [],_=>by simp[B8]
 | g::r,h=>by
   have h1:=h g (List.mem_cons_self ..)
   have h2:=xT r fun x hx=>h x (List.mem_cons_of_mem _ hx)
   simp only[List.map_cons,List.sum_cons,B8] at *
   omega
theorem H3 {m a b:Int}(hm:0<m)(h:B8 a b):B8 (m*a) (m*b):=by
 obtain⟨h1,h2,h3⟩:=h
 refine⟨Int.mul_nonneg (by omega) h1,Int.mul_le_mul_of_nonneg_left h2 (by omega),?_⟩
 rcases h3 with rfl | h3
 ·exact .inl rfl
 ·have:1*a<=m*a:=Int.mul_le_mul_of_nonneg_right (by omega) h1
  exact .inr (by omega)
theorem jo {a:Int}(h:0<=a):B8 a a:=⟨h,by omega,.inl rfl⟩
theorem nM:∀ (n:Nat) (t:Typ),dL n t->B8 (cl n t) (cm n t)/\cl n t=min (cm n t) 4097
 | 0,_,h=>h.elim
 | n+1,.mk k m M s w e f,h=>by
   have ih:=nM n
   simp only[dL] at h
   obtain⟨h8,h10,h9,hf⟩:=h
   have key:B8 (cr (cl n) k m e f) (cr (cm n) k m e f):=by
    unfold cr
    by_cases e8:k=8
    ·rw[if_pos e8,if_pos e8]
     by_cases hm:0<m
     ·rw[if_pos hm,if_pos hm]
      obtain⟨_,x,r,rfl,hx⟩:=h8 e8 hm
      exact H3 hm (ih x hx).1
     ·rw[if_neg hm,if_neg hm];exact jo (by omega)
    rw[if_neg e8,if_neg e8]
    by_cases e10:k=10
    ·rw[if_pos e10,if_pos e10]
     obtain⟨g,r,rfl,_,hx⟩:=h10 e10
     obtain⟨a,b,c,t,d⟩:=g
     exact (ih t hx).1
    rw[if_neg e10,if_neg e10]
    by_cases e9:k=9
    ·rw[if_pos e9,if_pos e9]
     refine xT f fun g hg=>?_
     have hr:=(h9 e9).2 g hg
     obtain⟨a,b,nd,t,d⟩:=g
     simp only[gr,jT] at hr ⊢
     by_cases n1:nd=1
     ·rw[if_pos n1,if_pos n1];exact (ih t (hr.1 n1)).1
     ·rw[if_neg n1,if_neg n1]
      by_cases n3:nd=3
      ·obtain⟨x,r,rfl,hx⟩:=hr.2 n3
       rw[if_pos n3];simp only[Ke];exact jo (by omega)
      ·rw[if_neg n3];exact jo (by omega)
    ·rw[if_neg e9,if_neg e9];exact jo (by omega)
   simp only[cl,cm,B8] at key ⊢
   omega
theorem fq {α:Type}{p:α->Int}:∀ (l:List α) (a:Int),(4096<l.foldl (fun a x=>max a (p x)) a↔(4096<a\/∃ x∈l,4096<p x))
 | [],a=>by simp
 | x::r,a=>by
   rw[List.foldl_cons,fq r,show (4096<max a (p x)↔(4096<a\/4096<p x)) by omega]
   simp[or_assoc]
theorem ki:∀ (n:Nat) (t:Typ),JJ n t->(4096<cC n t↔4096<dg n t)
 | 0,_,h=>h.elim
 | n+1,.mk k m M s w e f,h=>by
   simp only[JJ] at h
   obtain⟨hs,_,_,he,hf⟩:=h
   have h9:=(nM 9 _ hs).2
   simp only[cC,dg]
   rw[fq (p:=fun g:TFd=>cC n g.typ) f,fq (p:=fun g:TFd=>dg n g.typ) f,fq e,fq e,h9]
   exact or_congr (or_congr (by omega) (exists_congr fun x=>and_congr_right fun hx=>ki n x (he x hx))) (exists_congr fun g=>and_congr_right fun hg=>ki n g.typ (hf g hg))
theorem gx:∀ (n N:Nat) (t:Typ),n<=N->tyV n t->t.ok->dL N t
 | 0,_,_,_,h,_=>h.elim
 | _+1,0,_,h,_,_=>absurd h (by omega)
 | n+1,N+1,.mk k m M s w e f,hN,h,ht=>by
   obtain⟨ho,h8,h9⟩:=h
   rw[Typ.ok_mk] at ht
   obtain⟨_,_,_,_,_,_,t3,t5,t4,t6⟩:=ht
   refine⟨fun hk hm=>?_,fun hk=>?_,fun hk=>⟨rJ ho,fun g hg=>?_⟩,fun hk=>(ee ho).2 hk⟩
   ·subst hk
    obtain⟨x,rfl⟩:=jp ho
    exact⟨yM ho,x,[],rfl,gx n N x (by omega) (h8 rfl x (List.mem_cons_self ..)) (t5 x (List.mem_cons_self ..))⟩
   ·subst hk
    obtain⟨g,r,rfl⟩:=yK ho
    obtain⟨b,hb⟩:=bJ _ [] (bu ho).2.2.2 g (List.mem_cons_self ..)
    refine⟨g,r,rfl,?_,gx n N g.typ (by omega) (h9 (.inr rfl) g (List.mem_cons_self ..)).1 (dt (t6 g (List.mem_cons_self ..))).1⟩
    obtain⟨n',nm',nd',t',d'⟩:=g
    exact (jI (iF hb)).1 rfl
   ·subst hk
    have hs:=gx n N g.typ (by omega) (h9 (.inl rfl) g hg).1 (dt (t6 g hg)).1
    obtain⟨b,hb⟩:=bJ f [] (bu ho).2.2.2 g hg
    have hd:=(dt (t6 g hg)).2
    have hdf:=(h9 (.inl rfl) g hg).2 rfl
    obtain⟨n',nm',nd',t',d'⟩:=g
    refine⟨fun _=>hs,fun h3=>?_⟩
    subst h3
    obtain⟨x,r,rfl⟩:=fK hb
    exact⟨x,r,rfl,sy hdf (hd x (List.mem_cons_self ..))⟩
theorem qR:∀ (n:Nat) (t:Typ),n<=9->tyV n t->t.ok->JJ n t
 | 0,_,_,h,_=>h.elim
 | n+1,.mk k m M s w e f,hN,h,ht=>by
   have hs:=gx (n+1) 9 _ hN h ht
   obtain⟨ho,h8,h9⟩:=h
   obtain⟨he,hf⟩:=ee ho
   rw[Typ.ok_mk] at ht
   obtain⟨_,_,_,_,_,_,t3,t5,t4,t6⟩:=ht
   refine⟨hs,by omega,by omega,fun x hx=>?_,fun g hg=>?_⟩
   ·by_cases hk:k=8
    ·exact qR n x (by omega) (h8 hk x hx) (t5 x hx)
    ·rw[he hk] at hx;cases hx
   ·by_cases hk:k=9\/k=10
    ·exact qR n g.typ (by omega) (h9 hk g hg).1 (dt (t6 g hg)).1
    ·rw[hf hk] at hg;cases hg
theorem Bl (t:Typ)(ht:t.ok):am Tryz.prog az 28 [t.pv] (.int .i64 (ni t)):=by
 have h94:=wF 8 (by omega) t 1 4096 ht (by omega) (by omega) (by omega)
 have h95:(ci 1 8 4096 t).1=0->am Tryz.prog az 72 [t.pv] (.int .i64 (dg 8 t))/\(4096<cC 8 t↔4096<dg 8 t):=fun h=>by
  have ha:=qR 8 t (by omega) (fv 8 4096 t h) ht
  exact⟨lH 8 t ha,ki 8 t ha⟩
 simp only[ni]
 rw[<- (kK 1 0 8 4096 t).1]
 obtain⟨⟨z,L⟩,hq⟩:∃ q,q=ci 1 8 4096 t:=⟨_,rfl⟩
 rw[<- hq] at h94 h95 ⊢
 simp only at h94 h95 ⊢
 clear hq
 generalize cC 8 t=G at h95 ⊢
 generalize dg 8 t=H at h95
 obtain⟨k,m,M,s,w,e,f⟩:=t
 simp only[Typ.pv_mk] at h94 h95
 refine am.intro Q28.2 (by simp[Q28]) ?_
 by_cases hz:z=0
 ·subst hz
  obtain⟨h95,hGH⟩:=h95 rfl
  rw[if_pos rfl]
  by_cases hg:4096<H
  ·rw[if_pos (hGH.2 hg)]
   simp(disch:=try exact dI) only[Q28,Typ.pv_mk,push_cast,seval]
   refine ab.lentK h94 [1] rfl qsZ qsZ ?_
   refine zgZ ?_
   refine ab.pure h95 rfl ?_
   simp(disch:=try exact dI) only[hg,push_cast,seval]
  ·rw[if_neg (fun h=>hg (hGH.1 h))]
   simp(disch:=try exact dI) only[Q28,Typ.pv_mk,push_cast,seval]
   refine ab.lentK h94 [1] rfl qsZ qsZ ?_
   refine zgZ ?_
   refine ab.pure h95 rfl ?_
   simp(disch:=try exact dI) only[hg,push_cast,seval]
 ·rw[if_neg hz]
  simp(disch:=try exact dI) only[Q28,Typ.pv_mk,push_cast,seval]
  refine ab.lentK h94 [1] rfl qsZ qsZ ?_
  simp(disch:=try exact dI) only[hz,push_cast,seval]
end Go.Proofs.YtbojpfpliibfbaaGreatDoor
