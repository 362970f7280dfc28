/- A part. -/
import Derived.Test.YtamoeblcphjbaaaGreatDoorTyLSc
set_option linter.unusedVariables false
set_option linter.unusedSimpArgs false
set_option maxHeartbeats 16000000
set_option maxRecDepth 100000
open List renaming mem_map->Xo,getElem?_eq_getElem->WE,mem_of_getElem?->WK,drop_length->XX,mem_cons_self->Xy,mem_cons->W9
open Option renaming map_some->WZ
open Bool renaming and_eq_true->WT
namespace Go.Proofs.YtamoeblcphjbaaaGreatDoor
open Go Go.Ab
attribute [local irreducible] vc
def PF (n:Nat):Prop:=∀ (t:Typ) (d l:Int),t.ok->d+n=9->0<=l->l<=4096 ->
 aP Tryz.prog aC 1 63 [.pv t.pv,.pv (.int .i64 d),.ptr 0 0] [.cells 3 true [.pv (.int .i64 l)]] (.pv (.int .i64 (dr 0 n l t).1)) [.cells 3 true [.pv (.int .i64 (dr 0 n l t).2)]]
theorem oj {g:TFd}(h:g.ok):g.typ.ok/\∀ v∈g.dflt,v.ok:=by
 obtain⟨a1,a2,a3,a4,a5⟩:=g
 rw[Ws] at h
 exact⟨h.2.2.2.1,h.2.2.2.2.2⟩
theorem Le {k m M s:Int}{w:List (List UInt8)}{e:List Typ}{f:List TFd}(h:(Typ.mk k m M s w e f).ok):am Tryz.prog aC 142 [(Typ.mk k m M s w e f).pv] (.int .i64 (kN (.mk k m M s w e f)))/\am Tryz.prog aC 143 [(Typ.mk k m M s w e f).pv] (.list ((ca (.mk k m M s w e f)).map Typ.pv))/\(∀ x∈ca (.mk k m M s w e f),x.ok)/\(ca (.mk k m M s w e f)).length<=9000000000000:=by
 rw[WA] at h
 obtain⟨_,_,_,_,h1,h2,h3,h4,h5,h6⟩:=h
 refine⟨Q6 m M s w e f k (fun x hx=>by have:=h2 x hx;omega) (by omega) (by omega) (by omega),Is k m M s w e f (by omega),?_⟩
 by_cases h8:k=8
 ·rw[show ca (.mk k m M s w e f)=e from if_pos h8]
  exact⟨h4,by omega⟩
 ·by_cases h9:k=9\/k=10
  ·rw[show ca (.mk k m M s w e f)=f.map TFd.typ by simp only[ca];rw[if_neg h8,if_pos h9]]
   refine⟨fun x hx=>?_,by rw[List.length_map];omega⟩
   obtain⟨g,hg,rfl⟩:=Xo.1 hx
   exact (oj (h6 g hg)).1
  ·rw[show ca (.mk k m M s w e f)=[] by simp only[ca];rw[if_neg h8,if_neg h9]]
   exact⟨fun x hx=>(by cases hx),by simp⟩
theorem FI (t:Typ)(d l:Int)(hd:d=9)(hl:0<=l):aP Tryz.prog aC 1 63 [.pv t.pv,.pv (.int .i64 d),.ptr 0 0] [.cells 3 true [.pv (.int .i64 l)]] (.pv (.int .i64 (dr 0 0 l t).1)) [.cells 3 true [.pv (.int .i64 (dr 0 0 l t).2)]]:=by
 subst hd
 rw[dr]
 obtain⟨k',m',M',s',w',e',f'⟩:=t
 simp only[WB]
 by_cases h0:l=0
 ·subst h0
  rw[if_pos rfl]
  refine aP.intro Q63.2 (by simp[Q63]) ?_
  simp(disch:=try exact dI) only[Q63,push_cast,seval]
  exact au [] qsZ
 ·rw[if_neg h0]
  refine aP.intro Q63.2 (by simp[Q63]) ?_
  simp(disch:=try exact dI) only[Q63,h0,Int.sub_zero,push_cast,seval]
  exact au [] qsZ
theorem FF (n:Nat)(t:Typ)(d:Int):aP Tryz.prog aC 1 63 [.pv t.pv,.pv (.int .i64 d),.ptr 0 0] [.cells 3 true [.pv (.int .i64 0)]] (.pv (.int .i64 (dr 0 (n+1) 0 t).1)) [.cells 3 true [.pv (.int .i64 (dr 0 (n+1) 0 t).2)]]:=by
 obtain⟨k',m',M',s',w',e',f'⟩:=t
 rw[dr,if_pos rfl]
 simp only[WB]
 refine aP.intro Q63.2 (by simp[Q63]) ?_
 simp(disch:=try exact dI) only[Q63,push_cast,seval]
 exact au [] qsZ
theorem FG (n:Nat)(ih:PF n)(k m M s:Int)(w:List (List UInt8))(e:List Typ)(f:List TFd)(d l:Int)(ht:(Typ.mk k m M s w e f).ok)(hdn:d+(n+1:Nat)=9)(hd:1<=d)(hl:0<=l)(hl2:l<=4096)(hl0:¬ l=0)(hk:¬ k=9) :
  aP Tryz.prog aC 1 63 [.pv (Typ.mk k m M s w e f).pv,.pv (.int .i64 d),.ptr 0 0] [.cells 3 true [.pv (.int .i64 l)]] (.pv (.int .i64 (dr 0 (n+1) l (.mk k m M s w e f)).1)) [.cells 3 true [.pv (.int .i64 (dr 0 (n+1) l (.mk k m M s w e f)).2)]]:=by
 obtain⟨h143,h144,hpt,hpl⟩:=Le ht
 have hd8:¬ 8<d:=by omega
 rw[dr,if_neg hl0,if_neg hk]
 generalize ca (.mk k m M s w e f)=ps at *
 generalize kN (.mk k m M s w e f)=z at *
 simp only[WB] at h143 h144 ⊢
 by_cases hz:z=0
 ·subst hz
  rw[if_pos rfl]
  obtain⟨R,hR⟩:∃ R,R=d6 (dr 0 n) (l - 1) ps:=⟨_,rfl⟩
  rw[<- hR]
  refine aP.intro Q63.2 (by simp[Q63]) ?_
  simp(disch:=try exact dI) only[Q63,hl0,hd8,push_cast,seval]
  refine ae.pure h143 rfl ?_
  refine zgZ ?_
  refine ae.pure h144 rfl ?_
  refine zgZ ?_
  refine aG ([]) (fun x:Nat×Int=>[(32,.pv (.int .i64 (x.1:Int)))]) (fun x=>[(0,.cells 3 true [.pv (.int .i64 x.2)])]) (fun x=>x.1<=ps.length/\R=d6 (dr 0 n) x.2 (ps.drop x.1)/\0<=x.2/\x.2<=4096) (fun x=>ps.length - x.1) ((0,l - 1)) ?_;intro e0 σ0 n0 h0;simp(disch:=try exact dI) only[push_cast,seval] at h0;obtain⟨rfl,rfl,rfl⟩:=h0;refine⟨?_,?_,?_⟩
  ·exact qsZ
  ·exact⟨by simp,by simpa using hR,by simp only;omega,by simp only;omega⟩
  rintro⟨i,L⟩ ⟨hi,hr,hL,hL2⟩
  simp only at hi hr hL hL2
  by_cases hlt:i<ps.length
  ·have hltI:(i:Int)<(ps.length:Int):=by omega
   obtain⟨x,hx⟩:∃ x,ps[i]? = some x:=⟨_,WE hlt⟩
   have hxm:=WK hx
   have hcall:=ih x (d+1) L (hpt x hxm) (by omega) hL hL2
   have hleft:=jB (δ:=0) (by decide) n x L hL hL2
   rw[Ai hx] at hr
   obtain⟨⟨e1,e2⟩,he⟩:∃ q,q=dr 0 n L x:=⟨_,rfl⟩
   rw[<- he] at hcall hleft hr
   simp only at hcall hleft hr
   obtain⟨k',m',M',s',w',e',f'⟩:=x
   simp only[WB] at hcall
   simp(disch:=try exact dI) only[hx,WZ,WB,ap,push_cast,seval]
   refine ae.lentK hcall [0] rfl qsZ qsZ ?_
   by_cases he0:e1=0
   ·subst he0
    rw[if_pos rfl] at hr
    simp(disch:=try exact dI) only[hk,push_cast,seval]
    exact⟨(i+1,e2),bl qsZ,⟨by simp only;omega,hr,by simp only;omega,by simp only;omega⟩,by simp only;omega⟩
   ·rw[if_neg he0] at hr
    subst hr
    simp(disch:=try exact dI) only[he0,push_cast,seval]
    exact au [] qsZ
  ·obtain rfl:i=ps.length:=by omega
   rw[XX,d6] at hr
   subst hr
   simp(disch:=try exact dI) only[Int.lt_irrefl,push_cast,seval]
   exact au [] qsZ
 ·rw[if_neg hz]
  refine aP.intro Q63.2 (by simp[Q63]) ?_
  simp(disch:=try exact dI) only[Q63,hl0,hd8,push_cast,seval]
  refine ae.pure h143 rfl ?_
  simp(disch:=try exact dI) only[hz,push_cast,seval]
  exact au [] qsZ
theorem FH (n:Nat)(ih:PF n)(m M s:Int)(w:List (List UInt8))(e:List Typ)(f:List TFd)(d l:Int)(ht:(Typ.mk 9 m M s w e f).ok)(hdn:d+(n+1:Nat)=9)(hd:1<=d)(hl:0<=l)(hl2:l<=4096)(hl0:¬ l=0) :
  aP Tryz.prog aC 1 63 [.pv (Typ.mk 9 m M s w e f).pv,.pv (.int .i64 d),.ptr 0 0] [.cells 3 true [.pv (.int .i64 l)]] (.pv (.int .i64 (dr 0 (n+1) l (.mk 9 m M s w e f)).1)) [.cells 3 true [.pv (.int .i64 (dr 0 (n+1) l (.mk 9 m M s w e f)).2)]]:=by
 obtain⟨h143,h144,hpt,hpl⟩:=Le ht
 have hown:=fw (k:=9) (m:=m) (M:=M) (s:=s) (w:=w) (e:=e) (f:=f)
 rw[show ca (.mk 9 m M s w e f)=f.map TFd.typ from rfl] at h144 hpt
 rw[WA] at ht
 have hd8:¬ 8<d:=by omega
 rw[dr,if_neg hl0,if_pos rfl]
 generalize kN (.mk 9 m M s w e f)=z at *
 simp only[WB] at h143 h144 ⊢
 by_cases hz:z=0
 ·have hfl:=(hown hz).2.2.2
  clear hown
  subst hz
  rw[if_pos rfl]
  obtain⟨R,hR⟩:∃ R,R=dB n (dr 0 n) (l - 1) f:=⟨_,rfl⟩
  rw[<- hR]
  refine aP.intro Q63.2 (by simp[Q63]) ?_
  simp(disch:=try exact dI) only[Q63,hl0,hd8,push_cast,seval]
  refine ae.pure h143 rfl ?_
  refine zgZ ?_
  refine ae.pure h144 rfl ?_
  refine zgZ ?_
  refine aG ([]) (fun x:Nat×Int=>[(32,.pv (.int .i64 (x.1:Int)))]) (fun x=>[(0,.cells 3 true [.pv (.int .i64 x.2)])]) (fun x=>x.1<=f.length/\R=dB n (dr 0 n) x.2 (f.drop x.1)/\0<=x.2/\x.2<=4096) (fun x=>f.length - x.1) ((0,l - 1)) ?_;intro e0 σ0 n0 h0;simp(disch:=try exact dI) only[push_cast,seval] at h0;obtain⟨rfl,rfl,rfl⟩:=h0;refine⟨?_,?_,?_⟩
  ·exact qsZ
  ·exact⟨by simp,by simpa using hR,by simp only;omega,by simp only;omega⟩
  rintro⟨i,L⟩ ⟨hi,hr,hL,hL2⟩
  simp only at hi hr hL hL2
  by_cases hlt:i<f.length
  ·have hltI:(i:Int)<(f.length:Int):=by omega
   obtain⟨g,hg⟩:∃ g,f[i]? = some g:=⟨_,WE hlt⟩
   have hgm:=WK hg
   have hgt:=hpt g.typ (List.mem_map_of_mem hgm)
   have hcall:=ih g.typ (d+1) L hgt (by omega) hL hL2
   have hleft:=jB (δ:=0) (by decide) n g.typ L hL hL2
   have hty:=ni (δ:=0) n L g.typ
   have hfe:=iG f [] hfl g hgm
   have hgd:=(oj (ht.2.2.2.2.2.2.2.2.2 g hgm)).2
   rw[As hg] at hr
   obtain⟨⟨e1,e2⟩,he⟩:∃ q,q=dr 0 n L g.typ:=⟨_,rfl⟩
   rw[<- he] at hcall hleft hr hty
   clear he
   obtain⟨n',nm',nd',t',d'⟩:=g
   simp only[TFd.typ,TFd.dflt] at hcall hleft hr hty hgt hgd
   by_cases he0:e1=0
   ·subst he0
    rw[if_pos rfl] at hr
    by_cases h3:nd'=3
    ·subst h3
     obtain⟨b,hb⟩:=hfe
     obtain⟨x,r,rfl⟩:=oG hb
     have hx1:=hgd x (Xy ..)
     have hacc:=A8 n t' x hx1 (fun hc=>pT n (lvl x) t' x (hty rfl) hgt (GL (wM x) hc) hx1)
     simp only[g9,Aq,decide_true,Bool.true_and] at hr
     generalize accB n t' x=q at hacc hr
     obtain⟨k',m',M',s',w',e',f'⟩:=t'
     obtain⟨vk,vn,vs,vt,vl,vf⟩:=x
     simp only[WB,WD] at hcall hacc
     simp(disch:=try exact dI) only[hg,WZ,TFd.typ,WB,ap,push_cast,seval]
     refine ae.lentK hcall [0] rfl qsZ qsZ ?_
     simp(disch:=try exact dI) only[hg,WZ,Wt,WB,WD,ap,aJ,push_cast,seval]
     refine ae.pure hacc rfl ?_
     cases q with
     | true=>
       rw[if_neg (by decide)] at hr
       refine zgZ ?_
       exact⟨(i+1,e2),bl qsZ,⟨by simp only;omega,hr,by simp only;omega,by simp only;omega⟩,by simp only;omega⟩
     | false=>
       rw[if_pos (by decide)] at hr
       subst hr
       refine zgZ ?_
       exact au [] qsZ
    ·rw[if_neg (by simp[g9,h3])] at hr
     obtain⟨k',m',M',s',w',e',f'⟩:=t'
     simp only[WB] at hcall
     simp(disch:=try exact dI) only[hg,WZ,TFd.typ,WB,ap,push_cast,seval]
     refine ae.lentK hcall [0] rfl qsZ qsZ ?_
     simp(disch:=try exact dI) only[hg,WZ,Wt,WB,ap,h3,push_cast,seval]
     exact⟨(i+1,e2),bl qsZ,⟨by simp only;omega,hr,by simp only;omega,by simp only;omega⟩,by simp only;omega⟩
   ·rw[if_neg he0] at hr
    subst hr
    obtain⟨k',m',M',s',w',e',f'⟩:=t'
    simp only[WB] at hcall
    simp(disch:=try exact dI) only[hg,WZ,TFd.typ,WB,ap,push_cast,seval]
    refine ae.lentK hcall [0] rfl qsZ qsZ ?_
    simp(disch:=try exact dI) only[he0,push_cast,seval]
    exact au [] qsZ
  ·obtain rfl:i=f.length:=by omega
   rw[XX,dB] at hr
   subst hr
   simp(disch:=try exact dI) only[Int.lt_irrefl,push_cast,seval]
   exact au [] qsZ
 ·rw[if_neg hz]
  refine aP.intro Q63.2 (by simp[Q63]) ?_
  simp(disch:=try exact dI) only[Q63,hl0,hd8,push_cast,seval]
  refine ae.pure h143 rfl ?_
  simp(disch:=try exact dI) only[hz,push_cast,seval]
  exact au [] qsZ
theorem FJ:∀ n,n<=8->PF n
 | 0,_=>fun t d l ht hd hl hl2=>FI t d l (by omega) hl
 | n+1,hn=>fun t d l ht hd hl hl2=>by
   by_cases hl0:l=0
   ·subst hl0;exact FF n t d
   have ih:=FJ n (by omega)
   obtain⟨k,m,M,s,w,e,f⟩:=t
   by_cases hk:k=9
   ·subst hk;exact FH n ih m M s w e f d l ht hd (by omega) hl hl2 hl0
   ·exact FG n ih k m M s w e f d l ht hd (by omega) hl hl2 hl0 hk
theorem rn {k m M s:Int}{w:List (List UInt8)}{e:List Typ}{f:List TFd}(h:kN (.mk k m M s w e f)=0):(¬ k=8->e=[])/\(¬ (k=9\/k=10)->f=[]):=by
 rw[kN] at h
 by_cases a:inB k 1 10=false
 ·rw[if_pos a] at h;exact absurd h (by decide)
 rw[if_neg a] at h
 have hr:1<=k/\k<=10:=by simpa[inB] using a
 by_cases b:j7 k (.mk k m M s w e f)=true
 ·rw[if_pos b] at h;exact absurd h (by decide)
 have b':j7 k (.mk k m M s w e f)=false:=by simpa using b
 simp only[j7,j8,Bool.or_eq_false_iff] at b'
 obtain⟨_,_,_,b4,b5⟩:=b'
 refine⟨fun h8=>?_,fun h9=>?_⟩
 ·rw[decide_eq_false h8] at b4
  exact List.length_eq_zero_iff.1 (by simpa using b4)
 ·have h9':¬ 9<=k:=by omega
  rw[decide_eq_false h9'] at b5
  exact List.length_eq_zero_iff.1 (by simpa using b5)
theorem Ny {m M s:Int}{w:List (List UInt8)}{e:List Typ}{f:List TFd}(h:kN (.mk 8 m M s w e f)=0):m<=256:=by
 have hb:=(fw h).2.1
 unfold eh at hb
 rw[if_neg (fun hh=>absurd hh.1 (by decide))] at hb
 by_cases hc:(2<=(8:Int)/\(8:Int)<=8)/\(M<m\/m<loK 8\/hiK 8<M)
 ·rw[if_pos hc] at hb;exact absurd hb (by decide)
 ·have h2:¬ (M<m\/m<loK 8\/hiK 8<M):=fun hh=>hc ⟨by decide,hh⟩
  rw[show hiK 8=256 from rfl] at h2
  omega
theorem Nx {m M s:Int}{w:List (List UInt8)}{e:List Typ}{f:List TFd}(h:kN (.mk 10 m M s w e f)=0):∃ g r,f=g::r:=by
 have h1:=(fw h).2.2.1
 cases f with
 | cons g r=>exact⟨g,r,rfl⟩
 | nil=>simp[dx] at h1
theorem Ld {k m M s:Int}{w:List (List UInt8)}{e:List Typ}{f:List TFd}(h:kN (.mk k m M s w e f)=0):f.length<=64:=by
 have h1:=(fw h).2.2.1
 by_cases hc:64<f.length
 ·exfalso
  unfold dx at h1
  repeat' split at h1
  all_goals first | exact absurd h1 (by decide) | omega
 ·omega
theorem JX {n:Nat}{a:Int}{nm:List UInt8}{t:Typ}{x:Val}{r:List Val}(h:g9 n (.mk a nm 3 t (x::r))=false)(hx:x.ok):Qu x:=by
 have h1:accB n t x=true:=by simpa[g9,Aq] using h
 have h2:xS x=0:=by simp only[accB,WT,decide_eq_true_eq] at h1;exact h1.1
 have:=xT (bF (lvl x) 1 x) 0 (by omega) h2
 exact⟨hx,by omega⟩
theorem ld:∀ (n N:Nat) (t:Typ),n<=N->tyV n t->t.ok->fQ N t
 | 0,_,_,_,h,_=>h.elim
 | _+1,0,_,h,_,_=>absurd h (by omega)
 | n+1,N+1,.mk k m M s w e f,hN,h,ht=>by
   obtain⟨ho,h8,h9⟩:=h
   rw[WA] at ht
   obtain⟨_,_,_,_,_,_,t3,t5,t4,t6⟩:=ht
   refine⟨fun hk hm=>?_,fun hk=>?_,fun hk=>⟨Ld ho,fun g hg=>?_⟩⟩
   ·subst hk
    obtain⟨x,rfl⟩:=wv ho
    exact⟨Ny ho,x,[],rfl,ld n N x (by omega) (h8 rfl x (Xy ..)) (t5 x (Xy ..))⟩
   ·subst hk
    obtain⟨g,r,rfl⟩:=Nx ho
    exact⟨g,r,rfl,ld n N g.typ (by omega) (h9 (.inr rfl) g (Xy ..)).1 (oj (t6 g (Xy ..))).1⟩
   ·subst hk
    have hs:=ld n N g.typ (by omega) (h9 (.inl rfl) g hg).1 (oj (t6 g hg)).1
    obtain⟨b,hb⟩:=iG f [] (fw ho).2.2.2 g hg
    have hd:=(oj (t6 g hg)).2
    have hdf:=(h9 (.inl rfl) g hg).2 rfl
    obtain⟨n',nm',nd',t',d'⟩:=g
    refine⟨fun _=>hs,fun h3=>?_⟩
    subst h3
    obtain⟨x,r,rfl⟩:=oG hb
    exact⟨x,r,rfl,JX hdf (hd x (Xy ..))⟩
theorem Gc:∀ (n:Nat) (t:Typ),n<=9->tyV n t->t.ok->SM n t
 | 0,_,_,h,_=>h.elim
 | n+1,.mk k m M s w e f,hN,h,ht=>by
   have hs:=ld (n+1) 9 _ hN h ht
   obtain⟨ho,h8,h9⟩:=h
   obtain⟨he,hf⟩:=rn ho
   rw[WA] at ht
   obtain⟨_,_,_,_,_,_,t3,t5,t4,t6⟩:=ht
   refine⟨hs,by omega,by omega,fun x hx=>?_,fun g hg=>?_⟩
   ·by_cases hk:k=8
    ·exact Gc n x (by omega) (h8 hk x hx) (t5 x hx)
    ·rw[he hk] at hx;cases hx
   ·by_cases hk:k=9\/k=10
    ·exact Gc n g.typ (by omega) (h9 hk g hg).1 (oj (t6 g hg)).1
    ·rw[hf hk] at hg;cases hg
noncomputable def qu (t:Typ):Int:=if (dr 0 8 4096 t).1=0 then (if 4096<eV 8 t then 9 else 0) else (dr 0 8 4096 t).1
theorem u7 (t:Typ)(ht:t.ok):am Tryz.prog aC 31 [t.pv] (.int .i64 (qu t)):=by
 have h94:=FJ 8 (by omega) t 1 4096 ht (by omega) (by omega) (by omega)
 have h95:(dr 0 8 4096 t).1=0->am Tryz.prog aC 64 [t.pv] (.int .i64 (eV 8 t)):=fun h=>io 8 t (Gc 8 t (by omega) (ni 8 4096 t h) ht)
 simp only[qu]
 obtain⟨⟨z,L⟩,hq⟩:∃ q,q=dr 0 8 4096 t:=⟨_,rfl⟩
 rw[<- hq] at h94 h95 ⊢
 simp only at h94 h95 ⊢
 clear hq
 generalize eV 8 t=G at h95 ⊢
 obtain⟨k,m,M,s,w,e,f⟩:=t
 simp only[WB] at h94 h95
 refine am.intro Q31.2 (by simp[Q31]) ?_
 by_cases hz:z=0
 ·subst hz
  have h95:=h95 rfl
  rw[if_pos rfl]
  by_cases hg:4096<G
  ·rw[if_pos hg]
   simp(disch:=try exact dI) only[Q31,WB,push_cast,seval]
   refine ae.lentK h94 [1] rfl qsZ qsZ ?_
   refine zgZ ?_
   refine ae.pure h95 rfl ?_
   simp(disch:=try exact dI) only[hg,push_cast,seval]
  ·rw[if_neg hg]
   simp(disch:=try exact dI) only[Q31,WB,push_cast,seval]
   refine ae.lentK h94 [1] rfl qsZ qsZ ?_
   refine zgZ ?_
   refine ae.pure h95 rfl ?_
   simp(disch:=try exact dI) only[hg,push_cast,seval]
 ·rw[if_neg hz]
  simp(disch:=try exact dI) only[Q31,WB,push_cast,seval]
  refine ae.lentK h94 [1] rfl qsZ qsZ ?_
  simp(disch:=try exact dI) only[hz,push_cast,seval]
noncomputable def OP (t:Typ)(R:Rd):Typ×Int×Int:=
 if R.e=0 then (if qu t=0 then (t,0,0) else (bX,(R.off:Int),qu t)) else (bX,(R.off:Int),R.e)
noncomputable def jW (s:List UInt8):Typ×Int×Int:=OP (cj (aS srt 8 0) 8 (cL s)).1 (ka (cj (aS srt 8 0) 8 (cL s)).2)
theorem CG {v:Val}(hc:xS v=0)(s:List UInt8):bJ s 8 0 v (txt v):=by
 obtain⟨f,e,h⟩:=wj s (lvl v) 1 v (fJ _ v (iC v)) (HC ((u6 v).symm.trans hc)) (by omega)
 obtain rfl:f=7:=by omega
 exact h
theorem lH:∀ (l:List (List UInt8)) (p:Option (List UInt8)),fN p l=0->∀ x∈l,Lib.validD x=true
 | [],_,_,x,hx=>by cases hx
 | w::r,p,h,x,hx=>by
   rw[fN] at h
   have h0:kJ w=0:=by
    by_cases q:kJ w=0
    ·exact q
    ·rw[if_neg q] at h;exact absurd h q
   rw[if_pos h0] at h
   by_cases q1:p=some w
   ·rw[if_pos q1] at h;exact absurd h (by decide)
   rw[if_neg q1] at h
   by_cases q2:(p.any fun q=>cK w q)=true
   ·rw[if_pos q2] at h;exact absurd h (by decide)
   rw[if_neg q2] at h
   rcases W9.1 hx with rfl | hx
   ·unfold kJ at h0
    split at h0
    ·split at h0
     ·assumption
     ·exact absurd h0 (by decide)
    ·exact absurd h0 ‹_›
   ·exact lH r (some w) h x hx
theorem pX {k:Int}{b:List TFd}{n:Int}{nm:List UInt8}{nd:Int}{t:Typ}{d:List Val}(h:eu k b (.mk n nm nd t d)=0) :
  bz nm=true/\(1<=n/\n<=9999)/\(1<=nd/\nd<=3)/\(k=10->nd=1)/\(nd=3->∃ v,d=[v])/\(¬ nd=3->d=[]):=by
 rw[eu] at h
 split at h
 ·exact absurd h (by decide)
 rename_i c1
 split at h
 ·exact absurd h (by decide)
 rename_i c2
 split at h
 ·exact absurd h (by decide)
 split at h
 ·exact absurd h (by decide)
 rename_i c4
 split at h
 ·exact absurd h (by decide)
 rename_i c5
 split at h
 ·exact absurd h (by decide)
 rename_i c6
 split at h
 ·exact absurd h (by decide)
 rename_i c7
 split at h
 ·exact absurd h (by decide)
 rename_i c8
 have d2:inB n 1 9999=true:=by cases q:inB n 1 9999<;>simp_all
 have d4:inB nd 1 3=true:=by cases q:inB nd 1 3<;>simp_all
 unfold inB at d2 d4
 simp only[WT,decide_eq_true_eq] at d2 d4
 refine⟨by cases q:bz nm<;>simp_all,d2,d4,fun q=>Classical.byContradiction fun x=>c5 ⟨q,x⟩,fun q=>?_,fun q=>?_⟩
 ·match d,c6,c7 with
  | [],c6,_=>exact absurd ⟨q,rfl⟩ c6
  | [v],_,_=>exact⟨v,rfl⟩
  | _::_::_,_,c7=>exact absurd (by simp) c7
 ·match d,c8 with
  | [],_=>rfl
  | _::_,c8=>exact absurd ⟨q,by simp⟩ c8
theorem gF {k:Int}:∀ (l b:List TFd),cW k b l=0->∀ g∈l,∃ b',eu k b' g=0
 | [],_,_,g,hg=>by cases hg
 | x::r,b,h,g,hg=>by
   rw[cW] at h
   split at h
   ·rename_i c
    rcases W9.1 hg with rfl | hg
    ·exact⟨b,c⟩
    ·exact gF r _ h g hg
   ·exact absurd h ‹_›
theorem RK {b1 b2 b3 b4 b5:Bool}{k m M s:Int}{w:List (List UInt8)}{e:List Typ}{f:List TFd}(h:¬ j8 b1 b2 b3 b4 b5 (.mk k m M s w e f)=true) :
  (b1=false->m=0/\M=0)/\(b2=false->s=0)/\(b3=false->w=[])/\(b4=false->e=[])/\(b5=false->f=[]):=by
 rw[j8] at h
 have len0:∀ {α:Type} {l:List α},decide (l.length=0)=true->l=[]:=fun q=>List.eq_nil_of_length_eq_zero (of_decide_eq_true q)
 refine⟨fun q=>?_,fun q=>?_,fun q=>?_,fun q=>?_,fun q=>?_⟩
 ·subst q
  refine⟨Classical.byContradiction fun x=>h ?_,Classical.byContradiction fun x=>h ?_⟩<;>simp[x]
 ·subst q;exact Classical.byContradiction fun x=>h (by simp[x])
 ·subst q;exact Classical.byContradiction fun x=>h (by simp[x])
 ·subst q;exact Classical.byContradiction fun x=>h (by simp[x])
 ·subst q;exact Classical.byContradiction fun x=>h (by simp[x])
theorem NA {k m M s:Int}{w:List (List UInt8)}{e:List Typ}{f:List TFd}(h:kN (.mk k m M s w e f)=0) :
  (1<=k/\k<=10)/\¬ j7 k (.mk k m M s w e f)=true/\eh k m M s w=0/\dx k e.length f.length=0/\cW k [] f=0:=by
 rw[kN] at h
 split at h
 ·exact absurd h (by decide)
 rename_i c1
 split at h
 ·exact absurd h (by decide)
 rename_i c2
 split at h
 ·exact absurd h ‹_›
 rename_i c3
 split at h
 ·exact absurd h ‹_›
 rename_i c4
 have d1:inB k 1 10=true:=by cases q:inB k 1 10<;>simp_all
 unfold inB at d1
 simp only[WT,decide_eq_true_eq] at d1
 exact⟨d1,c2,Classical.not_not.1 c3,Classical.not_not.1 c4,h⟩
theorem uI {rec:Int->Typ->Int×Int}:∀ (l:List Typ) (n:Int),(d6 rec n l).1=0->∀ x∈l,∃ n',(rec n' x).1=0
 | [],_,_,x,hx=>by cases hx
 | t::r,n,h,x,hx=>by
   rw[d6] at h
   split at h
   ·rename_i c
    rcases W9.1 hx with rfl | hx
    ·exact⟨n,c⟩
    ·exact uI r _ h x hx
   ·exact absurd h ‹_›
theorem ES {N:Nat}{rec:Int->Typ->Int×Int}:∀ (l:List TFd) (n:Int),(dB N rec n l).1=0->∀ g∈l,¬ g9 N g=true/\∃ n',(rec n' g.typ).1=0
 | [],_,_,x,hx=>by cases hx
 | t::r,n,h,x,hx=>by
   rw[dB] at h
   split at h
   ·rename_i c
    split at h
    ·exact absurd h (by simp)
    rename_i c'
    rcases W9.1 hx with rfl | hx
    ·exact⟨c',n,c⟩
    ·exact ES r _ h x hx
   ·exact absurd h ‹_›
theorem Fo {N:Nat}{n:Int}{nm:List UInt8}{t:Typ}{v:Val}(h:¬ g9 N (.mk n nm 3 t [v])=true):xS v=0:=by
 unfold g9 Aq accB at h
 by_cases q:xS v=0
 ·exact q
 ·exact absurd (by simp[q]) h
theorem SI {k m M s:Int}{w:List (List UInt8)}(h:eh k m M s w=0):(k=4->w≠[]->(m=0/\M=0)/\∀ x∈w,Lib.validD x=true) /\
  ((2<=k/\k<=8)->(k=4->w=[])->m<=M/\loK k<=m/\M<=hiK k)/\(k=3->0<=s/\s<=12):=by
 unfold eh at h
 split at h
 ·rename_i c
  refine⟨fun _ _=>?_,fun _ q=>?_,fun q=>?_⟩
  ·unfold dU at h
   split at h
   ·exact absurd h (by decide)
   rename_i c1
   split at h
   ·exact absurd h (by decide)
   exact⟨Classical.not_not.1 c1,lH _ _ h⟩
  ·have:=q c.1
   rw[this] at c
   exact absurd c.2 (by simp)
  ·omega
 ·rename_i c
  split at h
  ·exact absurd h (by decide)
  rename_i c1
  split at h
  ·exact absurd h (by decide)
  rename_i c2
  refine⟨fun q q'=>absurd ⟨q,List.length_pos_iff.2 q'⟩ c,fun q _=>?_,fun q=>?_⟩
  ·have:=fun x=>c1 ⟨q,x⟩
   omega
  ·have d:inB s 0 12=true:=by cases q:inB s 0 12<;>simp_all
   unfold inB at d
   simpa using d
theorem gW:∀ (n:Nat) (l:Int) (t:Typ),(dr 0 n l t).1=0->sR n t
 | 0,l,t,h=>by
   rw[dr] at h
   split at h<;>exact absurd h (by simp)
 | n+1,l,.mk k m M s w e f,h=>by
   rw[dr] at h
   split at h
   ·exact absurd h (by simp)
   split at h
   ·rename_i c
    obtain⟨h1,h2,h3,h4,h5⟩:=NA c
    unfold j7 at h2
    obtain⟨f1,f2,f3,f4,f5⟩:=RK h2
    obtain⟨b1,b2,b3⟩:=SI h3
    have s0:¬ k=3->s=0:=fun q=>f2 (decide_eq_false q)
    have w0:¬ k=4->w=[]:=fun q=>f3 (decide_eq_false q)
    have e0:¬ k=8->e=[]:=fun q=>f4 (decide_eq_false q)
    have x0:¬ 9<=k->f=[]:=fun q=>f5 (decide_eq_false q)
    have m0:¬ (2<=k/\k<=8)->m=0/\M=0:=fun q=>f1 (by
     by_cases q1:2<=k
     ·rw[decide_eq_true q1,decide_eq_false (fun q2=>q ⟨q1,q2⟩)];rfl
     ·rw[decide_eq_false q1];rfl)
    unfold sR
    have hk:k=1\/(k=2\/k=5)\/k=3\/k=4\/k=6\/k=7\/k=8\/k=9\/k=10:=by omega
    rcases hk with hk | hk | hk | hk | hk | hk | hk | hk | hk
    ·obtain⟨q1,q2⟩:=m0 (by omega)
     exact .inl ⟨hk,q1,q2,s0 (by omega),w0 (by omega),e0 (by omega),x0 (by omega)⟩
    ·have b:=b2 (by omega) (fun q=>by omega)
     refine .inr (.inl ⟨by omega,?_,?_,s0 (by omega),w0 (by omega),e0 (by omega),x0 (by omega)⟩) <;>
      (unfold IsN;rcases hk with rfl | rfl<;>simp[loK,hiK] at b<;>omega)
    ·have b:=b2 (by omega) (fun q=>by omega)
     have b':=b3 hk
     subst hk
     simp[loK,hiK] at b
     refine .inr (.inr (.inl ⟨rfl,b'.1,?_,?_,?_,w0 (by omega),e0 (by omega),x0 (by omega)⟩))<;>(unfold IsN;omega)
    ·by_cases hw:w=[]
     ·have b:=b2 (by omega) (fun q=>hw)
      subst hk
      simp[loK,hiK] at b
      refine .inr (.inl ⟨by omega,?_,?_,s0 (by omega),hw,e0 (by omega),x0 (by omega)⟩)<;>(unfold IsN;omega)
     ·obtain⟨q1,q2⟩:=b1 hk hw
      exact .inr (.inr (.inr (.inl ⟨hk,q1.1,q1.2,s0 (by omega),hw,q2,e0 (by omega),x0 (by omega)⟩)))
    ·have b:=b2 (by omega) (fun q=>by omega)
     subst hk
     simp[loK,hiK] at b
     exact .inr (.inr (.inr (.inr (.inl ⟨rfl,by omega,by omega,s0 (by omega),w0 (by omega),e0 (by omega),x0 (by omega)⟩))))
    ·have b:=b2 (by omega) (fun q=>by omega)
     subst hk
     simp[loK,hiK] at b
     exact .inr (.inr (.inr (.inr (.inr (.inl ⟨rfl,by omega,by omega,s0 (by omega),w0 (by omega),e0 (by omega),x0 (by omega)⟩)))))
    ·have b:=b2 (by omega) (fun q=>by omega)
     subst hk
     simp[loK,hiK] at b
     have he:∃ x,e=[x]:=by
      unfold dx at h4
      match e,h4 with
      | [],h4=>exact absurd h4 (by simp)
      | [x],_=>exact⟨x,rfl⟩
      | _::_::_,h4=>exact absurd h4 (by simp)
     obtain⟨x,rfl⟩:=he
     rw[if_neg (by decide)] at h
     obtain⟨l',hx⟩:=uI _ _ h x (by simp[ca])
     refine .inr (.inr (.inr (.inr (.inr (.inr (.inl ⟨rfl,?_,?_,s0 (by omega),w0 (by omega),⟨x,rfl,gW n l' x hx⟩,x0 (by omega)⟩))))))<;>(unfold IsN;omega)
    ·obtain⟨q1,q2⟩:=m0 (by omega)
     rw[if_pos hk] at h
     refine .inr (.inr (.inr (.inr (.inr (.inr (.inr ⟨.inl hk,q1,q2,s0 (by omega),w0 (by omega),e0 (by omega),fun g hg=>?_⟩))))))
     obtain⟨d0,l',ht⟩:=ES _ _ h g hg
     obtain⟨b',hb⟩:=gF _ _ h5 g hg
     obtain⟨num,nm,nd,typ,d⟩:=g
     obtain⟨g1,g2,g3,g4,g5,g6⟩:=pX hb
     refine⟨by simp only[TFd.number];unfold IsN;omega,g1,gW n l' typ ht,?_⟩
     have hnd:nd=1\/nd=2\/nd=3:=by omega
     rcases hnd with q | q | q
     ·exact .inl ⟨q,g6 (by omega)⟩
     ·exact .inr (.inl ⟨q,g6 (by omega)⟩)
     ·obtain⟨v,rfl⟩:=g5 q
      subst q
      exact .inr (.inr ⟨rfl,v,rfl,fun s=>CG (Fo d0) s⟩)
    ·obtain⟨q1,q2⟩:=m0 (by omega)
     rw[if_neg (by omega)] at h
     refine .inr (.inr (.inr (.inr (.inr (.inr (.inr ⟨.inr hk,q1,q2,s0 (by omega),w0 (by omega),e0 (by omega),fun g hg=>?_⟩))))))
     obtain⟨l',ht⟩:=uI _ _ h g.typ (by simp only[ca];rw[if_neg (by omega),if_pos (.inr hk)];exact Xo.2 ⟨g,hg,rfl⟩)
     obtain⟨b',hb⟩:=gF _ _ h5 g hg
     obtain⟨num,nm,nd,typ,d⟩:=g
     obtain⟨g1,g2,g3,g4,g5,g6⟩:=pX hb
     have:=g4 hk
     exact⟨by simp only[TFd.number];unfold IsN;omega,g1,gW n l' typ ht,.inl ⟨this,g6 (by omega)⟩⟩
   ·exact absurd h ‹_›
theorem pf {t:Typ}(h:qu t=0):sR 8 t:=by
 unfold qu at h
 split at h
 ·rename_i c;exact gW 8 4096 t c
 ·exact absurd h ‹_›
theorem yB {t:Typ}(h:qu t=0)(hl:(aI 8 t).length<=65536):(cj (aS srt 8 0) 8 (cL (aI 8 t))).1=t/\(ka (cj (aS srt 8 0) 8 (cL (aI 8 t))).2).e=0:=by
 have hk:=pm (aI 8 t) 8 t (pf h) 0 [] (by simp) (fun c hc=>by cases hc)
 rw[Nat.zero_add] at hk
 rw[HB hl,hk]
 have hf:ka (A (aI 8 t) (aI 8 t).length)=⟨aI 8 t,(aI 8 t).length,{ pos:=(aI 8 t).length },0,0⟩:=by rw[S9 (Nat.le_refl _)];rfl
 exact⟨rfl,by simp only;rw[hf]⟩
theorem tg {t:Typ}(h:qu t=0)(hl:(aI 8 t).length<=65536):jW (aI 8 t)=(t,0,0):=by
 obtain⟨e1,e2⟩:=yB h hl
 unfold jW OP
 rw[e1,if_pos e2,if_pos h]
