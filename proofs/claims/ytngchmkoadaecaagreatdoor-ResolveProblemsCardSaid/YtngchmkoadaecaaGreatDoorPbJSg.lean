/- A part. -/
import Derived.Test.YtngchmkoadaecaaGreatDoorPbJSd
set_option linter.unusedVariables false
set_option linter.unusedSimpArgs false
set_option maxHeartbeats 16000000
set_option maxRecDepth 100000
open List renaming getElem?_eq_getElem->WT,mem_of_getElem?->WV,mem_cons_self->X6
open Option renaming map_some->Xm
namespace Go.Proofs.YtngchmkoadaecaaGreatDoor
open Go Go.Ab
attribute [local irreducible] vc
def Pt (n:Nat):Prop:=∀ (t:Typ) (d l:Int),t.ok->d+n=9->0<=l->l<=4096 ->
 bz Tryz.prog aC 1 110 [.pv t.pv,.pv (.int .i64 d),.ptr 0 0] [.cells 3 true [.pv (.int .i64 l)]] (.pv (.int .i64 (f6 0 n l t).1)) [.cells 3 true [.pv (.int .i64 (f6 0 n l t).2)]]
theorem lW {g:TFd}(h:g.ok):g.typ.ok/\∀ v∈g.dflt,v.ok:=by
 obtain⟨a1,a2,a3,a4,a5⟩:=g
 rw[WI] at h
 exact⟨h.2.2.2.1,h.2.2.2.2.2⟩
theorem KE {k m M s:Int}{w:List (List UInt8)}{e:List Typ}{f:List TFd}(h:(Typ.mk k m M s w e f).ok):ap Tryz.prog aC 130 [(Typ.mk k m M s w e f).pv] (.int .i64 (lf (.mk k m M s w e f)))/\ap Tryz.prog aC 131 [(Typ.mk k m M s w e f).pv] (.list ((da (.mk k m M s w e f)).map Typ.pv))/\(∀ x∈da (.mk k m M s w e f),x.ok)/\(da (.mk k m M s w e f)).length<=9000000000000:=by
 rw[WN] at h
 obtain⟨_,_,_,_,h1,h2,h3,h4,h5,h6⟩:=h
 refine⟨QQ m M s w e f k (fun x hx=>by have:=h2 x hx;omega) (by omega) (by omega) (by omega),HR k m M s w e f (by omega),?_⟩
 by_cases h8:k=8
 ·rw[show da (.mk k m M s w e f)=e from if_pos h8]
  exact⟨h4,by omega⟩
 ·by_cases h9:k=9\/k=10
  ·rw[show da (.mk k m M s w e f)=f.map TFd.typ by simp only[da];rw[if_neg h8,if_pos h9]]
   refine⟨fun x hx=>?_,by rw[List.length_map];omega⟩
   obtain⟨g,hg,rfl⟩:=List.mem_map.1 hx
   exact (lW (h6 g hg)).1
  ·rw[show da (.mk k m M s w e f)=[] by simp only[da];rw[if_neg h8,if_neg h9]]
   exact⟨fun x hx=>(by cases hx),by simp⟩
theorem EN (t:Typ)(d l:Int)(hd:d=9)(hl:0<=l):bz Tryz.prog aC 1 110 [.pv t.pv,.pv (.int .i64 d),.ptr 0 0] [.cells 3 true [.pv (.int .i64 l)]] (.pv (.int .i64 (f6 0 0 l t).1)) [.cells 3 true [.pv (.int .i64 (f6 0 0 l t).2)]]:=by
 subst hd
 rw[f6]
 obtain⟨k',m',M',s',w',e',f'⟩:=t
 simp only[WO]
 by_cases h0:l=0
 ·subst h0
  rw[if_pos rfl]
  refine bz.intro lC.2 (by simp[lC]) ?_
  simp(maxSteps:=9^7) (disch:=try exact dI) only[lC,push_cast,seval]
  exact aH [] qsZ
 ·rw[if_neg h0]
  refine bz.intro lC.2 (by simp[lC]) ?_
  simp(maxSteps:=9^7) (disch:=try exact dI) only[lC,h0,Int.sub_zero,push_cast,seval]
  exact aH [] qsZ
theorem EK (n:Nat)(t:Typ)(d:Int):bz Tryz.prog aC 1 110 [.pv t.pv,.pv (.int .i64 d),.ptr 0 0] [.cells 3 true [.pv (.int .i64 0)]] (.pv (.int .i64 (f6 0 (n+1) 0 t).1)) [.cells 3 true [.pv (.int .i64 (f6 0 (n+1) 0 t).2)]]:=by
 obtain⟨k',m',M',s',w',e',f'⟩:=t
 rw[f6,if_pos rfl]
 simp only[WO]
 refine bz.intro lC.2 (by simp[lC]) ?_
 simp(maxSteps:=9^7) (disch:=try exact dI) only[lC,push_cast,seval]
 exact aH [] qsZ
theorem EL (n:Nat)(ih:Pt n)(k m M s:Int)(w:List (List UInt8))(e:List Typ)(f:List TFd)(d l:Int)(ht:(Typ.mk k m M s w e f).ok)(hdn:d+(n+1:Nat)=9)(hd:1<=d)(hl:0<=l)(hl2:l<=4096)(hl0:¬ l=0)(hk:¬ k=9) :
  bz Tryz.prog aC 1 110 [.pv (Typ.mk k m M s w e f).pv,.pv (.int .i64 d),.ptr 0 0] [.cells 3 true [.pv (.int .i64 l)]] (.pv (.int .i64 (f6 0 (n+1) l (.mk k m M s w e f)).1)) [.cells 3 true [.pv (.int .i64 (f6 0 (n+1) l (.mk k m M s w e f)).2)]]:=by
 obtain⟨h143,h144,hpt,hpl⟩:=KE ht
 have hd8:¬ 8<d:=by omega
 rw[f6,if_neg hl0,if_neg hk]
 generalize da (.mk k m M s w e f)=ps at *
 generalize lf (.mk k m M s w e f)=z at *
 simp only[WO] at h143 h144 ⊢
 by_cases hz:z=0
 ·subst hz
  rw[if_pos rfl]
  obtain⟨R,hR⟩:∃ R,R=iE (f6 0 n) (l - 1) ps:=⟨_,rfl⟩
  rw[<- hR]
  refine bz.intro lC.2 (by simp[lC]) ?_
  simp(maxSteps:=9^7) (disch:=try exact dI) only[lC,hl0,hd8,push_cast,seval]
  refine ab.pure h143 rfl ?_
  simp(maxSteps:=9^7) (disch:=try exact dI) only[push_cast,seval]
  refine ab.pure h144 rfl ?_
  simp(maxSteps:=9^7) (disch:=try exact dI) only[push_cast,seval]
  refine au ([]) (fun x:Nat×Int=>[(32,.pv (.int .i64 (x.1:Int)))]) (fun x=>[(0,.cells 3 true [.pv (.int .i64 x.2)])]) (fun x=>x.1<=ps.length/\R=iE (f6 0 n) x.2 (ps.drop x.1)/\0<=x.2/\x.2<=4096) (fun x=>ps.length - x.1) ((0,l - 1)) ?_;intro e0 σ0 n0 h0;simp(maxSteps:=9^7) (disch:=try exact dI) only[push_cast,seval] at h0;obtain⟨rfl,rfl,rfl⟩:=h0;refine⟨?_,?_,?_⟩
  ·simp(maxSteps:=9^7) (disch:=try exact dI) only[push_cast,seval]
  ·exact⟨by simp,by simpa using hR,by simp only;omega,by simp only;omega⟩
  rintro⟨i,L⟩ ⟨hi,hr,hL,hL2⟩
  simp only at hi hr hL hL2
  by_cases hlt:i<ps.length
  ·have hltI:(i:Int)<(ps.length:Int):=by omega
   obtain⟨x,hx⟩:∃ x,ps[i]? = some x:=⟨_,WT hlt⟩
   have hxm:=WV hx
   have hcall:=ih x (d+1) L (hpt x hxm) (by omega) hL hL2
   have hleft:=g6 (δ:=0) (by decide) n x L hL hL2
   rw[yw hx] at hr
   obtain⟨⟨e1,e2⟩,he⟩:∃ q,q=f6 0 n L x:=⟨_,rfl⟩
   rw[<- he] at hcall hleft hr
   simp only at hcall hleft hr
   obtain⟨k',m',M',s',w',e',f'⟩:=x
   simp only[WO] at hcall
   simp(maxSteps:=9^7) (disch:=try exact dI) only[hx,Xm,WO,ae,push_cast,seval]
   refine ab.lentK hcall [0] rfl qsZ qsZ ?_
   by_cases he0:e1=0
   ·subst he0
    rw[if_pos rfl] at hr
    simp(maxSteps:=9^7) (disch:=try exact dI) only[hk,push_cast,seval]
    exact⟨(i+1,e2),aJ qsZ,⟨by simp only;omega,hr,by simp only;omega,by simp only;omega⟩,by simp only;omega⟩
   ·rw[if_neg he0] at hr
    subst hr
    simp(maxSteps:=9^7) (disch:=try exact dI) only[he0,push_cast,seval]
    exact aH [] qsZ
  ·obtain rfl:i=ps.length:=by omega
   rw[List.drop_length,iE] at hr
   subst hr
   simp(maxSteps:=9^7) (disch:=try exact dI) only[Int.lt_irrefl,push_cast,seval]
   exact aH [] qsZ
 ·rw[if_neg hz]
  refine bz.intro lC.2 (by simp[lC]) ?_
  simp(maxSteps:=9^7) (disch:=try exact dI) only[lC,hl0,hd8,push_cast,seval]
  refine ab.pure h143 rfl ?_
  simp(maxSteps:=9^7) (disch:=try exact dI) only[hz,push_cast,seval]
  exact aH [] qsZ
theorem EM (n:Nat)(ih:Pt n)(m M s:Int)(w:List (List UInt8))(e:List Typ)(f:List TFd)(d l:Int)(ht:(Typ.mk 9 m M s w e f).ok)(hdn:d+(n+1:Nat)=9)(hd:1<=d)(hl:0<=l)(hl2:l<=4096)(hl0:¬ l=0) :
  bz Tryz.prog aC 1 110 [.pv (Typ.mk 9 m M s w e f).pv,.pv (.int .i64 d),.ptr 0 0] [.cells 3 true [.pv (.int .i64 l)]] (.pv (.int .i64 (f6 0 (n+1) l (.mk 9 m M s w e f)).1)) [.cells 3 true [.pv (.int .i64 (f6 0 (n+1) l (.mk 9 m M s w e f)).2)]]:=by
 obtain⟨h143,h144,hpt,hpl⟩:=KE ht
 have hown:=eH (k:=9) (m:=m) (M:=M) (s:=s) (w:=w) (e:=e) (f:=f)
 rw[show da (.mk 9 m M s w e f)=f.map TFd.typ from rfl] at h144 hpt
 rw[WN] at ht
 have hd8:¬ 8<d:=by omega
 rw[f6,if_neg hl0,if_pos rfl]
 generalize lf (.mk 9 m M s w e f)=z at *
 simp only[WO] at h143 h144 ⊢
 by_cases hz:z=0
 ·have hfl:=(hown hz).2.2.2
  clear hown
  subst hz
  rw[if_pos rfl]
  obtain⟨R,hR⟩:∃ R,R=gx n (f6 0 n) (l - 1) f:=⟨_,rfl⟩
  rw[<- hR]
  refine bz.intro lC.2 (by simp[lC]) ?_
  simp(maxSteps:=9^7) (disch:=try exact dI) only[lC,hl0,hd8,push_cast,seval]
  refine ab.pure h143 rfl ?_
  simp(maxSteps:=9^7) (disch:=try exact dI) only[push_cast,seval]
  refine ab.pure h144 rfl ?_
  simp(maxSteps:=9^7) (disch:=try exact dI) only[push_cast,seval]
  refine au ([]) (fun x:Nat×Int=>[(32,.pv (.int .i64 (x.1:Int)))]) (fun x=>[(0,.cells 3 true [.pv (.int .i64 x.2)])]) (fun x=>x.1<=f.length/\R=gx n (f6 0 n) x.2 (f.drop x.1)/\0<=x.2/\x.2<=4096) (fun x=>f.length - x.1) ((0,l - 1)) ?_;intro e0 σ0 n0 h0;simp(maxSteps:=9^7) (disch:=try exact dI) only[push_cast,seval] at h0;obtain⟨rfl,rfl,rfl⟩:=h0;refine⟨?_,?_,?_⟩
  ·simp(maxSteps:=9^7) (disch:=try exact dI) only[push_cast,seval]
  ·exact⟨by simp,by simpa using hR,by simp only;omega,by simp only;omega⟩
  rintro⟨i,L⟩ ⟨hi,hr,hL,hL2⟩
  simp only at hi hr hL hL2
  by_cases hlt:i<f.length
  ·have hltI:(i:Int)<(f.length:Int):=by omega
   obtain⟨g,hg⟩:∃ g,f[i]? = some g:=⟨_,WT hlt⟩
   have hgm:=WV hg
   have hgt:=hpt g.typ (List.mem_map_of_mem hgm)
   have hcall:=ih g.typ (d+1) L hgt (by omega) hL hL2
   have hleft:=g6 (δ:=0) (by decide) n g.typ L hL hL2
   have hty:=kO (δ:=0) n L g.typ
   have hfe:=gz f [] hfl g hgm
   have hgd:=(lW (ht.2.2.2.2.2.2.2.2.2 g hgm)).2
   rw[yG hg] at hr
   obtain⟨⟨e1,e2⟩,he⟩:∃ q,q=f6 0 n L g.typ:=⟨_,rfl⟩
   rw[<- he] at hcall hleft hr hty
   clear he
   obtain⟨n',nm',nd',t',d'⟩:=g
   simp only[TFd.typ,TFd.dflt] at hcall hleft hr hty hgt hgd
   by_cases he0:e1=0
   ·subst he0
    rw[if_pos rfl] at hr
    by_cases h3:nd'=3
    ·subst h3
     obtain⟨b,hb⟩:=hfe
     obtain⟨x,r,rfl⟩:=mj hb
     have hx1:=hgd x (X6 ..)
     have hacc:=Ag n t' x hx1 (fun hc=>nj n (lvl x) t' x (hty rfl) hgt (Gi (m8 x) hc) hx1)
     simp only[ly,DI,decide_true,Bool.true_and] at hr
     generalize accB n t' x=q at hacc hr
     obtain⟨k',m',M',s',w',e',f'⟩:=t'
     obtain⟨vk,vn,vs,vt,vl,vf⟩:=x
     simp only[WO,WQ] at hcall hacc
     simp(maxSteps:=9^7) (disch:=try exact dI) only[hg,Xm,TFd.typ,WO,ae,push_cast,seval]
     refine ab.lentK hcall [0] rfl qsZ qsZ ?_
     simp(maxSteps:=9^7) (disch:=try exact dI) only[hg,Xm,WJ,WO,WQ,ae,cP,push_cast,seval]
     refine ab.pure hacc rfl ?_
     cases q with
     | true=>
       rw[if_neg (by decide)] at hr
       simp(maxSteps:=9^7) (disch:=try exact dI) only[push_cast,seval]
       exact⟨(i+1,e2),aJ qsZ,⟨by simp only;omega,hr,by simp only;omega,by simp only;omega⟩,by simp only;omega⟩
     | false=>
       rw[if_pos (by decide)] at hr
       subst hr
       simp(maxSteps:=9^7) (disch:=try exact dI) only[push_cast,seval]
       exact aH [] qsZ
    ·rw[if_neg (by simp[ly,h3])] at hr
     obtain⟨k',m',M',s',w',e',f'⟩:=t'
     simp only[WO] at hcall
     simp(maxSteps:=9^7) (disch:=try exact dI) only[hg,Xm,TFd.typ,WO,ae,push_cast,seval]
     refine ab.lentK hcall [0] rfl qsZ qsZ ?_
     simp(maxSteps:=9^7) (disch:=try exact dI) only[hg,Xm,WJ,WO,ae,h3,push_cast,seval]
     exact⟨(i+1,e2),aJ qsZ,⟨by simp only;omega,hr,by simp only;omega,by simp only;omega⟩,by simp only;omega⟩
   ·rw[if_neg he0] at hr
    subst hr
    obtain⟨k',m',M',s',w',e',f'⟩:=t'
    simp only[WO] at hcall
    simp(maxSteps:=9^7) (disch:=try exact dI) only[hg,Xm,TFd.typ,WO,ae,push_cast,seval]
    refine ab.lentK hcall [0] rfl qsZ qsZ ?_
    simp(maxSteps:=9^7) (disch:=try exact dI) only[he0,push_cast,seval]
    exact aH [] qsZ
  ·obtain rfl:i=f.length:=by omega
   rw[List.drop_length,gx] at hr
   subst hr
   simp(maxSteps:=9^7) (disch:=try exact dI) only[Int.lt_irrefl,push_cast,seval]
   exact aH [] qsZ
 ·rw[if_neg hz]
  refine bz.intro lC.2 (by simp[lC]) ?_
  simp(maxSteps:=9^7) (disch:=try exact dI) only[lC,hl0,hd8,push_cast,seval]
  refine ab.pure h143 rfl ?_
  simp(maxSteps:=9^7) (disch:=try exact dI) only[hz,push_cast,seval]
  exact aH [] qsZ
theorem EO:∀ n,n<=8->Pt n
 | 0,_=>fun t d l ht hd hl hl2=>EN t d l (by omega) hl
 | n+1,hn=>fun t d l ht hd hl hl2=>by
   by_cases hl0:l=0
   ·subst hl0;exact EK n t d
   have ih:=EO n (by omega)
   obtain⟨k,m,M,s,w,e,f⟩:=t
   by_cases hk:k=9
   ·subst hk;exact EM n ih m M s w e f d l ht hd (by omega) hl hl2 hl0
   ·exact EL n ih k m M s w e f d l ht hd (by omega) hl hl2 hl0 hk
theorem Cx {k m M s:Int}{w:List (List UInt8)}{e:List Typ}{f:List TFd}(h:lf (.mk k m M s w e f)=0):(¬ k=8->e=[])/\(¬ (k=9\/k=10)->f=[]):=by
 rw[lf] at h
 by_cases a:inB k 1 10=false
 ·rw[if_pos a] at h;exact absurd h (by decide)
 rw[if_neg a] at h
 have hr:1<=k/\k<=10:=by simpa[inB] using a
 by_cases b:kv k (.mk k m M s w e f)=true
 ·rw[if_pos b] at h;exact absurd h (by decide)
 have b':kv k (.mk k m M s w e f)=false:=by simpa using b
 simp only[kv,aO,Bool.or_eq_false_iff] at b'
 obtain⟨_,_,_,b4,b5⟩:=b'
 refine⟨fun h8=>?_,fun h9=>?_⟩
 ·rw[decide_eq_false h8] at b4
  exact List.length_eq_zero_iff.1 (by simpa using b4)
 ·have h9':¬ 9<=k:=by omega
  rw[decide_eq_false h9'] at b5
  exact List.length_eq_zero_iff.1 (by simpa using b5)
theorem Nt {m M s:Int}{w:List (List UInt8)}{e:List Typ}{f:List TFd}(h:lf (.mk 8 m M s w e f)=0):m<=256:=by
 have hb:=(eH h).2.1
 unfold fA at hb
 rw[if_neg (fun hh=>absurd hh.1 (by decide))] at hb
 by_cases hc:(2<=(8:Int)/\(8:Int)<=8)/\(M<m\/m<loK 8\/hiK 8<M)
 ·rw[if_pos hc] at hb;exact absurd hb (by decide)
 ·have h2:¬ (M<m\/m<loK 8\/hiK 8<M):=fun hh=>hc ⟨by decide,hh⟩
  rw[show hiK 8=256 from rfl] at h2
  omega
theorem Ns {m M s:Int}{w:List (List UInt8)}{e:List Typ}{f:List TFd}(h:lf (.mk 10 m M s w e f)=0):∃ g r,f=g::r:=by
 have h1:=(eH h).2.2.1
 cases f with
 | cons g r=>exact⟨g,r,rfl⟩
 | nil=>simp[dn] at h1
theorem QP {k m M s:Int}{w:List (List UInt8)}{e:List Typ}{f:List TFd}(h:lf (.mk k m M s w e f)=0):f.length<=64:=by
 have h1:=(eH h).2.2.1
 by_cases hc:64<f.length
 ·exfalso
  unfold dn at h1
  repeat' split at h1
  all_goals first | exact absurd h1 (by decide) | omega
 ·omega
theorem JI {n:Nat}{a:Int}{nm:List UInt8}{t:Typ}{x:Val}{r:List Val}(h:ly n (.mk a nm 3 t (x::r))=false)(hx:x.ok):P2 x:=by
 have h1:accB n t x=true:=by simpa[ly,DI] using h
 have h2:RU x=0:=by simp only[accB,Bool.and_eq_true,decide_eq_true_eq] at h1;exact h1.1
 have:=uZ (ff (lvl x) 1 x) 0 (by omega) h2
 exact⟨hx,by omega⟩
theorem js:∀ (n N:Nat) (t:Typ),n<=N->tyV n t->t.ok->eV N t
 | 0,_,_,_,h,_=>h.elim
 | _+1,0,_,h,_,_=>absurd h (by omega)
 | n+1,N+1,.mk k m M s w e f,hN,h,ht=>by
   obtain⟨ho,h8,h9⟩:=h
   rw[WN] at ht
   obtain⟨_,_,_,_,_,_,t3,t5,t4,t6⟩:=ht
   refine⟨fun hk hm=>?_,fun hk=>?_,fun hk=>⟨QP ho,fun g hg=>?_⟩⟩
   ·subst hk
    obtain⟨x,rfl⟩:=uj ho
    exact⟨Nt ho,x,[],rfl,js n N x (by omega) (h8 rfl x (X6 ..)) (t5 x (X6 ..))⟩
   ·subst hk
    obtain⟨g,r,rfl⟩:=Ns ho
    exact⟨g,r,rfl,js n N g.typ (by omega) (h9 (.inr rfl) g (X6 ..)).1 (lW (t6 g (X6 ..))).1⟩
   ·subst hk
    have hs:=js n N g.typ (by omega) (h9 (.inl rfl) g hg).1 (lW (t6 g hg)).1
    obtain⟨b,hb⟩:=gz f [] (eH ho).2.2.2 g hg
    have hd:=(lW (t6 g hg)).2
    have hdf:=(h9 (.inl rfl) g hg).2 rfl
    obtain⟨n',nm',nd',t',d'⟩:=g
    refine⟨fun _=>hs,fun h3=>?_⟩
    subst h3
    obtain⟨x,r,rfl⟩:=mj hb
    exact⟨x,r,rfl,JI hdf (hd x (X6 ..))⟩
theorem Fk:∀ (n:Nat) (t:Typ),n<=9->tyV n t->t.ok->SB n t
 | 0,_,_,h,_=>h.elim
 | n+1,.mk k m M s w e f,hN,h,ht=>by
   have hs:=js (n+1) 9 _ hN h ht
   obtain⟨ho,h8,h9⟩:=h
   obtain⟨he,hf⟩:=Cx ho
   rw[WN] at ht
   obtain⟨_,_,_,_,_,_,t3,t5,t4,t6⟩:=ht
   refine⟨hs,by omega,by omega,fun x hx=>?_,fun g hg=>?_⟩
   ·by_cases hk:k=8
    ·exact Fk n x (by omega) (h8 hk x hx) (t5 x hx)
    ·rw[he hk] at hx;cases hx
   ·by_cases hk:k=9\/k=10
    ·exact Fk n g.typ (by omega) (h9 hk g hg).1 (lW (t6 g hg)).1
    ·rw[hf hk] at hg;cases hg
noncomputable def Tz (t:Typ):Int:=if (f6 0 8 4096 t).1=0 then (if 4096<en 8 t then 9 else 0) else (f6 0 8 4096 t).1
theorem OP (t:Typ)(ht:t.ok):ap Tryz.prog aC 92 [t.pv] (.int .i64 (Tz t)):=by
 have h94:=EO 8 (by omega) t 1 4096 ht (by omega) (by omega) (by omega)
 have h95:(f6 0 8 4096 t).1=0->ap Tryz.prog aC 111 [t.pv] (.int .i64 (en 8 t)):=fun h=>f0 8 t (Fk 8 t (by omega) (kO 8 4096 t h) ht)
 simp only[Tz]
 obtain⟨⟨z,L⟩,hq⟩:∃ q,q=f6 0 8 4096 t:=⟨_,rfl⟩
 rw[<- hq] at h94 h95 ⊢
 simp only at h94 h95 ⊢
 clear hq
 generalize en 8 t=G at h95 ⊢
 obtain⟨k,m,M,s,w,e,f⟩:=t
 simp only[WO] at h94 h95
 refine ap.intro Q92.2 (by simp[Q92]) ?_
 by_cases hz:z=0
 ·subst hz
  have h95:=h95 rfl
  rw[if_pos rfl]
  by_cases hg:4096<G
  ·rw[if_pos hg]
   simp(maxSteps:=9^7) (disch:=try exact dI) only[Q92,WO,push_cast,seval]
   refine ab.lentK h94 [1] rfl qsZ qsZ ?_
   simp(maxSteps:=9^7) (disch:=try exact dI) only[push_cast,seval]
   refine ab.pure h95 rfl ?_
   simp(maxSteps:=9^7) (disch:=try exact dI) only[hg,push_cast,seval]
  ·rw[if_neg hg]
   simp(maxSteps:=9^7) (disch:=try exact dI) only[Q92,WO,push_cast,seval]
   refine ab.lentK h94 [1] rfl qsZ qsZ ?_
   simp(maxSteps:=9^7) (disch:=try exact dI) only[push_cast,seval]
   refine ab.pure h95 rfl ?_
   simp(maxSteps:=9^7) (disch:=try exact dI) only[hg,push_cast,seval]
 ·rw[if_neg hz]
  simp(maxSteps:=9^7) (disch:=try exact dI) only[Q92,WO,push_cast,seval]
  refine ab.lentK h94 [1] rfl qsZ qsZ ?_
  simp(maxSteps:=9^7) (disch:=try exact dI) only[hz,push_cast,seval]
noncomputable def wN (nm:List UInt8)(v:Int)(t:Typ):Int:=if az nm=false then 12 else if inB v 1 999=false then 2 else if ¬ t.kind=9 then 11 else Tz t
theorem g7 (nm:List UInt8)(v:Int)(t:Typ)(ht:t.ok):ap Tryz.prog aC 40 [(Sch.mk nm v t).pv] (.int .i64 (wN nm v t)):=by
 have h43:=mY nm
 have h44:=nh v 1 999
 have h41:=OP t ht
 unfold wN
 generalize az nm=a at *
 generalize inB v 1 999=b at *
 generalize Tz t=z at *
 obtain⟨kk,hkk⟩:∃ kk,kk=t.kind:=⟨_,rfl⟩
 rw[<- hkk]
 obtain⟨k,m,M,s,w,e,f⟩:=t
 rw[WD]
 simp only[Typ.kind] at hkk
 subst hkk
 simp only[WO] at h41 ⊢
 refine ap.intro Q40.2 (by simp[Q40]) ?_
 cases a with
 | false=>
   rw[if_pos rfl]
   simp(maxSteps:=9^7) (disch:=try exact dI) only[Q40,ae,push_cast,seval]
   refine ab.pure h43 rfl ?_
   simp(maxSteps:=9^7) (disch:=try exact dI) only[push_cast,seval]
 | true=>
   rw[if_neg (by decide)]
   cases b with
   | false=>
     rw[if_pos rfl]
     simp(maxSteps:=9^7) (disch:=try exact dI) only[Q40,ae,push_cast,seval]
     refine ab.pure h43 rfl ?_
     simp(maxSteps:=9^7) (disch:=try exact dI) only[push_cast,seval]
     refine ab.pure h44 rfl ?_
     simp(maxSteps:=9^7) (disch:=try exact dI) only[push_cast,seval]
   | true=>
     rw[if_neg (by decide)]
     by_cases hk:kk=9
     ·rw[if_neg (fun q=>q hk)]
      simp(maxSteps:=9^7) (disch:=try exact dI) only[Q40,ae,hk,push_cast,seval]
      refine ab.pure h43 rfl ?_
      simp(maxSteps:=9^7) (disch:=try exact dI) only[push_cast,seval]
      refine ab.pure h44 rfl ?_
      simp(maxSteps:=9^7) (disch:=try exact dI) only[hk,push_cast,seval]
      rw[hk] at h41
      refine ab.pure h41 rfl ?_
      simp(maxSteps:=9^7) (disch:=try exact dI) only[push_cast,seval]
     ·rw[if_pos hk]
      simp(maxSteps:=9^7) (disch:=try exact dI) only[Q40,ae,hk,push_cast,seval]
      refine ab.pure h43 rfl ?_
      simp(maxSteps:=9^7) (disch:=try exact dI) only[push_cast,seval]
      refine ab.pure h44 rfl ?_
      simp(maxSteps:=9^7) (disch:=try exact dI) only[hk,push_cast,seval]
