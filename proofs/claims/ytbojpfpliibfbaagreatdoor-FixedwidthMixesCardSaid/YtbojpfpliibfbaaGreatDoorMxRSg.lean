/- A part of the proof. -/
import Derived.Test.YtbojpfpliibfbaaGreatDoorMxRSd
set_option maxHeartbeats 16000000
set_option maxRecDepth 100000
set_option linter.unusedVariables false
set_option linter.unusedSimpArgs false
namespace Go.Proofs.YtbojpfpliibfbaaGreatDoor
open Go Go.Ab
attribute [local irreducible] vc
def Nb (n:Nat):Prop:=∀ (t:Typ) (d l:Int),t.ok->d+n=9->0<=l->l<=4096 ->
 bO Tryz.prog aq 1 123 [.pv t.pv,.pv (.int .i64 d),.ptr 0 0] [.cells 3 true [.pv (.int .i64 l)]] (.pv (.int .i64 (fH 0 n l t).1)) [.cells 3 true [.pv (.int .i64 (fH 0 n l t).2)]]
theorem fL {g:TFd}(h:g.ok):g.typ.ok/\∀ v∈g.dflt,v.ok:=by
 obtain⟨a1,a2,a3,a4,a5⟩:=g
 rw[TFd.ok_mk] at h
 exact⟨h.2.2.2.1,h.2.2.2.2.2⟩
theorem I7 {k m M s:Int}{w:List (List UInt8)}{e:List Typ}{f:List TFd}(h:(Typ.mk k m M s w e f).ok):ag Tryz.prog aq 178 [(Typ.mk k m M s w e f).pv] (.int .i64 (dM (.mk k m M s w e f)))/\ag Tryz.prog aq 179 [(Typ.mk k m M s w e f).pv] (.list ((cl (.mk k m M s w e f)).map Typ.pv))/\(∀ x∈cl (.mk k m M s w e f),x.ok)/\(cl (.mk k m M s w e f)).length<=9000000000000:=by
 rw[Typ.ok_mk] at h
 obtain⟨_,_,_,_,h1,h2,h3,h4,h5,h6⟩:=h
 refine⟨OH m M s w e f k (fun x hx=>by have:=h2 x hx;omega) (by omega) (by omega) (by omega),Gz k m M s w e f (by omega),?_⟩
 by_cases h8:k=8
 ·rw[show cl (.mk k m M s w e f)=e from if_pos h8]
  exact⟨h4,by omega⟩
 ·by_cases h9:k=9\/k=10
  ·rw[show cl (.mk k m M s w e f)=f.map TFd.typ by simp only[cl];rw[if_neg h8,if_pos h9]]
   refine⟨fun x hx=>?_,by rw[List.length_map];omega⟩
   obtain⟨g,hg,rfl⟩:=List.mem_map.1 hx
   exact (fL (h6 g hg)).1
  ·rw[show cl (.mk k m M s w e f)=[] by simp only[cl];rw[if_neg h8,if_neg h9]]
   exact⟨fun x hx=>(by cases hx),by simp⟩
theorem DQ (t:Typ)(d l:Int)(hd:d=9)(hl:0<=l):bO Tryz.prog aq 1 123 [.pv t.pv,.pv (.int .i64 d),.ptr 0 0] [.cells 3 true [.pv (.int .i64 l)]] (.pv (.int .i64 (fH 0 0 l t).1)) [.cells 3 true [.pv (.int .i64 (fH 0 0 l t).2)]]:=by
 subst hd
 rw[fH]
 obtain⟨k',m',M',s',w',e',f'⟩:=t
 simp only[Typ.pv_mk]
 by_cases h0:l=0
 ·subst h0
  rw[if_pos rfl]
  refine bO.intro lB.2 (by simp[lB]) ?_
  simp(disch:=try exact dI) only[lB,push_cast,seval]
  exact aM [] qsZ
 ·rw[if_neg h0]
  refine bO.intro lB.2 (by simp[lB]) ?_
  simp(disch:=try exact dI) only[lB,h0,Int.sub_zero,push_cast,seval]
  exact aM [] qsZ
theorem DN (n:Nat)(t:Typ)(d:Int):bO Tryz.prog aq 1 123 [.pv t.pv,.pv (.int .i64 d),.ptr 0 0] [.cells 3 true [.pv (.int .i64 0)]] (.pv (.int .i64 (fH 0 (n+1) 0 t).1)) [.cells 3 true [.pv (.int .i64 (fH 0 (n+1) 0 t).2)]]:=by
 obtain⟨k',m',M',s',w',e',f'⟩:=t
 rw[fH,if_pos rfl]
 simp only[Typ.pv_mk]
 refine bO.intro lB.2 (by simp[lB]) ?_
 simp(disch:=try exact dI) only[lB,push_cast,seval]
 exact aM [] qsZ
theorem DO (n:Nat)(ih:Nb n)(k m M s:Int)(w:List (List UInt8))(e:List Typ)(f:List TFd)(d l:Int)(ht:(Typ.mk k m M s w e f).ok)(hdn:d+(n+1:Nat)=9)(hd:1<=d)(hl:0<=l)(hl2:l<=4096)(hl0:¬ l=0)(hk:¬ k=9) :
  bO Tryz.prog aq 1 123 [.pv (Typ.mk k m M s w e f).pv,.pv (.int .i64 d),.ptr 0 0] [.cells 3 true [.pv (.int .i64 l)]] (.pv (.int .i64 (fH 0 (n+1) l (.mk k m M s w e f)).1)) [.cells 3 true [.pv (.int .i64 (fH 0 (n+1) l (.mk k m M s w e f)).2)]]:=by
 obtain⟨h143,h144,hpt,hpl⟩:=I7 ht
 have hd8:¬ 8<d:=by omega
 rw[fH,if_neg hl0,if_neg hk]
 generalize cl (.mk k m M s w e f)=ps at *
 generalize dM (.mk k m M s w e f)=z at *
 simp only[Typ.pv_mk] at h143 h144 ⊢
 by_cases hz:z=0
 ·subst hz
  rw[if_pos rfl]
  obtain⟨R,hR⟩:∃ R,R=iy (fH 0 n) (l - 1) ps:=⟨_,rfl⟩
  rw[<- hR]
  refine bO.intro lB.2 (by simp[lB]) ?_
  simp(disch:=try exact dI) only[lB,hl0,hd8,push_cast,seval]
  refine ab.pure h143 rfl ?_
  refine zgZ ?_
  refine ab.pure h144 rfl ?_
  refine zgZ ?_
  refine az ([]) (fun x:Nat×Int=>[(32,.pv (.int .i64 (x.1:Int)))]) (fun x=>[(0,.cells 3 true [.pv (.int .i64 x.2)])]) (fun x=>x.1<=ps.length/\R=iy (fH 0 n) x.2 (ps.drop x.1)/\0<=x.2/\x.2<=4096) (fun x=>ps.length - x.1) ((0,l - 1)) ?_;intro e0 σ0 n0 h0;simp(disch:=try exact dI) only[push_cast,seval] at h0;obtain⟨rfl,rfl,rfl⟩:=h0;refine⟨?_,?_,?_⟩
  ·exact qsZ
  ·exact⟨by simp,by simpa using hR,by simp only;omega,by simp only;omega⟩
  rintro⟨i,L⟩ ⟨hi,hr,hL,hL2⟩
  simp only at hi hr hL hL2
  by_cases hlt:i<ps.length
  ·have hltI:(i:Int)<(ps.length:Int):=by omega
   obtain⟨x,hx⟩:∃ x,ps[i]? = some x:=⟨_,List.getElem?_eq_getElem hlt⟩
   have hxm:=List.mem_of_getElem? hx
   have hcall:=ih x (d+1) L (hpt x hxm) (by omega) hL hL2
   have hleft:=gL (δ:=0) (by decide) n x L hL hL2
   rw[wR hx] at hr
   obtain⟨⟨e1,e2⟩,he⟩:∃ q,q=fH 0 n L x:=⟨_,rfl⟩
   rw[<- he] at hcall hleft hr
   simp only at hcall hleft hr
   obtain⟨k',m',M',s',w',e',f'⟩:=x
   simp only[Typ.pv_mk] at hcall
   simp(disch:=try exact dI) only[hx,Option.map_some,Typ.pv_mk,ae,push_cast,seval]
   refine ab.lentK hcall [0] rfl qsZ qsZ ?_
   by_cases he0:e1=0
   ·subst he0
    rw[if_pos rfl] at hr
    simp(disch:=try exact dI) only[hk,push_cast,seval]
    exact⟨(i+1,e2),aV qsZ,⟨by simp only;omega,hr,by simp only;omega,by simp only;omega⟩,by simp only;omega⟩
   ·rw[if_neg he0] at hr
    subst hr
    simp(disch:=try exact dI) only[he0,push_cast,seval]
    exact aM [] qsZ
  ·obtain rfl:i=ps.length:=by omega
   rw[List.drop_length,iy] at hr
   subst hr
   simp(disch:=try exact dI) only[Int.lt_irrefl,push_cast,seval]
   exact aM [] qsZ
 ·rw[if_neg hz]
  refine bO.intro lB.2 (by simp[lB]) ?_
  simp(disch:=try exact dI) only[lB,hl0,hd8,push_cast,seval]
  refine ab.pure h143 rfl ?_
  simp(disch:=try exact dI) only[hz,push_cast,seval]
  exact aM [] qsZ
theorem DP (n:Nat)(ih:Nb n)(m M s:Int)(w:List (List UInt8))(e:List Typ)(f:List TFd)(d l:Int)(ht:(Typ.mk 9 m M s w e f).ok)(hdn:d+(n+1:Nat)=9)(hd:1<=d)(hl:0<=l)(hl2:l<=4096)(hl0:¬ l=0) :
  bO Tryz.prog aq 1 123 [.pv (Typ.mk 9 m M s w e f).pv,.pv (.int .i64 d),.ptr 0 0] [.cells 3 true [.pv (.int .i64 l)]] (.pv (.int .i64 (fH 0 (n+1) l (.mk 9 m M s w e f)).1)) [.cells 3 true [.pv (.int .i64 (fH 0 (n+1) l (.mk 9 m M s w e f)).2)]]:=by
 obtain⟨h143,h144,hpt,hpl⟩:=I7 ht
 have hown:=bh (k:=9) (m:=m) (M:=M) (s:=s) (w:=w) (e:=e) (f:=f)
 rw[show cl (.mk 9 m M s w e f)=f.map TFd.typ from rfl] at h144 hpt
 rw[Typ.ok_mk] at ht
 have hd8:¬ 8<d:=by omega
 rw[fH,if_neg hl0,if_pos rfl]
 generalize dM (.mk 9 m M s w e f)=z at *
 simp only[Typ.pv_mk] at h143 h144 ⊢
 by_cases hz:z=0
 ·have hfl:=(hown hz).2.2.2
  clear hown
  subst hz
  rw[if_pos rfl]
  obtain⟨R,hR⟩:∃ R,R=fY n (fH 0 n) (l - 1) f:=⟨_,rfl⟩
  rw[<- hR]
  refine bO.intro lB.2 (by simp[lB]) ?_
  simp(disch:=try exact dI) only[lB,hl0,hd8,push_cast,seval]
  refine ab.pure h143 rfl ?_
  refine zgZ ?_
  refine ab.pure h144 rfl ?_
  refine zgZ ?_
  refine az ([]) (fun x:Nat×Int=>[(32,.pv (.int .i64 (x.1:Int)))]) (fun x=>[(0,.cells 3 true [.pv (.int .i64 x.2)])]) (fun x=>x.1<=f.length/\R=fY n (fH 0 n) x.2 (f.drop x.1)/\0<=x.2/\x.2<=4096) (fun x=>f.length - x.1) ((0,l - 1)) ?_;intro e0 σ0 n0 h0;simp(disch:=try exact dI) only[push_cast,seval] at h0;obtain⟨rfl,rfl,rfl⟩:=h0;refine⟨?_,?_,?_⟩
  ·exact qsZ
  ·exact⟨by simp,by simpa using hR,by simp only;omega,by simp only;omega⟩
  rintro⟨i,L⟩ ⟨hi,hr,hL,hL2⟩
  simp only at hi hr hL hL2
  by_cases hlt:i<f.length
  ·have hltI:(i:Int)<(f.length:Int):=by omega
   obtain⟨g,hg⟩:∃ g,f[i]? = some g:=⟨_,List.getElem?_eq_getElem hlt⟩
   have hgm:=List.mem_of_getElem? hg
   have hgt:=hpt g.typ (List.mem_map_of_mem hgm)
   have hcall:=ih g.typ (d+1) L hgt (by omega) hL hL2
   have hleft:=gL (δ:=0) (by decide) n g.typ L hL hL2
   have hty:=iI (δ:=0) n L g.typ
   have hfe:=bY f [] hfl g hgm
   have hgd:=(fL (ht.2.2.2.2.2.2.2.2.2 g hgm)).2
   rw[wY hg] at hr
   obtain⟨⟨e1,e2⟩,he⟩:∃ q,q=fH 0 n L g.typ:=⟨_,rfl⟩
   rw[<- he] at hcall hleft hr hty
   clear he
   obtain⟨n',nm',nd',t',d'⟩:=g
   simp only[TFd.typ,TFd.dflt] at hcall hleft hr hty hgt hgd
   by_cases he0:e1=0
   ·subst he0
    rw[if_pos rfl] at hr
    by_cases h3:nd'=3
    ·subst h3
     obtain⟨b,hb⟩:=hfe
     obtain⟨x,r,rfl⟩:=ml hb
     have hx1:=hgd x (List.mem_cons_self ..)
     have hacc:=yj n t' x hx1 (fun hc=>np n (lvl x) t' x (hty rfl) hgt (E2 (nc x) hc) hx1)
     simp only[lx,CH,decide_true,Bool.true_and] at hr
     generalize accB n t' x=q at hacc hr
     obtain⟨k',m',M',s',w',e',f'⟩:=t'
     obtain⟨vk,vn,vs,vt,vl,vf⟩:=x
     simp only[Typ.pv_mk,Val.pv_mk] at hcall hacc
     simp(disch:=try exact dI) only[hg,Option.map_some,TFd.typ,Typ.pv_mk,ae,push_cast,seval]
     refine ab.lentK hcall [0] rfl qsZ qsZ ?_
     simp(disch:=try exact dI) only[hg,Option.map_some,TFd.pv_mk,Typ.pv_mk,Val.pv_mk,ae,aD,push_cast,seval]
     refine ab.pure hacc rfl ?_
     cases q with
     | true=>
       rw[if_neg (by decide)] at hr
       refine zgZ ?_
       exact⟨(i+1,e2),aV qsZ,⟨by simp only;omega,hr,by simp only;omega,by simp only;omega⟩,by simp only;omega⟩
     | false=>
       rw[if_pos (by decide)] at hr
       subst hr
       refine zgZ ?_
       exact aM [] qsZ
    ·rw[if_neg (by simp[lx,h3])] at hr
     obtain⟨k',m',M',s',w',e',f'⟩:=t'
     simp only[Typ.pv_mk] at hcall
     simp(disch:=try exact dI) only[hg,Option.map_some,TFd.typ,Typ.pv_mk,ae,push_cast,seval]
     refine ab.lentK hcall [0] rfl qsZ qsZ ?_
     simp(disch:=try exact dI) only[hg,Option.map_some,TFd.pv_mk,Typ.pv_mk,ae,h3,push_cast,seval]
     exact⟨(i+1,e2),aV qsZ,⟨by simp only;omega,hr,by simp only;omega,by simp only;omega⟩,by simp only;omega⟩
   ·rw[if_neg he0] at hr
    subst hr
    obtain⟨k',m',M',s',w',e',f'⟩:=t'
    simp only[Typ.pv_mk] at hcall
    simp(disch:=try exact dI) only[hg,Option.map_some,TFd.typ,Typ.pv_mk,ae,push_cast,seval]
    refine ab.lentK hcall [0] rfl qsZ qsZ ?_
    simp(disch:=try exact dI) only[he0,push_cast,seval]
    exact aM [] qsZ
  ·obtain rfl:i=f.length:=by omega
   rw[List.drop_length,fY] at hr
   subst hr
   simp(disch:=try exact dI) only[Int.lt_irrefl,push_cast,seval]
   exact aM [] qsZ
 ·rw[if_neg hz]
  refine bO.intro lB.2 (by simp[lB]) ?_
  simp(disch:=try exact dI) only[lB,hl0,hd8,push_cast,seval]
  refine ab.pure h143 rfl ?_
  simp(disch:=try exact dI) only[hz,push_cast,seval]
  exact aM [] qsZ
theorem DR:∀ n,n<=8->Nb n
 | 0,_=>fun t d l ht hd hl hl2=>DQ t d l (by omega) hl
 | n+1,hn=>fun t d l ht hd hl hl2=>by
   by_cases hl0:l=0
   ·subst hl0;exact DN n t d
   have ih:=DR n (by omega)
   obtain⟨k,m,M,s,w,e,f⟩:=t
   by_cases hk:k=9
   ·subst hk;exact DP n ih m M s w e f d l ht hd (by omega) hl hl2 hl0
   ·exact DO n ih k m M s w e f d l ht hd (by omega) hl hl2 hl0 hk
theorem j5 {k m M s:Int}{w:List (List UInt8)}{e:List Typ}{f:List TFd}(h:dM (.mk k m M s w e f)=0):(¬ k=8->e=[])/\(¬ (k=9\/k=10)->f=[]):=by
 rw[dM] at h
 by_cases a:inB k 1 10=false
 ·rw[if_pos a] at h;exact absurd h (by decide)
 rw[if_neg a] at h
 have hr:1<=k/\k<=10:=by simpa[inB] using a
 by_cases b:fG k (.mk k m M s w e f)=true
 ·rw[if_pos b] at h;exact absurd h (by decide)
 have b':fG k (.mk k m M s w e f)=false:=by simpa using b
 simp only[fG,aK,Bool.or_eq_false_iff] at b'
 obtain⟨_,_,_,b4,b5⟩:=b'
 refine⟨fun h8=>?_,fun h9=>?_⟩
 ·rw[decide_eq_false h8] at b4
  exact List.length_eq_zero_iff.1 (by simpa using b4)
 ·have h9':¬ 9<=k:=by omega
  rw[decide_eq_false h9'] at b5
  exact List.length_eq_zero_iff.1 (by simpa using b5)
theorem Lh {m M s:Int}{w:List (List UInt8)}{e:List Typ}{f:List TFd}(h:dM (.mk 8 m M s w e f)=0):m<=256:=by
 have hb:=(bh h).2.1
 unfold dC at hb
 rw[if_neg (fun hh=>absurd hh.1 (by decide))] at hb
 by_cases hc:(2<=(8:Int)/\(8:Int)<=8)/\(M<m\/m<loK 8\/hiK 8<M)
 ·rw[if_pos hc] at hb;exact absurd hb (by decide)
 ·have h2:¬ (M<m\/m<loK 8\/hiK 8<M):=fun hh=>hc ⟨by decide,hh⟩
  rw[show hiK 8=256 from rfl] at h2
  omega
theorem Lg {m M s:Int}{w:List (List UInt8)}{e:List Typ}{f:List TFd}(h:dM (.mk 10 m M s w e f)=0):∃ g r,f=g::r:=by
 have h1:=(bh h).2.2.1
 cases f with
 | cons g r=>exact⟨g,r,rfl⟩
 | nil=>simp[cH] at h1
theorem BE {k m M s:Int}{w:List (List UInt8)}{e:List Typ}{f:List TFd}(h:dM (.mk k m M s w e f)=0):f.length<=64:=by
 have h1:=(bh h).2.2.1
 by_cases hc:64<f.length
 ·exfalso
  unfold cH at h1
  repeat' split at h1
  all_goals first | exact absurd h1 (by decide) | omega
 ·omega
theorem HX {n:Nat}{a:Int}{nm:List UInt8}{t:Typ}{x:Val}{r:List Val}(h:lx n (.mk a nm 3 t (x::r))=false)(hx:x.ok):N2 x:=by
 have h1:accB n t x=true:=by simpa[lx,CH] using h
 have h2:PT x=0:=by simp only[accB,Bool.and_eq_true,decide_eq_true_eq] at h1;exact h1.1
 have:=up (eQ (lvl x) 1 x) 0 (by omega) h2
 exact⟨hx,by omega⟩
theorem jm:∀ (n N:Nat) (t:Typ),n<=N->tyV n t->t.ok->eE N t
 | 0,_,_,_,h,_=>h.elim
 | _+1,0,_,h,_,_=>absurd h (by omega)
 | n+1,N+1,.mk k m M s w e f,hN,h,ht=>by
   obtain⟨ho,h8,h9⟩:=h
   rw[Typ.ok_mk] at ht
   obtain⟨_,_,_,_,_,_,t3,t5,t4,t6⟩:=ht
   refine⟨fun hk hm=>?_,fun hk=>?_,fun hk=>⟨BE ho,fun g hg=>?_⟩⟩
   ·subst hk
    obtain⟨x,rfl⟩:=tr ho
    exact⟨Lh ho,x,[],rfl,jm n N x (by omega) (h8 rfl x (List.mem_cons_self ..)) (t5 x (List.mem_cons_self ..))⟩
   ·subst hk
    obtain⟨g,r,rfl⟩:=Lg ho
    exact⟨g,r,rfl,jm n N g.typ (by omega) (h9 (.inr rfl) g (List.mem_cons_self ..)).1 (fL (t6 g (List.mem_cons_self ..))).1⟩
   ·subst hk
    have hs:=jm n N g.typ (by omega) (h9 (.inl rfl) g hg).1 (fL (t6 g hg)).1
    obtain⟨b,hb⟩:=bY f [] (bh ho).2.2.2 g hg
    have hd:=(fL (t6 g hg)).2
    have hdf:=(h9 (.inl rfl) g hg).2 rfl
    obtain⟨n',nm',nd',t',d'⟩:=g
    refine⟨fun _=>hs,fun h3=>?_⟩
    subst h3
    obtain⟨x,r,rfl⟩:=ml hb
    exact⟨x,r,rfl,HX hdf (hd x (List.mem_cons_self ..))⟩
theorem Ep:∀ (n:Nat) (t:Typ),n<=9->tyV n t->t.ok->Qx n t
 | 0,_,_,h,_=>h.elim
 | n+1,.mk k m M s w e f,hN,h,ht=>by
   have hs:=jm (n+1) 9 _ hN h ht
   obtain⟨ho,h8,h9⟩:=h
   obtain⟨he,hf⟩:=j5 ho
   rw[Typ.ok_mk] at ht
   obtain⟨_,_,_,_,_,_,t3,t5,t4,t6⟩:=ht
   refine⟨hs,by omega,by omega,fun x hx=>?_,fun g hg=>?_⟩
   ·by_cases hk:k=8
    ·exact Ep n x (by omega) (h8 hk x hx) (t5 x hx)
    ·rw[he hk] at hx;cases hx
   ·by_cases hk:k=9\/k=10
    ·exact Ep n g.typ (by omega) (h9 hk g hg).1 (fL (t6 g hg)).1
    ·rw[hf hk] at hg;cases hg
noncomputable def lM (t:Typ):Int:=if (fH 0 8 4096 t).1=0 then (if 4096<dT 8 t then 9 else 0) else (fH 0 8 4096 t).1
theorem MD (t:Typ)(ht:t.ok):ag Tryz.prog aq 69 [t.pv] (.int .i64 (lM t)):=by
 have h94:=DR 8 (by omega) t 1 4096 ht (by omega) (by omega) (by omega)
 have h95:(fH 0 8 4096 t).1=0->ag Tryz.prog aq 124 [t.pv] (.int .i64 (dT 8 t)):=fun h=>fM 8 t (Ep 8 t (by omega) (iI 8 4096 t h) ht)
 simp only[lM]
 obtain⟨⟨z,L⟩,hq⟩:∃ q,q=fH 0 8 4096 t:=⟨_,rfl⟩
 rw[<- hq] at h94 h95 ⊢
 simp only at h94 h95 ⊢
 clear hq
 generalize dT 8 t=G at h95 ⊢
 obtain⟨k,m,M,s,w,e,f⟩:=t
 simp only[Typ.pv_mk] at h94 h95
 refine ag.intro Q69.2 (by simp[Q69]) ?_
 by_cases hz:z=0
 ·subst hz
  have h95:=h95 rfl
  rw[if_pos rfl]
  by_cases hg:4096<G
  ·rw[if_pos hg]
   simp(disch:=try exact dI) only[Q69,Typ.pv_mk,push_cast,seval]
   refine ab.lentK h94 [1] rfl qsZ qsZ ?_
   refine zgZ ?_
   refine ab.pure h95 rfl ?_
   simp(disch:=try exact dI) only[hg,push_cast,seval]
  ·rw[if_neg hg]
   simp(disch:=try exact dI) only[Q69,Typ.pv_mk,push_cast,seval]
   refine ab.lentK h94 [1] rfl qsZ qsZ ?_
   refine zgZ ?_
   refine ab.pure h95 rfl ?_
   simp(disch:=try exact dI) only[hg,push_cast,seval]
 ·rw[if_neg hz]
  simp(disch:=try exact dI) only[Q69,Typ.pv_mk,push_cast,seval]
  refine ab.lentK h94 [1] rfl qsZ qsZ ?_
  simp(disch:=try exact dI) only[hz,push_cast,seval]
def scB (k:Int):Bool:=decide (1<=k)&&decide (k<=7)
theorem Mt (g:TFd):xz g=!scB g.typ.kind:=by
 unfold xz scB
 by_cases h1:1<=g.typ.kind
 ·by_cases h2:g.typ.kind<=7
  ·simp[h1,h2]<;>omega
  ·simp[h1,h2]<;>omega
 ·simp[h1]<;>omega
noncomputable def flE (t:Typ):Int:=if lM t=0 then (if ff t=true then 0 else 11) else lM t
theorem ub (t:Typ)(ht:t.ok):ag Tryz.prog aq 34 [t.pv] (.int .i64 (flE t)):=by
 have h69:=MD t ht
 have h74:=Pf t (by obtain⟨k,m,M,s,w,e,f⟩:=t;rw[Typ.ok_mk] at ht;simp only[Typ.fields];omega)
 unfold flE
 generalize lM t=z at *
 generalize ff t=b at *
 obtain⟨k,m,M,s,w,e,f⟩:=t
 simp only[Typ.pv_mk] at h69 h74
 refine ag.intro Q34.2 (by simp[Q34]) ?_
 by_cases hz:z=0
 ·subst hz
  rw[if_pos rfl]
  cases b with
  | true=>
    rw[if_pos rfl]
    simp(disch:=try exact dI) only[Q34,Typ.pv_mk,push_cast,seval]
    refine ab.pure h69 rfl ?_
    refine zgZ ?_
    refine ab.pure h74 rfl ?_
    exact qsZ
  | false=>
    rw[if_neg (by decide)]
    simp(disch:=try exact dI) only[Q34,Typ.pv_mk,push_cast,seval]
    refine ab.pure h69 rfl ?_
    refine zgZ ?_
    refine ab.pure h74 rfl ?_
    exact qsZ
 ·rw[if_neg hz]
  simp(disch:=try exact dI) only[Q34,Typ.pv_mk,push_cast,seval]
  refine ab.pure h69 rfl ?_
  simp(disch:=try exact dI) only[hz,push_cast,seval]
end Go.Proofs.YtbojpfpliibfbaaGreatDoor
