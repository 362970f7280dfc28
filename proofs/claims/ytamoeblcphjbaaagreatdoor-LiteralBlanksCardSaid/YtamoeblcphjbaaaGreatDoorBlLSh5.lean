/- A part. -/
import Derived.Test.YtamoeblcphjbaaaGreatDoorBlLSd
set_option linter.unusedVariables false
set_option linter.unusedSimpArgs false
set_option maxHeartbeats 16000000
set_option maxRecDepth 100000
open List renaming getElem?_eq_getElem->Uo,mem_cons_self->Vj,length_drop->UC,length_take->UM
open Option renaming map_some->UD
open Int renaming cast_ofNat_Int->UU
namespace Go.Proofs.YtamoeblcphjbaaaGreatDoor
open Go Go.Ab
attribute [local irreducible] vc
theorem D6 (n:Nat)(ih:Nv n)(m M s:Int)(w:List (List UInt8))(e:List Typ)(f:List TFd)(d l:Int)(ht:(Typ.mk 9 m M s w e f).ok)(hdn:d+(n+1:Nat)=9)(hd:1<=d)(hl:0<=l)(hl2:l<=4096)(hl0:¬ l=0) :
  aI Tryz.prog aH 1 63 [.pv (Typ.mk 9 m M s w e f).pv,.pv (.int .i64 d),.ptr 0 0] [.cells 3 true [.pv (.int .i64 l)]] (.pv (.int .i64 (gD 0 (n+1) l (.mk 9 m M s w e f)).1)) [.cells 3 true [.pv (.int .i64 (gD 0 (n+1) l (.mk 9 m M s w e f)).2)]]:=by
 obtain⟨h143,h144,hpt,hpl⟩:=I7 ht
 have hown:=eY (k:=9) (m:=m) (M:=M) (s:=s) (w:=w) (e:=e) (f:=f)
 rw[show dh (.mk 9 m M s w e f)=f.map TFd.typ from rfl] at h144 hpt
 rw[Uk] at ht
 have hd8:¬ 8<d:=by omega
 rw[gD,if_neg hl0,if_pos rfl]
 generalize mF (.mk 9 m M s w e f)=z at *
 simp only[Ul] at h143 h144 ⊢
 by_cases hz:z=0
 ·have hfl:=(hown hz).2.2.2
  clear hown
  subst hz
  rw[if_pos rfl]
  obtain⟨R,hR⟩:∃ R,R=gT n (gD 0 n) (l - 1) f:=⟨_,rfl⟩
  rw[<- hR]
  refine aI.intro Q63.2 (by simp[Q63]) ?_
  simp(disch:=try exact dI) only[Q63,hl0,hd8,push_cast,seval]
  refine ae.pure h143 rfl ?_
  refine zgZ ?_
  refine ae.pure h144 rfl ?_
  refine zgZ ?_
  refine aK ([]) (fun x:Nat×Int=>[(32,.pv (.int .i64 (x.1:Int)))]) (fun x=>[(0,.cells 3 true [.pv (.int .i64 x.2)])]) (fun x=>x.1<=f.length/\R=gT n (gD 0 n) x.2 (f.drop x.1)/\0<=x.2/\x.2<=4096) (fun x=>f.length - x.1) ((0,l - 1)) ?_;intro e0 σ0 n0 h0;simp(disch:=try exact dI) only[push_cast,seval] at h0;obtain⟨rfl,rfl,rfl⟩:=h0;refine⟨?_,?_,?_⟩
  ·exact qsZ
  ·exact⟨by simp,by simpa using hR,by simp only;omega,by simp only;omega⟩
  rintro⟨i,L⟩ ⟨hi,hr,hL,hL2⟩
  simp only at hi hr hL hL2
  by_cases hlt:i<f.length
  ·have hltI:(i:Int)<(f.length:Int):=by omega
   obtain⟨g,hg⟩:∃ g,f[i]? = some g:=⟨_,Uo hlt⟩
   have hgm:=List.mem_of_getElem? hg
   have hgt:=hpt g.typ (List.mem_map_of_mem hgm)
   have hcall:=ih g.typ (d+1) L hgt (by omega) hL hL2
   have hleft:=iV (δ:=0) (by decide) n g.typ L hL hL2
   have hty:=mw (δ:=0) n L g.typ
   have hfe:=gW f [] hfl g hgm
   have hgd:=(nr (ht.2.2.2.2.2.2.2.2.2 g hgm)).2
   rw[yj hg] at hr
   obtain⟨⟨e1,e2⟩,he⟩:∃ q,q=gD 0 n L g.typ:=⟨_,rfl⟩
   rw[<- he] at hcall hleft hr hty
   clear he
   obtain⟨n',nm',nd',t',d'⟩:=g
   simp only[TFd.typ,TFd.dflt] at hcall hleft hr hty hgt hgd
   by_cases he0:e1=0
   ·subst he0
    rw[if_pos rfl] at hr
    by_cases h3:nd'=3
    ·subst h3
     obtain⟨b,hb⟩:=hfe
     obtain⟨x,r,rfl⟩:=nH hb
     have hx1:=hgd x (Vj ..)
     have hacc:=ze n t' x hx1 (fun hc=>oM n (lvl x) t' x (hty rfl) hgt (E1 (u6 x) hc) hx1)
     simp only[mQ,C9,decide_true,Bool.true_and] at hr
     generalize accB n t' x=q at hacc hr
     obtain⟨k',m',M',s',w',e',f'⟩:=t'
     obtain⟨vk,vn,vs,vt,vl,vf⟩:=x
     simp only[Ul,Un] at hcall hacc
     simp(disch:=try exact dI) only[hg,UD,TFd.typ,Ul,aw,push_cast,seval]
     refine ae.lentK hcall [0] rfl qsZ qsZ ?_
     simp(disch:=try exact dI) only[hg,UD,Ue,Ul,Un,aw,aL,push_cast,seval]
     refine ae.pure hacc rfl ?_
     cases q with
     | true=>
       rw[if_neg (by decide)] at hr
       refine zgZ ?_
       exact⟨(i+1,e2),bu qsZ,⟨by simp only;omega,hr,by simp only;omega,by simp only;omega⟩,by simp only;omega⟩
     | false=>
       rw[if_pos (by decide)] at hr
       subst hr
       refine zgZ ?_
       exact am [] qsZ
    ·rw[if_neg (by simp[mQ,h3])] at hr
     obtain⟨k',m',M',s',w',e',f'⟩:=t'
     simp only[Ul] at hcall
     simp(disch:=try exact dI) only[hg,UD,TFd.typ,Ul,aw,push_cast,seval]
     refine ae.lentK hcall [0] rfl qsZ qsZ ?_
     simp(disch:=try exact dI) only[hg,UD,Ue,Ul,aw,h3,push_cast,seval]
     exact⟨(i+1,e2),bu qsZ,⟨by simp only;omega,hr,by simp only;omega,by simp only;omega⟩,by simp only;omega⟩
   ·rw[if_neg he0] at hr
    subst hr
    obtain⟨k',m',M',s',w',e',f'⟩:=t'
    simp only[Ul] at hcall
    simp(disch:=try exact dI) only[hg,UD,TFd.typ,Ul,aw,push_cast,seval]
    refine ae.lentK hcall [0] rfl qsZ qsZ ?_
    simp(disch:=try exact dI) only[he0,push_cast,seval]
    exact am [] qsZ
  ·obtain rfl:i=f.length:=by omega
   rw[List.drop_length,gT] at hr
   subst hr
   simp(disch:=try exact dI) only[Int.lt_irrefl,push_cast,seval]
   exact am [] qsZ
 ·rw[if_neg hz]
  refine aI.intro Q63.2 (by simp[Q63]) ?_
  simp(disch:=try exact dI) only[Q63,hl0,hd8,push_cast,seval]
  refine ae.pure h143 rfl ?_
  simp(disch:=try exact dI) only[hz,push_cast,seval]
  exact am [] qsZ
theorem D8:∀ n,n<=8->Nv n
 | 0,_=>fun t d l ht hd hl hl2=>D7 t d l (by omega) hl
 | n+1,hn=>fun t d l ht hd hl hl2=>by
   by_cases hl0:l=0
   ·subst hl0;exact D4 n t d
   have ih:=D8 n (by omega)
   obtain⟨k,m,M,s,w,e,f⟩:=t
   by_cases hk:k=9
   ·subst hk;exact D6 n ih m M s w e f d l ht hd (by omega) hl hl2 hl0
   ·exact D5 n ih k m M s w e f d l ht hd (by omega) hl hl2 hl0 hk
theorem BT {k m M s:Int}{w:List (List UInt8)}{e:List Typ}{f:List TFd}(h:mF (.mk k m M s w e f)=0):(¬ k=8->e=[])/\(¬ (k=9\/k=10)->f=[]):=by
 rw[mF] at h
 by_cases a:inB k 1 10=false
 ·rw[if_pos a] at h;exact absurd h (by decide)
 rw[if_neg a] at h
 have hr:1<=k/\k<=10:=by simpa[inB] using a
 by_cases b:lX k (.mk k m M s w e f)=true
 ·rw[if_pos b] at h;exact absurd h (by decide)
 have b':lX k (.mk k m M s w e f)=false:=by simpa using b
 simp only[lX,lY,Bool.or_eq_false_iff] at b'
 obtain⟨_,_,_,b4,b5⟩:=b'
 refine⟨fun h8=>?_,fun h9=>?_⟩
 ·rw[decide_eq_false h8] at b4
  exact List.length_eq_zero_iff.1 (by simpa using b4)
 ·have h9':¬ 9<=k:=by omega
  rw[decide_eq_false h9'] at b5
  exact List.length_eq_zero_iff.1 (by simpa using b5)
theorem Le {m M s:Int}{w:List (List UInt8)}{e:List Typ}{f:List TFd}(h:mF (.mk 8 m M s w e f)=0):m<=256:=by
 have hb:=(eY h).2.1
 unfold f5 at hb
 rw[if_neg (fun hh=>absurd hh.1 (by decide))] at hb
 by_cases hc:(2<=(8:Int)/\(8:Int)<=8)/\(M<m\/m<loK 8\/hiK 8<M)
 ·rw[if_pos hc] at hb;exact absurd hb (by decide)
 ·have h2:¬ (M<m\/m<loK 8\/hiK 8<M):=fun hh=>hc ⟨by decide,hh⟩
  rw[show hiK 8=256 from rfl] at h2
  omega
theorem Ld {m M s:Int}{w:List (List UInt8)}{e:List Typ}{f:List TFd}(h:mF (.mk 10 m M s w e f)=0):∃ g r,f=g::r:=by
 have h1:=(eY h).2.2.1
 cases f with
 | cons g r=>exact⟨g,r,rfl⟩
 | nil=>simp[dC] at h1
theorem OZ {k m M s:Int}{w:List (List UInt8)}{e:List Typ}{f:List TFd}(h:mF (.mk k m M s w e f)=0):f.length<=64:=by
 have h1:=(eY h).2.2.1
 by_cases hc:64<f.length
 ·exfalso
  unfold dC at h1
  repeat' split at h1
  all_goals first | exact absurd h1 (by decide) | omega
 ·omega
theorem HQ {n:Nat}{a:Int}{nm:List UInt8}{t:Typ}{x:Val}{r:List Val}(h:mQ n (.mk a nm 3 t (x::r))=false)(hx:x.ok):Ol x:=by
 have h1:accB n t x=true:=by simpa[mQ,C9] using h
 have h2:JD x=0:=by simp only[accB,Bool.and_eq_true,decide_eq_true_eq] at h1;exact h1.1
 have:=wc (fm (lvl x) 1 x) 0 (by omega) h2
 exact⟨hx,by omega⟩
theorem ka:∀ (n N:Nat) (t:Typ),n<=N->tyV n t->t.ok->fk N t
 | 0,_,_,_,h,_=>h.elim
 | _+1,0,_,h,_,_=>absurd h (by omega)
 | n+1,N+1,.mk k m M s w e f,hN,h,ht=>by
   obtain⟨ho,h8,h9⟩:=h
   rw[Uk] at ht
   obtain⟨_,_,_,_,_,_,t3,t5,t4,t6⟩:=ht
   refine⟨fun hk hm=>?_,fun hk=>?_,fun hk=>⟨OZ ho,fun g hg=>?_⟩⟩
   ·subst hk
    obtain⟨x,rfl⟩:=uO ho
    exact⟨Le ho,x,[],rfl,ka n N x (by omega) (h8 rfl x (Vj ..)) (t5 x (Vj ..))⟩
   ·subst hk
    obtain⟨g,r,rfl⟩:=Ld ho
    exact⟨g,r,rfl,ka n N g.typ (by omega) (h9 (.inr rfl) g (Vj ..)).1 (nr (t6 g (Vj ..))).1⟩
   ·subst hk
    have hs:=ka n N g.typ (by omega) (h9 (.inl rfl) g hg).1 (nr (t6 g hg)).1
    obtain⟨b,hb⟩:=gW f [] (eY ho).2.2.2 g hg
    have hd:=(nr (t6 g hg)).2
    have hdf:=(h9 (.inl rfl) g hg).2 rfl
    obtain⟨n',nm',nd',t',d'⟩:=g
    refine⟨fun _=>hs,fun h3=>?_⟩
    subst h3
    obtain⟨x,r,rfl⟩:=nH hb
    exact⟨x,r,rfl,HQ hdf (hd x (Vj ..))⟩
theorem EA:∀ (n:Nat) (t:Typ),n<=9->tyV n t->t.ok->QA n t
 | 0,_,_,h,_=>h.elim
 | n+1,.mk k m M s w e f,hN,h,ht=>by
   have hs:=ka (n+1) 9 _ hN h ht
   obtain⟨ho,h8,h9⟩:=h
   obtain⟨he,hf⟩:=BT ho
   rw[Uk] at ht
   obtain⟨_,_,_,_,_,_,t3,t5,t4,t6⟩:=ht
   refine⟨hs,by omega,by omega,fun x hx=>?_,fun g hg=>?_⟩
   ·by_cases hk:k=8
    ·exact EA n x (by omega) (h8 hk x hx) (t5 x hx)
    ·rw[he hk] at hx;cases hx
   ·by_cases hk:k=9\/k=10
    ·exact EA n g.typ (by omega) (h9 hk g hg).1 (nr (t6 g hg)).1
    ·rw[hf hk] at hg;cases hg
noncomputable def Om (t:Typ):Int:=if (gD 0 8 4096 t).1=0 then (if 4096<eJ 8 t then 9 else 0) else (gD 0 8 4096 t).1
theorem MR (t:Typ)(ht:t.ok):au Tryz.prog aH 31 [t.pv] (.int .i64 (Om t)):=by
 have h94:=D8 8 (by omega) t 1 4096 ht (by omega) (by omega) (by omega)
 have h95:(gD 0 8 4096 t).1=0->au Tryz.prog aH 64 [t.pv] (.int .i64 (eJ 8 t)):=fun h=>gC 8 t (EA 8 t (by omega) (mw 8 4096 t h) ht)
 simp only[Om]
 obtain⟨⟨z,L⟩,hq⟩:∃ q,q=gD 0 8 4096 t:=⟨_,rfl⟩
 rw[<- hq] at h94 h95 ⊢
 simp only at h94 h95 ⊢
 clear hq
 generalize eJ 8 t=G at h95 ⊢
 obtain⟨k,m,M,s,w,e,f⟩:=t
 simp only[Ul] at h94 h95
 refine au.intro Q31.2 (by simp[Q31]) ?_
 by_cases hz:z=0
 ·subst hz
  have h95:=h95 rfl
  rw[if_pos rfl]
  by_cases hg:4096<G
  ·rw[if_pos hg]
   simp(disch:=try exact dI) only[Q31,Ul,push_cast,seval]
   refine ae.lentK h94 [1] rfl qsZ qsZ ?_
   refine zgZ ?_
   refine ae.pure h95 rfl ?_
   simp(disch:=try exact dI) only[hg,push_cast,seval]
  ·rw[if_neg hg]
   simp(disch:=try exact dI) only[Q31,Ul,push_cast,seval]
   refine ae.lentK h94 [1] rfl qsZ qsZ ?_
   refine zgZ ?_
   refine ae.pure h95 rfl ?_
   simp(disch:=try exact dI) only[hg,push_cast,seval]
 ·rw[if_neg hz]
  simp(disch:=try exact dI) only[Q31,Ul,push_cast,seval]
  refine ae.lentK h94 [1] rfl qsZ qsZ ?_
  simp(disch:=try exact dI) only[hz,push_cast,seval]
noncomputable def q8 (t:Typ)(R:Rd):Typ×Int×Int:=
 if R.e=0 then (if Om t=0 then (t,0,0) else (ce,(R.off:Int),Om t)) else (ce,(R.off:Int),R.e)
noncomputable def da (s:List UInt8):Typ×Int×Int:=q8 (cU (aR srt 8 0) 8 (aY s)).1 (dR (cU (aR srt 8 0) 8 (aY s)).2)
theorem HO {t:Typ}{R Q:Rd}(h:R.e=Q.e):(q8 t R).1=(q8 t Q).1/\(q8 t R).2.2=(q8 t Q).2.2:=by
 unfold q8
 rw[<- h]
 split
 ·split<;>exact⟨rfl,rfl⟩
 ·exact⟨rfl,rfl⟩
theorem xA {s s':List UInt8}(hs:s.length<=65536)(hs':s'.length<=65536)(h:Str (aY s) (aY s')) :
  (da s).1=(da s').1/\(da s).2.2=(da s').2.2:=by
 obtain⟨e1,e2⟩:=E5 hs hs' h
 unfold da
 rw[e1]
 exact HO e2
theorem xB (s:List UInt8):(da s).1.ok:=by
 have h:=(Pv (T:=270) (p:=.undef) s).1
 unfold da q8
 split
 ·split
  ·exact h
  ·exact dz
 ·exact dz
section
variable {T:Nat}{p:PV}
theorem uN (s:List UInt8):au Tryz.prog (bE T p) 26 [.str s] (.tup [(da s).1.pv,.int .i64 (da s).2.1,.int .i64 (da s).2.2]):=by
 have h45:=AP (T:=T) (p:=p) s
 obtain⟨hok,h56⟩:=Pv (T:=T) (p:=p) s
 unfold da
 generalize aY s=R0 at *
 generalize cU (aR srt 8 0) 8 R0=q at *
 obtain⟨v,R1⟩:=q
 simp only at hok h56 ⊢
 have h47:=vO (T:=T) (p:=p) R1
 have h31:=toE (T:=T) (p:=p) (MR v hok)
 unfold q8
 generalize dR R1=R2 at *
 generalize Om v=c at *
 obtain⟨w1,w2,w3,w4,w5,w6,w7⟩:=v
 simp only[rdB,rdC,Ul] at h45 h56 h47 h31
 by_cases he:R2.e=0
 ·have heI:(R2.e=0)=True:=eq_true he
  rw[if_pos he]
  by_cases hc:c=0
  ·have hcI:(c=0)=True:=eq_true hc
   rw[if_pos hc]
   refine au.intro Q26.2 (by simp[Q26]) ?_
   simp(disch:=try exact dI) only[Q26,Ul,push_cast,seval]
   refine ae.lentK h45 [] rfl qsZ qsZ ?_
   refine zgZ ?_
   refine ae.lentK h56 [1] rfl qsZ qsZ ?_
   refine zgZ ?_
   refine ae.lentK h47 [1] rfl qsZ qsZ ?_
   simp(disch:=try exact dI) only[heI,push_cast,seval]
   refine ae.pure h31 rfl ?_
   simp(disch:=try exact dI) only[hcI,push_cast,seval]
  ·rw[if_neg hc]
   refine au.intro Q26.2 (by simp[Q26]) ?_
   simp(disch:=try exact dI) only[Q26,Ul,ce,push_cast,seval]
   refine ae.lentK h45 [] rfl qsZ qsZ ?_
   refine zgZ ?_
   refine ae.lentK h56 [1] rfl qsZ qsZ ?_
   refine zgZ ?_
   refine ae.lentK h47 [1] rfl qsZ qsZ ?_
   simp(disch:=try exact dI) only[heI,push_cast,seval]
   refine ae.pure h31 rfl ?_
   simp(disch:=try exact dI) only[hc,push_cast,seval]
 ·rw[if_neg he]
  refine au.intro Q26.2 (by simp[Q26]) ?_
  simp(disch:=try exact dI) only[Q26,Ul,ce,push_cast,seval]
  refine ae.lentK h45 [] rfl qsZ qsZ ?_
  refine zgZ ?_
  refine ae.lentK h56 [1] rfl qsZ qsZ ?_
  refine zgZ ?_
  refine ae.lentK h47 [1] rfl qsZ qsZ ?_
  simp(disch:=try exact dI) only[he,push_cast,seval]
end
section
variable {T:Nat}{p:PV}{Q:AExit->St->Prop}
def TV (Q:AExit->St->Prop)(B:Blk):Prop:=(∀ e n,Q .norm ⟨e,[(0,B)],n⟩)/\(∀ e n m c,m≠0->Q .norm ⟨e,[(m,c),(0,B)],n⟩)/\∀ e n m c,m≠0->Q .norm ⟨e,[(0,B),(m,c)],n⟩
theorem m6 (M:Mo)(i j:Nat)(hij:i<j)(hj:j<=M.s.length)(hs:M.s.length<=65536)(X:List (Nat×AV))(hQ:TV Q (moB (lz (gX (M,j) i) i)))(n0:Nat) :
  vc Tryz.prog (bE T p) 1 ID Q ⟨(0,.ptr 0 0)::(2,.pv (.int .i64 (i:Int)))::(4,.pv (.int .i64 (j:Int)))::X,[(0,moB M)],n0⟩:=by
 unfold ID
 by_cases h0:M.e=0
 ·have h0I:(M.e=0)=True:=eq_true h0
  have hE:gX (M,j) i = { M with x:=(M.s.take j).drop i,nx:=j }:=by unfold gX;rw[if_pos h0]
  rw[hE] at hQ
  by_cases hk:M.k=110
  ·have hkI:((M.k:Int)=110)=True:=eq_true (by omega)
   have hX:(M.s.take j).drop i≠[]:=by
    intro q
    have:=congrArg List.length q
    rw[UC,UM,List.length_nil] at this
    omega
   have hXl:((M.s.take j).drop i).length<=65536:=by rw[UC,UM];omega
   have hd:=toE (T:=T) (p:=p) (DQ ((M.s.take j).drop i) (by omega) hX)
   have hp:=bM (T:=T) (p:=p) (ct ((M.s.take j).drop i))
   have hf:=vS (T:=T) (p:=p) { M with x:=(M.s.take j).drop i,nx:=j } i (aW (ct ((M.s.take j).drop i))).2
   unfold lz at hQ
   rw[if_pos ⟨hk,h0⟩] at hQ
   simp only at hQ
   generalize aW (ct ((M.s.take j).drop i))=r at *
   obtain⟨⟨n,sc⟩,e⟩:=r
   simp only at hp hQ hf
   by_cases he:e=0
   ·have heI:(e=0)=True:=eq_true he
    rw[if_pos he] at hQ
    simp only[moB,moC,UU] at hQ ⊢
    simp(disch:=try exact dI) only[h0I,hkI,push_cast,seval]
    refine ae.pure hd rfl ?_
    refine zgZ ?_
    refine ae.pure hp rfl ?_
    simp(disch:=try exact dI) only[heI,push_cast,seval]
    exact hQ.2.1 _ _ _ _ (by omega)
   ·rw[if_neg he] at hQ
    simp only[moB,moC,UU] at hQ hf ⊢
    simp(disch:=try exact dI) only[h0I,hkI,push_cast,seval]
    refine ae.pure hd rfl ?_
    refine zgZ ?_
    refine ae.pure hp rfl ?_
    simp(disch:=try exact dI) only[he,push_cast,seval]
    refine ae.lentK hf [0] rfl qsZ qsZ ?_
    refine zgZ ?_
    exact hQ.2.2 _ _ _ _ (by omega)
  ·have hkI:¬ (M.k:Int)=110:=by omega
   rw[I9 (M:={ M with x:=(M.s.take j).drop i,nx:=j }) hk] at hQ
   simp only[moB,moC,UU] at hQ ⊢
   simp(disch:=try exact dI) only[h0I,hkI,push_cast,seval]
   exact hQ.1 _ _
 ·have hE:gX (M,j) i=M:=by unfold gX;rw[if_neg h0]
  have hN:lz M i=M:=by unfold lz;rw[if_neg (fun q=>h0 q.2)]
  rw[hE,hN] at hQ
  simp only[moB,moC,UU] at hQ ⊢
  by_cases hk:M.k=110
  ·have hkI:((M.k:Int)=110)=True:=eq_true (by omega)
   simp(disch:=try exact dI) only[h0,hkI,push_cast,seval]
   exact hQ.1 _ _
  ·have hkI:¬ (M.k:Int)=110:=by omega
   simp(disch:=try exact dI) only[h0,hkI,push_cast,seval]
   exact hQ.1 _ _
theorem N4 (M:Mo)(i a:Nat)(v3:AV)(ha:a<=M.s.length)(hs:M.s.length<=65536)(X:List (Nat×AV))(hQ:∀ n,Q .norm ⟨[(0,.ptr 0 0),(2,.pv (.int .i64 (i:Int))),(4,.pv (.int .i64 (aN bA M.s a:Int)))],[(0,moB { M with k:=119 })],n⟩)(n0:Nat) :
  vc Tryz.prog (bE T p) 1 Nm Q ⟨(0,.ptr 0 0)::(2,.pv (.int .i64 (i:Int)))::(3,v3)::(4,.pv (.int .i64 (a:Int)))::X,[(0,moB M)],n0⟩:=by
 obtain⟨w,hw⟩:∃ w,w=aN bA M.s a:=⟨_,rfl⟩
 rw[<- hw] at hQ
 unfold Nm
 simp only[moB,moC,UU] at hQ ⊢
 refine zgZ ?_
 refine kL ([]) (fun y:Nat=>[(4,.pv (.int .i64 (y:Int)))]) (fun _=>[]) (fun y=>y<=M.s.length/\aN bA M.s y=w) (fun y=>M.s.length - y) (a) ([0,2,4]) (fun y=>y=w) ?_;intro e0 σ0 n0 h0;simp(disch:=try exact dI) only[push_cast,seval] at h0;obtain⟨rfl,rfl,rfl⟩:=h0;refine⟨?_,?_,?_,?_⟩
 ·exact qsZ
 ·exact⟨ha,hw.symm⟩
 ·rintro y ⟨hy,hyw⟩
  by_cases hlt:y<M.s.length
  ·obtain⟨b,hb⟩:∃ b,M.s[y]? = some b:=⟨_,Uo hlt⟩
   have hltI:(y:Int)<(M.s.length:Int):=by omega
   rw[eA hb] at hyw
   have hl:=toE (T:=T) (p:=p) (qH b)
   have hd:=toE (T:=T) (p:=p) (ec b)
   cases hL:aM b with
   | true=>
     rw[hL] at hl
     rw[if_pos (by unfold bA;rw[hL];rfl)] at hyw
     simp(disch:=try exact dI) only[hltI,hb,ag,push_cast,seval]
     refine ae.pure hl rfl ?_
     refine zgZ ?_
     exact⟨y+1,bu qsZ,⟨by omega,hyw⟩,by omega⟩
   | false=>
     rw[hL] at hl
     cases hD:isD b with
     | true=>
       rw[hD] at hd
       rw[if_pos (by unfold bA;rw[hL,hD];rfl)] at hyw
       simp(disch:=try exact dI) only[hltI,hb,ag,push_cast,seval]
       refine ae.pure hl rfl ?_
       simp(disch:=try exact dI) only[hb,ag,push_cast,seval]
       refine ae.pure hd rfl ?_
       refine zgZ ?_
       exact⟨y+1,bu qsZ,⟨by omega,hyw⟩,by omega⟩
     | false=>
       rw[hD] at hd
       by_cases h95:b.toNat=95
       ·have h95I:((b.toNat:Int)=95)=True:=eq_true (by omega)
        rw[if_pos (by unfold bA;rw[hL,hD];simp[h95])] at hyw
        simp(disch:=try exact dI) only[hltI,hb,ag,push_cast,seval]
        refine ae.pure hl rfl ?_
        simp(disch:=try exact dI) only[hb,ag,push_cast,seval]
        refine ae.pure hd rfl ?_
        simp(disch:=try exact dI) only[hb,ag,h95I,push_cast,seval]
        exact⟨y+1,bu qsZ,⟨by omega,hyw⟩,by omega⟩
       ·have h95I:¬ (b.toNat:Int)=95:=by omega
        rw[if_neg (by unfold bA;rw[hL,hD];simp[h95])] at hyw
        simp(disch:=try exact dI) only[hltI,hb,ag,push_cast,seval]
        refine ae.pure hl rfl ?_
        simp(disch:=try exact dI) only[hb,ag,push_cast,seval]
        refine ae.pure hd rfl ?_
        simp(disch:=try exact dI) only[hb,ag,h95I,push_cast,seval]
        exact⟨y,hyw,qsZ⟩
  ·have hltI:¬ (y:Int)<(M.s.length:Int):=by omega
   rw[gM (by omega)] at hyw
   simp(disch:=try exact dI) only[hltI,push_cast,seval]
   exact⟨y,hyw,qsZ⟩
 intro y hy s1 hs1;simp(disch:=try exact dI) only[push_cast,seval] at hs1;subst hs1
 subst hy
 refine zgZ ?_
 exact hQ _
theorem Sy {F:St->Prop}(M:Mo)(i a:Nat)(v3:AV)(ha:a<=M.s.length)(hs:M.s.length<=65536)(X:List (Nat×AV))(hF:∀ n,F ⟨[(0,.ptr 0 0),(2,.pv (.int .i64 (i:Int))),(4,.pv (.int .i64 (aN isD M.s a:Int)))],[(0,moB M)],n⟩)(n0:Nat) :
  vc Tryz.prog (bE T p) 1 Ns (zF F Q) ⟨(0,.ptr 0 0)::(2,.pv (.int .i64 (i:Int)))::(3,v3)::(4,.pv (.int .i64 (a:Int)))::X,[(0,moB M)],n0⟩:=by
 obtain⟨w,hw⟩:∃ w,w=aN isD M.s a:=⟨_,rfl⟩
 rw[<- hw] at hF
 unfold Ns
 simp only[moB,moC,UU] at hF ⊢
 refine zgZ ?_
 refine kL ([]) (fun y:Nat=>[(4,.pv (.int .i64 (y:Int)))]) (fun _=>[]) (fun y=>y<=M.s.length/\aN isD M.s y=w) (fun y=>M.s.length - y) (a) ([0,2,4]) (fun y=>y=w) ?_;intro e0 σ0 n0 h0;simp(disch:=try exact dI) only[push_cast,seval] at h0;obtain⟨rfl,rfl,rfl⟩:=h0;refine⟨?_,?_,?_,?_⟩
 ·exact qsZ
 ·exact⟨ha,hw.symm⟩
 ·rintro y ⟨hy,hyw⟩
  by_cases hlt:y<M.s.length
  ·obtain⟨b,hb⟩:∃ b,M.s[y]? = some b:=⟨_,Uo hlt⟩
   have hltI:(y:Int)<(M.s.length:Int):=by omega
   rw[eA hb] at hyw
   have hd:=toE (T:=T) (p:=p) (ec b)
   cases hD:isD b with
   | true=>
     rw[hD] at hd
     rw[if_pos hD] at hyw
     simp(disch:=try exact dI) only[hltI,hb,ag,push_cast,seval]
     refine ae.pure hd rfl ?_
     refine zgZ ?_
     exact⟨y+1,bu qsZ,⟨by omega,hyw⟩,by omega⟩
   | false=>
     rw[hD] at hd
     rw[if_neg (by rw[hD];decide)] at hyw
     simp(disch:=try exact dI) only[hltI,hb,ag,push_cast,seval]
     refine ae.pure hd rfl ?_
     refine zgZ ?_
     exact⟨y,hyw,qsZ⟩
  ·have hltI:¬ (y:Int)<(M.s.length:Int):=by omega
   rw[gM (by omega)] at hyw
   simp(disch:=try exact dI) only[hltI,push_cast,seval]
   exact⟨y,hyw,qsZ⟩
 intro y hy s1 hs1;simp(disch:=try exact dI) only[push_cast,seval] at hs1;subst hs1
 subst hy
 exact hF _
theorem P1 {F:St->Prop}(M:Mo)(i a:Nat)(ha:a<=M.s.length)(hs:M.s.length<=65536)(X:List (Nat×AV))(hF:∀ n,F ⟨[(0,.ptr 0 0),(2,.pv (.int .i64 (i:Int))),(4,.pv (.int .i64 (aN isD M.s a:Int)))],[(0,moB M)],n⟩)(n0:Nat) :
  vc Tryz.prog (bE T p) 1 Nr (zF F Q) ⟨(0,.ptr 0 0)::(2,.pv (.int .i64 (i:Int)))::(4,.pv (.int .i64 (a:Int)))::X,[(0,moB M)],n0⟩:=by
 obtain⟨w,hw⟩:∃ w,w=aN isD M.s a:=⟨_,rfl⟩
 rw[<- hw] at hF
 unfold Nr
 simp only[moB,moC,UU] at hF ⊢
 refine zgZ ?_
 refine kL ([]) (fun y:Nat=>[(4,.pv (.int .i64 (y:Int)))]) (fun _=>[]) (fun y=>y<=M.s.length/\aN isD M.s y=w) (fun y=>M.s.length - y) (a) ([0,2,4]) (fun y=>y=w) ?_;intro e0 σ0 n0 h0;simp(disch:=try exact dI) only[push_cast,seval] at h0;obtain⟨rfl,rfl,rfl⟩:=h0;refine⟨?_,?_,?_,?_⟩
 ·exact qsZ
 ·exact⟨ha,hw.symm⟩
 ·rintro y ⟨hy,hyw⟩
  by_cases hlt:y<M.s.length
  ·obtain⟨b,hb⟩:∃ b,M.s[y]? = some b:=⟨_,Uo hlt⟩
   have hltI:(y:Int)<(M.s.length:Int):=by omega
   rw[eA hb] at hyw
   have hd:=toE (T:=T) (p:=p) (ec b)
   cases hD:isD b with
   | true=>
     rw[hD] at hd
     rw[if_pos hD] at hyw
     simp(disch:=try exact dI) only[hltI,hb,ag,push_cast,seval]
     refine ae.pure hd rfl ?_
     refine zgZ ?_
     exact⟨y+1,bu qsZ,⟨by omega,hyw⟩,by omega⟩
   | false=>
     rw[hD] at hd
     rw[if_neg (by rw[hD];decide)] at hyw
     simp(disch:=try exact dI) only[hltI,hb,ag,push_cast,seval]
     refine ae.pure hd rfl ?_
     refine zgZ ?_
     exact⟨y,hyw,qsZ⟩
  ·have hltI:¬ (y:Int)<(M.s.length:Int):=by omega
   rw[gM (by omega)] at hyw
   simp(disch:=try exact dI) only[hltI,push_cast,seval]
   exact⟨y,hyw,qsZ⟩
 intro y hy s1 hs1;simp(disch:=try exact dI) only[push_cast,seval] at hs1;subst hs1
 subst hy
 exact hF _
end
