/- A part of the proof. -/
import Derived.Test.YtbaaokocnegdoaaGreatDoorAgVSd
set_option linter.unusedVariables false
set_option linter.unusedSimpArgs false
set_option maxHeartbeats 16000000
set_option maxRecDepth 100000
namespace Go.Proofs.YtbaaokocnegdoaaGreatDoor
open Go Go.Ab
attribute [local irreducible] vc
def N6 (n:Nat):Prop:=∀ (t:Typ) (d l:Int),cp n t->aX n t->0<=d->d+n<=9->rz n<=l->l<=4096 ->
 bk Tryz.prog au 1 94 [.pv t.pv,.pv (.int .i64 d),.ptr 0 0] [.cells 3 true [.pv (.int .i64 l)]] (.pv (.int .i64 (i6 n l t).1)) [.cells 3 true [.pv (.int .i64 (i6 n l t).2)]]
theorem uo {n:Nat}{k m M s:Int}{w:List (List UInt8)}{e:List Typ}{f:List TFd}(h:cp (n+1) (.mk k m M s w e f)):ae Tryz.prog au 143 [(Typ.mk k m M s w e f).pv] (.int .i64 (jk (.mk k m M s w e f)))/\ae Tryz.prog au 144 [(Typ.mk k m M s w e f).pv] (.list ((bu (.mk k m M s w e f)).map Typ.pv))/\∀ x∈bu (.mk k m M s w e f),cp n x:=by
 simp only[cp] at h
 obtain⟨h1,h2,h3,h4,h5,h6⟩:=h
 refine⟨Pp m M s w e f k (fun x hx=>by have:=h2 x hx;omega) (by omega) (by omega) (by omega),Hp k m M s w e f (by omega),?_⟩
 by_cases h8:k=8
 ·rw[show bu (.mk k m M s w e f)=e from if_pos h8]
  exact h5
 ·by_cases h9:k=9\/k=10
  ·rw[show bu (.mk k m M s w e f)=f.map TFd.typ by simp only[bu];rw[if_neg h8,if_pos h9]]
   intro x hx
   obtain⟨g,hg,rfl⟩:=List.mem_map.1 hx
   exact (h6 g hg).2.2
  ·rw[show bu (.mk k m M s w e f)=[] by simp only[bu];rw[if_neg h8,if_neg h9]]
   intro x hx;cases hx
theorem EK (n:Nat)(ih:N6 n)(k m M s:Int)(w:List (List UInt8))(e:List Typ)(f:List TFd)(d l:Int)(ht:cp (n+1) (.mk k m M s w e f))(hn:aX (n+1) (.mk k m M s w e f))(hd:0<=d)(hdn:d+(n+1:Nat)<=9)(hl:rz (n+1)<=l)(hl2:l<=4096)(hk:¬ k=9) :
  bk Tryz.prog au 1 94 [.pv (Typ.mk k m M s w e f).pv,.pv (.int .i64 d),.ptr 0 0] [.cells 3 true [.pv (.int .i64 l)]] (.pv (.int .i64 (i6 (n+1) l (.mk k m M s w e f)).1)) [.cells 3 true [.pv (.int .i64 (i6 (n+1) l (.mk k m M s w e f)).2)]]:=by
 obtain⟨h143,h144,hpt⟩:=uo ht
 obtain⟨hp6,hpn⟩:=gJ hn
 have hc0:=j1 n
 have hrem:=nK hc0 hp6
 rw[rz] at hl
 have hl0:¬ l=0:=by omega
 have hd8:¬ 8<d:=by omega
 rw[i6,if_neg hk]
 generalize bu (.mk k m M s w e f)=ps at *
 generalize jk (.mk k m M s w e f)=z at *
 simp only[Typ.pv_mk] at h143 h144 ⊢
 by_cases hz:z=0
 ·subst hz
  rw[if_pos rfl]
  obtain⟨R,hR⟩:∃ R,R=gP (i6 n) (l - 1) ps:=⟨_,rfl⟩
  rw[<- hR]
  refine bk.intro jH.2 (by simp[jH]) ?_
  simp(disch:=try exact dI) only[jH,hl0,hd8,push_cast,seval]
  refine ab.pure h143 rfl ?_
  refine zgZ ?_
  refine ab.pure h144 rfl ?_
  refine zgZ ?_
  refine aC ([]) (fun x:Nat×Int=>[(32,.pv (.int .i64 (x.1:Int)))]) (fun x=>[(0,.cells 3 true [.pv (.int .i64 x.2)])]) (fun x=>x.1<=ps.length/\R=gP (i6 n) x.2 (ps.drop x.1)/\nL (rz n) (ps.drop x.1)<=x.2/\x.2<=4096) (fun x=>ps.length - x.1) ((0,l - 1)) ?_;intro e0 σ0 n0 h0;simp(disch:=try exact dI) only[push_cast,seval] at h0;obtain⟨rfl,rfl,rfl⟩:=h0;refine⟨?_,?_,?_⟩
  ·exact qsZ
  ·exact⟨by simp,by simpa using hR,by simpa using (show nL (rz n) ps<=l - 1 by omega),by simp only;omega⟩
  rintro⟨i,L⟩ ⟨hi,hr,hL,hL2⟩
  simp only at hi hr hL hL2
  by_cases hlt:i<ps.length
  ·have hltI:(i:Int)<(ps.length:Int):=by omega
   obtain⟨x,hx⟩:∃ x,ps[i]? = some x:=⟨_,List.getElem?_eq_getElem hlt⟩
   have hxm:=List.mem_of_getElem? hx
   obtain⟨hr1,hr2⟩:=pl hc0 hx
   have hcall:=ih x (d+1) L (hpt x hxm) (hpn x hxm) (by omega) (by omega) (by omega) hL2
   have hleft:=g8 n x (hpn x hxm) L (by omega)
   rw[yz hx] at hr
   obtain⟨⟨e1,e2⟩,he⟩:∃ q,q=i6 n L x:=⟨_,rfl⟩
   rw[<- he] at hcall hleft hr
   simp only at hcall hleft hr
   obtain⟨k',m',M',s',w',e',f'⟩:=x
   simp only[Typ.pv_mk] at hcall
   simp(disch:=try exact dI) only[hx,Option.map_some,Typ.pv_mk,ak,push_cast,seval]
   refine ab.lentK hcall [0] rfl qsZ qsZ ?_
   by_cases he0:e1=0
   ·subst he0
    rw[if_pos rfl] at hr
    simp(disch:=try exact dI) only[hk,push_cast,seval]
    exact⟨(i+1,e2),aR qsZ,⟨by simp only;omega,hr,by simp only;omega,by simp only;omega⟩,by simp only;omega⟩
   ·rw[if_neg he0] at hr
    subst hr
    simp(disch:=try exact dI) only[he0,push_cast,seval]
    exact aA [] qsZ
  ·obtain rfl:i=ps.length:=by omega
   rw[List.drop_length,gP] at hr
   subst hr
   simp(disch:=try exact dI) only[Int.lt_irrefl,push_cast,seval]
   exact aA [] qsZ
 ·rw[if_neg hz]
  refine bk.intro jH.2 (by simp[jH]) ?_
  simp(disch:=try exact dI) only[jH,hl0,hd8,push_cast,seval]
  refine ab.pure h143 rfl ?_
  simp(disch:=try exact dI) only[hz,push_cast,seval]
  exact aA [] qsZ
theorem EL (n:Nat)(ih:N6 n)(m M s:Int)(w:List (List UInt8))(e:List Typ)(f:List TFd)(d l:Int)(ht:cp (n+1) (.mk 9 m M s w e f))(hn:aX (n+1) (.mk 9 m M s w e f))(hd:0<=d)(hdn:d+(n+1:Nat)<=9)(hl:rz (n+1)<=l)(hl2:l<=4096) :
  bk Tryz.prog au 1 94 [.pv (Typ.mk 9 m M s w e f).pv,.pv (.int .i64 d),.ptr 0 0] [.cells 3 true [.pv (.int .i64 l)]] (.pv (.int .i64 (i6 (n+1) l (.mk 9 m M s w e f)).1)) [.cells 3 true [.pv (.int .i64 (i6 (n+1) l (.mk 9 m M s w e f)).2)]]:=by
 obtain⟨h143,h144,hpt⟩:=uo ht
 have hown:=cn (k:=9) (m:=m) (M:=M) (s:=s) (w:=w) (e:=e) (f:=f)
 rw[show bu (.mk 9 m M s w e f)=f.map TFd.typ from rfl] at h144 hpt
 simp only[cp] at ht
 simp only[aX] at hn
 have hc0:=j1 n
 have hrem:=nK hc0 hn.2.1
 rw[rz] at hl
 have hl0:¬ l=0:=by omega
 have hd8:¬ 8<d:=by omega
 rw[i6,if_pos rfl]
 generalize jk (.mk 9 m M s w e f)=z at *
 simp only[Typ.pv_mk] at h143 h144 ⊢
 by_cases hz:z=0
 ·have hfl:=(hown hz).2.2.2
  clear hown
  subst hz
  rw[if_pos rfl]
  obtain⟨R,hR⟩:∃ R,R=fL n (i6 n) (l - 1) f:=⟨_,rfl⟩
  rw[<- hR]
  refine bk.intro jH.2 (by simp[jH]) ?_
  simp(disch:=try exact dI) only[jH,hl0,hd8,push_cast,seval]
  refine ab.pure h143 rfl ?_
  refine zgZ ?_
  refine ab.pure h144 rfl ?_
  refine zgZ ?_
  refine aC ([]) (fun x:Nat×Int=>[(32,.pv (.int .i64 (x.1:Int)))]) (fun x=>[(0,.cells 3 true [.pv (.int .i64 x.2)])]) (fun x=>x.1<=f.length/\R=fL n (i6 n) x.2 (f.drop x.1)/\nL (rz n) (f.drop x.1)<=x.2/\x.2<=4096) (fun x=>f.length - x.1) ((0,l - 1)) ?_;intro e0 σ0 n0 h0;simp(disch:=try exact dI) only[push_cast,seval] at h0;obtain⟨rfl,rfl,rfl⟩:=h0;refine⟨?_,?_,?_⟩
  ·exact qsZ
  ·exact⟨by simp,by simpa using hR,by simpa using (show nL (rz n) f<=l - 1 by omega),by simp only;omega⟩
  rintro⟨i,L⟩ ⟨hi,hr,hL,hL2⟩
  simp only at hi hr hL hL2
  by_cases hlt:i<f.length
  ·have hltI:(i:Int)<(f.length:Int):=by omega
   obtain⟨g,hg⟩:∃ g,f[i]? = some g:=⟨_,List.getElem?_eq_getElem hlt⟩
   have hgm:=List.mem_of_getElem? hg
   obtain⟨hr1,hr2⟩:=pl hc0 hg
   have hgt:=hpt g.typ (List.mem_map_of_mem hgm)
   have hgn:=hn.2.2.2 g hgm
   have hcall:=ih g.typ (d+1) L hgt hgn (by omega) (by omega) (by omega) hL2
   have hleft:=g8 n g.typ hgn L (by omega)
   have hty:=iZ n L g.typ hgn
   have hfe:=eB f [] hfl g hgm
   have hgd:=(ht.2.2.2.2.2 g hgm).2.1
   rw[yN hg] at hr
   obtain⟨⟨e1,e2⟩,he⟩:∃ q,q=i6 n L g.typ:=⟨_,rfl⟩
   rw[<- he] at hcall hleft hr hty
   clear he
   obtain⟨n',nm',nd',t',d'⟩:=g
   simp only[TFd.typ,TFd.dflt] at hcall hleft hr hty hgt hgn hgd
   by_cases he0:e1=0
   ·subst he0
    rw[if_pos rfl] at hr
    by_cases h3:nd'=3
    ·subst h3
     obtain⟨b,hb⟩:=hfe
     obtain⟨x,r,rfl⟩:=m9 hb
     obtain⟨hx1,hx2,hx3⟩:=hgd x (List.mem_cons_self ..)
     have hacc:=At n t' x hx2 hx1.1 (fun hc=>oc n 9 t' x (hty rfl) hgt (FT hx2 hc) hx1)
     simp only[tL,tw,decide_true,Bool.true_and] at hr
     generalize accB n t' x=q at hacc hr
     obtain⟨k',m',M',s',w',e',f'⟩:=t'
     obtain⟨vk,vn,vs,vt,vl,vf⟩:=x
     simp only[Typ.pv_mk,Val.pv_mk] at hcall hacc
     simp(disch:=try exact dI) only[hg,Option.map_some,TFd.typ,Typ.pv_mk,ak,push_cast,seval]
     refine ab.lentK hcall [0] rfl qsZ qsZ ?_
     simp(disch:=try exact dI) only[hg,Option.map_some,TFd.pv_mk,Typ.pv_mk,Val.pv_mk,ak,aE,push_cast,seval]
     refine ab.pure hacc rfl ?_
     cases q with
     | true=>
       rw[if_neg (by decide)] at hr
       refine zgZ ?_
       exact⟨(i+1,e2),aR qsZ,⟨by simp only;omega,hr,by simp only;omega,by simp only;omega⟩,by simp only;omega⟩
     | false=>
       rw[if_pos (by decide)] at hr
       subst hr
       refine zgZ ?_
       exact aA [] qsZ
    ·rw[if_neg (by simp[tL,h3])] at hr
     obtain⟨k',m',M',s',w',e',f'⟩:=t'
     simp only[Typ.pv_mk] at hcall
     simp(disch:=try exact dI) only[hg,Option.map_some,TFd.typ,Typ.pv_mk,ak,push_cast,seval]
     refine ab.lentK hcall [0] rfl qsZ qsZ ?_
     simp(disch:=try exact dI) only[hg,Option.map_some,TFd.pv_mk,Typ.pv_mk,ak,h3,push_cast,seval]
     exact⟨(i+1,e2),aR qsZ,⟨by simp only;omega,hr,by simp only;omega,by simp only;omega⟩,by simp only;omega⟩
   ·rw[if_neg he0] at hr
    subst hr
    obtain⟨k',m',M',s',w',e',f'⟩:=t'
    simp only[Typ.pv_mk] at hcall
    simp(disch:=try exact dI) only[hg,Option.map_some,TFd.typ,Typ.pv_mk,ak,push_cast,seval]
    refine ab.lentK hcall [0] rfl qsZ qsZ ?_
    simp(disch:=try exact dI) only[he0,push_cast,seval]
    exact aA [] qsZ
  ·obtain rfl:i=f.length:=by omega
   rw[List.drop_length,fL] at hr
   subst hr
   simp(disch:=try exact dI) only[Int.lt_irrefl,push_cast,seval]
   exact aA [] qsZ
 ·rw[if_neg hz]
  refine bk.intro jH.2 (by simp[jH]) ?_
  simp(disch:=try exact dI) only[jH,hl0,hd8,push_cast,seval]
  refine ab.pure h143 rfl ?_
  simp(disch:=try exact dI) only[hz,push_cast,seval]
  exact aA [] qsZ
theorem EM:∀ n,N6 n
 | 0=>fun _ _ _ h=>h.elim
 | n+1=>fun t d l ht hn hd hdn hl hl2=>by
   have ih:=EM n
   obtain⟨k,m,M,s,w,e,f⟩:=t
   by_cases hk:k=9
   ·subst hk;exact EL n ih m M s w e f d l ht hn hd hdn hl hl2
   ·exact EK n ih k m M s w e f d l ht hn hd hdn hl hl2 hk
theorem CH {k m M s:Int}{w:List (List UInt8)}{e:List Typ}{f:List TFd}(h:jk (.mk k m M s w e f)=0):(¬ k=8->e=[])/\(¬ (k=9\/k=10)->f=[]):=by
 rw[jk] at h
 by_cases a:inB k 1 10=false
 ·rw[if_pos a] at h;exact absurd h (by decide)
 rw[if_neg a] at h
 have hr:1<=k/\k<=10:=by simpa[inB] using a
 by_cases b:lu k (.mk k m M s w e f)=true
 ·rw[if_pos b] at h;exact absurd h (by decide)
 have b':lu k (.mk k m M s w e f)=false:=by simpa using b
 simp only[lu,lx,Bool.or_eq_false_iff] at b'
 obtain⟨_,_,_,b4,b5⟩:=b'
 refine⟨fun h8=>?_,fun h9=>?_⟩
 ·rw[decide_eq_false h8] at b4
  exact List.length_eq_zero_iff.1 (by simpa using b4)
 ·have h9':¬ 9<=k:=by omega
  rw[decide_eq_false h9'] at b5
  exact List.length_eq_zero_iff.1 (by simpa using b5)
theorem Mh {m M s:Int}{w:List (List UInt8)}{e:List Typ}{f:List TFd}(h:jk (.mk 8 m M s w e f)=0):m<=256:=by
 have hb:=(cn h).2.1
 unfold eW at hb
 rw[if_neg (fun hh=>absurd hh.1 (by decide))] at hb
 by_cases hc:(2<=(8:Int)/\(8:Int)<=8)/\(M<m\/m<loK 8\/hiK 8<M)
 ·rw[if_pos hc] at hb;exact absurd hb (by decide)
 ·have h2:¬ (M<m\/m<loK 8\/hiK 8<M):=fun hh=>hc ⟨by decide,hh⟩
  rw[show hiK 8=256 from rfl] at h2
  omega
theorem Mg {m M s:Int}{w:List (List UInt8)}{e:List Typ}{f:List TFd}(h:jk (.mk 10 m M s w e f)=0):∃ g r,f=g::r:=by
 have h1:=(cn h).2.2.1
 cases f with
 | cons g r=>exact⟨g,r,rfl⟩
 | nil=>simp[cC] at h1
theorem Po {k m M s:Int}{w:List (List UInt8)}{e:List Typ}{f:List TFd}(h:jk (.mk k m M s w e f)=0):f.length<=64:=by
 have h1:=(cn h).2.2.1
 by_cases hc:64<f.length
 ·exfalso
  unfold cC at h1
  repeat' split at h1
  all_goals first | exact absurd h1 (by decide) | omega
 ·omega
theorem jQ:∀ (n N:Nat) (t:Typ),n<=N->tyV n t->cp n t->eJ N t
 | 0,_,_,_,h,_=>h.elim
 | _+1,0,_,h,_,_=>absurd h (by omega)
 | n+1,N+1,.mk k m M s w e f,hN,h,ht=>by
   obtain⟨ho,h8,h9⟩:=h
   simp only[cp] at ht
   obtain⟨t1,t2,t3,t4,t5,t6⟩:=ht
   refine⟨fun hk hm=>?_,fun hk=>?_,fun hk=>⟨Po ho,fun g hg=>?_⟩⟩
   ·subst hk
    obtain⟨x,rfl⟩:=uO ho
    exact⟨Mh ho,x,[],rfl,jQ n N x (by omega) (h8 rfl x (List.mem_cons_self ..)) (t5 x (List.mem_cons_self ..))⟩
   ·subst hk
    obtain⟨g,r,rfl⟩:=Mg ho
    exact⟨g,r,rfl,jQ n N g.typ (by omega) (h9 (.inr rfl) g (List.mem_cons_self ..)) (t6 g (List.mem_cons_self ..)).2.2⟩
   ·subst hk
    have hs:=jQ n N g.typ (by omega) (h9 (.inl rfl) g hg) (t6 g hg).2.2
    obtain⟨b,hb⟩:=eB f [] (cn ho).2.2.2 g hg
    have hd:=(t6 g hg).2.1
    obtain⟨n',nm',nd',t',d'⟩:=g
    refine⟨fun _=>hs,fun h3=>?_⟩
    subst h3
    obtain⟨x,r,rfl⟩:=m9 hb
    obtain⟨x1,x2,x3⟩:=hd x (List.mem_cons_self ..)
    exact⟨x,r,rfl,x2,x1.1,x3⟩
theorem Fc:∀ (n:Nat) (t:Typ),n<=9->tyV n t->cp n t->QX n t
 | 0,_,_,h,_=>h.elim
 | n+1,.mk k m M s w e f,hN,h,ht=>by
   have hs:=jQ (n+1) 9 _ hN h ht
   obtain⟨ho,h8,h9⟩:=h
   obtain⟨he,hf⟩:=CH ho
   simp only[cp] at ht
   obtain⟨t1,t2,t3,t4,t5,t6⟩:=ht
   refine⟨hs,by omega,by omega,fun x hx=>?_,fun g hg=>?_⟩
   ·by_cases hk:k=8
    ·exact Fc n x (by omega) (h8 hk x hx) (t5 x hx)
    ·rw[he hk] at hx;cases hx
   ·by_cases hk:k=9\/k=10
    ·exact Fc n g.typ (by omega) (h9 hk g hg) (t6 g hg).2.2
    ·rw[hf hk] at hg;cases hg
def Ln (n:Nat)(t:Typ):Int:=if (i6 n 4096 t).1=0 then (if 4096<dW n t then 9 else 0) else (i6 n 4096 t).1
theorem Nw (n:Nat)(t:Typ)(hn:n<=5)(ht:cp n t)(hw:aX n t):ae Tryz.prog au 48 [t.pv] (.int .i64 (Ln n t)):=by
 have hcnt:rz n<=4096:=by
  have hc:n=0\/n=1\/n=2\/n=3\/n=4\/n=5:=by omega
  rcases hc with rfl | rfl | rfl | rfl | rfl | rfl<;>decide
 have h94:=EM n t 1 4096 ht hw (by omega) (by omega) hcnt (by omega)
 have h95:(i6 n 4096 t).1=0->ae Tryz.prog au 95 [t.pv] (.int .i64 (dW n t)):=fun h=>fS n t (Fc n t (by omega) (iZ n 4096 t hw h) ht)
 simp only[Ln]
 obtain⟨⟨z,L⟩,hq⟩:∃ q,q=i6 n 4096 t:=⟨_,rfl⟩
 rw[<- hq] at h94 h95 ⊢
 simp only at h94 h95 ⊢
 clear hq
 generalize dW n t=G at h95 ⊢
 obtain⟨k,m,M,s,w,e,f⟩:=t
 simp only[Typ.pv_mk] at h94 h95
 refine ae.intro Fx.2 (by simp[Fx]) ?_
 by_cases hz:z=0
 ·subst hz
  have h95:=h95 rfl
  rw[if_pos rfl]
  by_cases hg:4096<G
  ·rw[if_pos hg]
   simp(disch:=try exact dI) only[Fx,Typ.pv_mk,push_cast,seval]
   refine ab.lentK h94 [1] rfl qsZ qsZ ?_
   refine zgZ ?_
   refine ab.pure h95 rfl ?_
   simp(disch:=try exact dI) only[hg,push_cast,seval]
  ·rw[if_neg hg]
   simp(disch:=try exact dI) only[Fx,Typ.pv_mk,push_cast,seval]
   refine ab.lentK h94 [1] rfl qsZ qsZ ?_
   refine zgZ ?_
   refine ab.pure h95 rfl ?_
   simp(disch:=try exact dI) only[hg,push_cast,seval]
 ·rw[if_neg hz]
  simp(disch:=try exact dI) only[Fx,Typ.pv_mk,push_cast,seval]
  refine ab.lentK h94 [1] rfl qsZ qsZ ?_
  simp(disch:=try exact dI) only[hz,push_cast,seval]
def szN:Nat->Val->Nat
 | 0,_=>0
 | n+1,v=>1+((bq v).map (szN n)).sum
theorem lz {α β:Type}{p:α->List β}{q:α->Nat}:∀ (l:List α),(∀ x∈l,(p x).length=q x)->(l.flatMap p).length=(l.map q).sum
 | [],_=>rfl
 | x::r,h=>by
   rw[List.flatMap_cons,List.length_append,h x (List.mem_cons_self ..),lz r fun y hy=>h y (List.mem_cons_of_mem _ hy)]
   simp
theorem Cy:∀ (n:Nat) (lv:Int) (v:Val),(dm n lv v).length=szN n v
 | 0,_,_=>rfl
 | n+1,lv,v=>by
   rw[dm,szN,List.length_cons,lz _ fun x _=>Cy n (lv+1) x]
   omega
section
variable (m M s:Int)(w:List (List UInt8))(e:List Typ)(f:List TFd)
end
def OI (k nd:Int)(d:List Val):Int:=if inB nd 1 3=false then 11 else if k=10/\¬ nd=1 then 11 else if nd=3/\d.length=0 then 4 else if 1<d.length then 3 else if ¬ nd=3/\0<d.length then 3 else 0
theorem qC (k:Int)(b:List TFd)(n:Int)(nm:List UInt8)(nd:Int)(t:Typ)(d:List Val):cZ k b (.mk n nm nd t d)=if dB nm=false then 12 else if inB n 1 9999=false then 2 else if b.any (oK n nm)=true then 7 else OI k nd d:=rfl
theorem fC:∀ (n:Nat) (v:Val),fM n v->fM (n+1) v
 | 0,_,h=>h.elim
 | n+1,v,h=>fun x hx=>fC n x (h x hx)
theorem pvs_map:∀ (l:List PV),pvs (l.map AV.pv)=some l
 | []=>rfl
 | x::r=>by rw[List.map_cons,nR];rw[pvs_map r];rfl
section
variable (m M s:Int)(w:List (List UInt8))(e:List Typ)(f:List TFd)
end
end Go.Proofs.YtbaaokocnegdoaaGreatDoor
