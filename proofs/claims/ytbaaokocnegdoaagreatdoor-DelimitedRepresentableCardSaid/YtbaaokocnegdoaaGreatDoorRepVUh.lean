/- A part of the proof for DelimitedRepresentableCardSaid. -/
import Derived.Test.YtbaaokocnegdoaaGreatDoorRepVUg
import Derived.Test.YtbaaokocnegdoaaGreatDoorRepVSi
import Derived.Test.YtbaaokocnegdoaaGreatDoorRepVU9
import Derived.Test.YtbaaokocnegdoaaGreatDoorCore5
set_option maxRecDepth 100000
set_option linter.unusedVariables false
set_option linter.unusedSimpArgs false
-- many steps
namespace Go.Proofs.YtbaaokocnegdoaaGreatDoor
open Go Go.Ab
attribute [local irreducible] vc
theorem gI {k:Int}{b:List TFd}{n:Int}{nm:List UInt8}{nd:Int}{t:Typ}{d:List Val}(h:bD k b (.mk n nm nd t d)=0):fq k nd d=0:=by
 rw[nl] at h
 repeat' split at h
 all_goals first | exact absurd h (by decide) | exact h
theorem iP {k nd:Int}{d:List Val}(h:fq k nd d=0):(k=10→nd=1)∧((nd=3∧d.length=1)∨(¬ nd=3∧d.length=0)):=by
 unfold fq at h
 by_cases h1:inB nd 1 3=false
 ·rw[if_pos h1] at h;exact absurd h (by decide)
 rw[if_neg h1] at h
 by_cases h2:k=10∧¬ nd=1
 ·rw[if_pos h2] at h;exact absurd h (by decide)
 rw[if_neg h2] at h
 by_cases h3:nd=3∧d.length=0
 ·rw[if_pos h3] at h;exact absurd h (by decide)
 rw[if_neg h3] at h
 by_cases h4:1<d.length
 ·rw[if_pos h4] at h;exact absurd h (by decide)
 rw[if_neg h4] at h
 by_cases h5:¬ nd=3∧0<d.length
 ·rw[if_pos h5] at h;exact absurd h (by decide)
 refine⟨fun hk=>Decidable.byContradiction fun hh=>h2 ⟨hk,hh⟩,?_⟩
 by_cases hn:nd=3
 ·exact .inl ⟨hn,by have:¬ d.length=0:=fun hh=>h3 ⟨hn,hh⟩;omega⟩
 ·exact .inr ⟨hn,by have:¬ 0<d.length:=fun hh=>h5 ⟨hn,hh⟩;omega⟩
theorem ky {n:Nat}{rec:Int→Typ→Int×Int}:∀ (f:List TFd) (l:Int),(∀ g∈f,nA n g=false)→d9 rec l (f.map TFd.typ)=dN n rec l f
 | [],_,_=>rfl
 | x::r,l,h=>by
   rw[List.map_cons,d9,dN,h x (List.mem_cons_self ..),if_neg (show ¬ false=true by decide)]
   split
   ·exact ky r _ fun g hg=>h g (List.mem_cons_of_mem _ hg)
   ·rfl
theorem zo (rec:Int→Typ→Int×Int)(l:Int)(t:Typ):d9 rec l [t]=rec l t:=by
 rw[d9]
 split
 ·rename_i h;rw[d9];exact Prod.ext h.symm rfl
 ·rfl
theorem AI {n:Nat}{k m M s:Int}{w:List (List UInt8)}{e:List Typ}{f:List TFd}(h:bF (.mk k m M s w e f)=0)(h8:¬ k=8)(l:Int):dH (n+1) l (.mk k m M s w e f)=dN n (dH n) (l - 1) f:=by
 rw[dH,if_pos h]
 by_cases h9:k=9
 ·rw[if_pos h9]
 rw[if_neg h9]
 by_cases h10:k=10
 ·subst h10
  rw[show bh (.mk 10 m M s w e f)=f.map TFd.typ from rfl]
  refine ky f _ fun g hg=>?_
  obtain⟨b,hb⟩:=bS f [] (bY h).2.2.2 g hg
  obtain⟨n',nm',nd',t',d'⟩:=g
  obtain rfl:=(iP (gI hb)).1 rfl
  rfl
 ·obtain rfl:=(fV h).2 (by omega)
  rw[show bh (.mk k m M s w e [])=[] by simp only[bh];rw[if_neg h8,if_neg (by omega)]]
  rfl
def JL (n:Nat):Prop:=∀ (t:Typ) (d l:Int),bt n t→aS n t→0≤d→d+n≤9→iE n≤l→l≤4096 →
 bM Tryz.prog aE 1 98 [.pv t.pv,.pv (.int .i64 d),.ptr 0 0] [.cells 3 true [.pv (.int .i64 l)]] (.pv (.int .i64 (dH n l t).1)) [.cells 3 true [.pv (.int .i64 (dH n l t).2)]]
theorem lU {n:Nat}{k m M s:Int}{w:List (List UInt8)}{e:List Typ}{f:List TFd}(h:bt (n+1) (.mk k m M s w e f)):am Tryz.prog aE 148 [(Typ.mk k m M s w e f).pv] (.int .i64 (bF (.mk k m M s w e f))):=by
 simp only[bt] at h
 exact LO m M s w e f k (fun x hx=>by have:=h.2.1 x hx;omega)
set_option maxHeartbeats 4000000 in
theorem vY (n:Nat)(ih:JL n)(m M s:Int)(w:List (List UInt8))(e:List Typ)(f:List TFd)(d l:Int)(ht:bt (n+1) (.mk 8 m M s w e f))(hn:aS (n+1) (.mk 8 m M s w e f))(hd:0≤d)(hdn:d+(n+1:Nat)≤9)(hl:iE (n+1)≤l)(hl2:l≤4096) :
  bM Tryz.prog aE 1 98 [.pv (Typ.mk 8 m M s w e f).pv,.pv (.int .i64 d),.ptr 0 0] [.cells 3 true [.pv (.int .i64 l)]] (.pv (.int .i64 (dH (n+1) l (.mk 8 m M s w e f)).1)) [.cells 3 true [.pv (.int .i64 (dH (n+1) l (.mk 8 m M s w e f)).2)]]:=by
 have h148:=lU ht
 have hpt:=(kP ht).2.2
 have hc0:=e7 n
 simp only[aS] at hn
 rw[iE] at hl
 have hl0:¬ l=0:=by omega
 have hd8:¬ 8<d:=by omega
 by_cases hz:bF (.mk 8 m M s w e f)=0
 ·obtain⟨x,rfl⟩:=ix hz
  have hxt:=hpt x (by rw[show bh (.mk 8 m M s w [x] f)=[x] from rfl];exact List.mem_cons_self ..)
  have hcall:=ih x (d+1) (l - 1) hxt (hn.2.2.1 x (List.mem_cons_self ..)) (by omega) (by omega) (by omega) (by omega)
  rw[dH,if_pos hz,if_neg (by decide),show bh (.mk 8 m M s w [x] f)=[x] from rfl,zo]
  rw[hz] at h148
  obtain⟨⟨e1,e2⟩,he⟩:∃ q,q=dH n (l - 1) x:=⟨_,rfl⟩
  rw[← he] at hcall ⊢
  clear he hz hxt hpt
  obtain⟨k',m',M',s',w',e',f'⟩:=x
  simp only[Typ.pv_mk,List.map_cons,List.map_nil] at h148 hcall
  simp only at hcall ⊢
  refine bM.intro rO (by simp[F98]) ?_
  simp(maxSteps:=9^7) (disch:=first|exact dI|fail) only[F98,Typ.pv_mk,hl0,hd8,push_cast,seval]
  refine ab.pure h148 rfl ?_
  simp(maxSteps:=9^7) (disch:=first|exact dI|fail) only[Typ.pv_mk,aT,ag,push_cast,seval]
  refine ab.lentK hcall [0] rfl (by simp(maxSteps:=9^7) (disch:=first|exact dI|fail) only[push_cast,seval]) (by simp(maxSteps:=9^7) (disch:=first|exact dI|fail) only[push_cast,seval]) ?_
  simp(maxSteps:=9^7) (disch:=first|exact dI|fail) only[push_cast,seval]
  exact aJ [] (by simp(maxSteps:=9^7) (disch:=first|exact dI|fail) only[push_cast,seval])
 ·rw[dH,if_neg hz]
  generalize bF (.mk 8 m M s w e f)=z at *
  simp only[Typ.pv_mk] at h148 ⊢
  refine bM.intro rO (by simp[F98]) ?_
  simp(maxSteps:=9^7) (disch:=first|exact dI|fail) only[F98,hl0,hd8,push_cast,seval]
  refine ab.pure h148 rfl ?_
  simp(maxSteps:=9^7) (disch:=first|exact dI|fail) only[hz,push_cast,seval]
  exact aJ [] (by simp(maxSteps:=9^7) (disch:=first|exact dI|fail) only[push_cast,seval])
set_option maxHeartbeats 4000000 in
theorem vX (n:Nat)(ih:JL n)(k m M s:Int)(w:List (List UInt8))(e:List Typ)(f:List TFd)(d l:Int)(ht:bt (n+1) (.mk k m M s w e f))(hn:aS (n+1) (.mk k m M s w e f))(hd:0≤d)(hdn:d+(n+1:Nat)≤9)(hl:iE (n+1)≤l)(hl2:l≤4096)(hk:¬ k=8) :
  bM Tryz.prog aE 1 98 [.pv (Typ.mk k m M s w e f).pv,.pv (.int .i64 d),.ptr 0 0] [.cells 3 true [.pv (.int .i64 l)]] (.pv (.int .i64 (dH (n+1) l (.mk k m M s w e f)).1)) [.cells 3 true [.pv (.int .i64 (dH (n+1) l (.mk k m M s w e f)).2)]]:=by
 have h148:=lU ht
 have hc0:=e7 n
 simp only[bt] at ht
 simp only[aS] at hn
 have hrem:=i7 hc0 hn.2.1
 rw[iE] at hl
 have hl0:¬ l=0:=by omega
 have hd8:¬ 8<d:=by omega
 by_cases hz:bF (.mk k m M s w e f)=0
 ·have hfl:=(bY hz).2.2.2
  rw[AI hz hk]
  rw[hz] at h148
  clear hz
  obtain⟨R,hR⟩:∃ R,R=dN n (dH n) (l - 1) f:=⟨_,rfl⟩
  rw[← hR]
  simp only[Typ.pv_mk] at h148 ⊢
  refine bM.intro rO (by simp[F98]) ?_
  simp(maxSteps:=9^7) (disch:=first|exact dI|fail) only[F98,hl0,hd8,push_cast,seval]
  refine ab.pure h148 rfl ?_
  simp(maxSteps:=9^7) (disch:=first|exact dI|fail) only[hk,push_cast,seval]
  refine aD ([]) (fun x:Nat×Int=>[(8,.pv (.int .i64 (x.1:Int)))]) (fun x=>[(0,.cells 3 true [.pv (.int .i64 x.2)])]) (fun x=>x.1≤f.length∧R=dN n (dH n) x.2 (f.drop x.1)∧jX (iE n) (f.drop x.1)≤x.2∧x.2≤4096) (fun x=>f.length - x.1) ((0,l - 1)) ?_;intro e0 σ0 n0 h0;simp(maxSteps:=9^7) (disch:=first|exact dI|fail) only[push_cast,seval] at h0;obtain⟨rfl,rfl,rfl⟩:=h0;refine⟨?_,?_,?_⟩
  ·simp(maxSteps:=9^7) (disch:=first|exact dI|fail) only[push_cast,seval]
  ·exact⟨by simp,by simpa using hR,by simpa using (show jX (iE n) f≤l - 1 by omega),by simp only;omega⟩
  rintro⟨i,L⟩ ⟨hi,hr,hL,hL2⟩
  simp only at hi hr hL hL2
  by_cases hlt:i<f.length
  ·have hltI:(i:Int)<(f.length:Int):=by omega
   obtain⟨g,hg⟩:∃ g,f[i]? = some g:=⟨_,List.getElem?_eq_getElem hlt⟩
   have hgm:=List.mem_of_getElem? hg
   obtain⟨hr1,hr2⟩:=i6 hc0 hg
   have hgt:=(ht.2.2.2.2.2 g hgm).2.2
   have hgn:=hn.2.2.2 g hgm
   have hcall:=ih g.typ (d+1) L hgt hgn (by omega) (by omega) (by omega) hL2
   have hleft:=eG n g.typ hgn L (by omega)
   have hty:=fB n L g.typ hgn
   obtain⟨bb,hfe⟩:=bS f [] hfl g hgm
   have hgd:=(ht.2.2.2.2.2 g hgm).2.1
   rw[kw hg] at hr
   obtain⟨⟨e1,e2⟩,he⟩:∃ q,q=dH n L g.typ:=⟨_,rfl⟩
   rw[← he] at hcall hleft hr hty
   clear he
   obtain⟨n',nm',nd',t',d'⟩:=g
   simp only[TFd.typ,TFd.dflt] at hcall hleft hr hty hgt hgn hgd
   have hnd:=(iP (gI hfe)).2
   by_cases he0:e1=0
   ·subst he0
    rw[if_pos rfl] at hr
    rcases hnd with ⟨rfl,hd1⟩ | ⟨h3,hd0⟩
    ·obtain⟨x,r,rfl⟩:=e6 hfe
     obtain⟨hx1,hx2,hx3⟩:=hgd x (List.mem_cons_self ..)
     have hd0I:(0:Int)<((x::r).length:Int):=by omega
     have hacc:=vm n t' x hx2 hx1.1 (fun hc=>jv n 9 t' x (hty rfl) hgt (qy hx2 hc) hx1)
     simp only[nA,uc,decide_true,Bool.true_and] at hr
     generalize accB n t' x=q at hacc hr
     obtain⟨k',m',M',s',w',e',f'⟩:=t'
     obtain⟨vk,vn,vs,vt,vl,vf⟩:=x
     simp only[Typ.pv_mk,Val.pv_mk] at hcall hacc
     simp(maxSteps:=9^7) (disch:=first|exact dI|fail) only[hg,Option.map_some,TFd.pv_mk,Typ.pv_mk,ag,push_cast,seval]
     refine ab.lentK hcall [0] rfl (by simp(maxSteps:=9^7) (disch:=first|exact dI|fail) only[push_cast,seval]) (by simp(maxSteps:=9^7) (disch:=first|exact dI|fail) only[push_cast,seval]) ?_
     simp(maxSteps:=9^7) (disch:=first|exact dI|fail) only[Val.pv_mk,ag,aT,hd0I,push_cast,seval]
     refine ab.pure hacc rfl ?_
     cases q with
     | true=>
       rw[if_neg (by decide)] at hr
       simp(maxSteps:=9^7) (disch:=first|exact dI|fail) only[push_cast,seval]
       exact⟨(i+1,e2),bf (by simp(maxSteps:=9^7) (disch:=first|exact dI|fail) only[push_cast,seval]),⟨by simp only;omega,hr,by simp only;omega,by simp only;omega⟩,by simp only;omega⟩
     | false=>
       rw[if_pos (by decide)] at hr
       subst hr
       simp(maxSteps:=9^7) (disch:=first|exact dI|fail) only[push_cast,seval]
       exact aJ [] (by simp(maxSteps:=9^7) (disch:=first|exact dI|fail) only[push_cast,seval])
    ·rw[if_neg (by simp[nA,h3])] at hr
     obtain rfl:=List.length_eq_zero_iff.1 hd0
     obtain⟨k',m',M',s',w',e',f'⟩:=t'
     simp only[Typ.pv_mk] at hcall
     simp(maxSteps:=9^7) (disch:=first|exact dI|fail) only[hg,Option.map_some,TFd.pv_mk,Typ.pv_mk,ag,push_cast,seval]
     refine ab.lentK hcall [0] rfl (by simp(maxSteps:=9^7) (disch:=first|exact dI|fail) only[push_cast,seval]) (by simp(maxSteps:=9^7) (disch:=first|exact dI|fail) only[push_cast,seval]) ?_
     simp(maxSteps:=9^7) (disch:=first|exact dI|fail) only[push_cast,seval]
     exact⟨(i+1,e2),bf (by simp(maxSteps:=9^7) (disch:=first|exact dI|fail) only[push_cast,seval]),⟨by simp only;omega,hr,by simp only;omega,by simp only;omega⟩,by simp only;omega⟩
   ·rw[if_neg he0] at hr
    subst hr
    obtain⟨k',m',M',s',w',e',f'⟩:=t'
    simp only[Typ.pv_mk] at hcall
    simp(maxSteps:=9^7) (disch:=first|exact dI|fail) only[hg,Option.map_some,TFd.pv_mk,Typ.pv_mk,ag,push_cast,seval]
    refine ab.lentK hcall [0] rfl (by simp(maxSteps:=9^7) (disch:=first|exact dI|fail) only[push_cast,seval]) (by simp(maxSteps:=9^7) (disch:=first|exact dI|fail) only[push_cast,seval]) ?_
    simp(maxSteps:=9^7) (disch:=first|exact dI|fail) only[he0,push_cast,seval]
    exact aJ [] (by simp(maxSteps:=9^7) (disch:=first|exact dI|fail) only[push_cast,seval])
  ·obtain rfl:i=f.length:=by omega
   rw[List.drop_length,dN] at hr
   subst hr
   simp(maxSteps:=9^7) (disch:=first|exact dI|fail) only[Int.lt_irrefl,push_cast,seval]
   exact aJ [] (by simp(maxSteps:=9^7) (disch:=first|exact dI|fail) only[push_cast,seval])
 ·rw[dH,if_neg hz]
  generalize bF (.mk k m M s w e f)=z at *
  simp only[Typ.pv_mk] at h148 ⊢
  refine bM.intro rO (by simp[F98]) ?_
  simp(maxSteps:=9^7) (disch:=first|exact dI|fail) only[F98,hl0,hd8,push_cast,seval]
  refine ab.pure h148 rfl ?_
  simp(maxSteps:=9^7) (disch:=first|exact dI|fail) only[hz,push_cast,seval]
  exact aJ [] (by simp(maxSteps:=9^7) (disch:=first|exact dI|fail) only[push_cast,seval])
theorem vZ:∀ n,JL n
 | 0=>fun _ _ _ h=>h.elim
 | n+1=>fun t d l ht hn hd hdn hl hl2=>by
   have ih:=vZ n
   obtain⟨k,m,M,s,w,e,f⟩:=t
   by_cases hk:k=8
   ·subst hk;exact vY n ih m M s w e f d l ht hn hd hdn hl hl2
   ·exact vX n ih k m M s w e f d l ht hn hd hdn hl hl2 hk
end Go.Proofs.YtbaaokocnegdoaaGreatDoor
set_option maxRecDepth 100000
set_option linter.unusedVariables false
set_option linter.unusedSimpArgs false
-- many steps
namespace Go.Proofs.YtbaaokocnegdoaaGreatDoor
open Go Go.Ab
attribute [local irreducible] vc
def BU (a b:Int):Prop:=0≤a∧a≤b∧(a=b∨4097≤a)
theorem xh {p q:TFd→Int}:∀ (f:List TFd),(∀ g∈f,BU (p g) (q g))→BU (f.map p).sum (f.map q).sum
 | [],_=>by simp[BU]
 | g::r,h=>by
   have h1:=h g (List.mem_cons_self ..)
   have h2:=xh r fun x hx=>h x (List.mem_cons_of_mem _ hx)
   simp only[List.map_cons,List.sum_cons,BU] at *
   omega
theorem H2 {m a b:Int}(hm:0<m)(h:BU a b):BU (m*a) (m*b):=by
 obtain⟨h1,h2,h3⟩:=h
 refine⟨Int.mul_nonneg (by omega) h1,Int.mul_le_mul_of_nonneg_left h2 (by omega),?_⟩
 rcases h3 with rfl | h3
 ·exact .inl rfl
 ·have:1*a≤m*a:=Int.mul_le_mul_of_nonneg_right (by omega) h1
  exact .inr (by omega)
theorem iw {a:Int}(h:0≤a):BU a a:=⟨h,by omega,.inl rfl⟩
theorem mf:∀ (n:Nat) (t:Typ),dq n t→BU (bU n t) (bV n t)∧bU n t=min (bV n t) 4097
 | 0,_,h=>h.elim
 | n+1,.mk k m M s w e f,h=>by
   have ih:=mf n
   simp only[dq] at h
   obtain⟨h8,h10,h9,hf⟩:=h
   have key:BU (bX (bU n) k m e f) (bX (bV n) k m e f):=by
    unfold bX
    by_cases e8:k=8
    ·rw[if_pos e8,if_pos e8]
     by_cases hm:0<m
     ·rw[if_pos hm,if_pos hm]
      obtain⟨_,x,r,rfl,hx⟩:=h8 e8 hm
      exact H2 hm (ih x hx).1
     ·rw[if_neg hm,if_neg hm];exact iw (by omega)
    rw[if_neg e8,if_neg e8]
    by_cases e10:k=10
    ·rw[if_pos e10,if_pos e10]
     obtain⟨g,r,rfl,_,hx⟩:=h10 e10
     obtain⟨a,b,c,t,d⟩:=g
     exact (ih t hx).1
    rw[if_neg e10,if_neg e10]
    by_cases e9:k=9
    ·rw[if_pos e9,if_pos e9]
     refine xh f fun g hg=>?_
     have hr:=(h9 e9).2 g hg
     obtain⟨a,b,nd,t,d⟩:=g
     simp only[fE,i8] at hr ⊢
     by_cases n1:nd=1
     ·rw[if_pos n1,if_pos n1];exact (ih t (hr.1 n1)).1
     ·rw[if_neg n1,if_neg n1]
      by_cases n3:nd=3
      ·obtain⟨x,r,rfl,hx⟩:=hr.2 n3
       rw[if_pos n3];simp only[KO];exact iw (by omega)
      ·rw[if_neg n3];exact iw (by omega)
    ·rw[if_neg e9,if_neg e9];exact iw (by omega)
   simp only[bU,bV,BU] at key ⊢
   omega
theorem eF {α:Type}{p:α→Int}:∀ (l:List α) (a:Int),(4096<l.foldl (fun a x=>max a (p x)) a↔(4096<a∨∃ x∈l,4096<p x))
 | [],a=>by simp
 | x::r,a=>by
   rw[List.foldl_cons,eF r,show (4096<max a (p x)↔(4096<a∨4096<p x)) by omega]
   simp[or_assoc]
theorem jw:∀ (n:Nat) (t:Typ),Jz n t→(4096<cg n t↔4096<cH n t)
 | 0,_,h=>h.elim
 | n+1,.mk k m M s w e f,h=>by
   simp only[Jz] at h
   obtain⟨hs,_,_,he,hf⟩:=h
   have h9:=(mf 9 _ hs).2
   simp only[cg,cH]
   rw[eF (p:=fun g:TFd=>cg n g.typ) f,eF (p:=fun g:TFd=>cH n g.typ) f,eF e,eF e,h9]
   exact or_congr (or_congr (by omega) (exists_congr fun x=>and_congr_right fun hx=>jw n x (he x hx))) (exists_congr fun g=>and_congr_right fun hg=>jw n g.typ (hf g hg))
theorem fH:∀ (n N:Nat) (t:Typ),n≤N→tyV n t→bt n t→dq N t
 | 0,_,_,_,h,_=>h.elim
 | _+1,0,_,h,_,_=>absurd h (by omega)
 | n+1,N+1,.mk k m M s w e f,hN,h,ht=>by
   obtain⟨ho,h8,h9⟩:=h
   simp only[bt] at ht
   obtain⟨t1,t2,t3,t4,t5,t6⟩:=ht
   refine⟨fun hk hm=>?_,fun hk=>?_,fun hk=>⟨Gi ho,fun g hg=>?_⟩,fun hk=>(fV ho).2 hk⟩
   ·subst hk
    obtain⟨x,rfl⟩:=ix ho
    exact⟨yi ho,x,[],rfl,fH n N x (by omega) (h8 rfl x (List.mem_cons_self ..)) (t5 x (List.mem_cons_self ..))⟩
   ·subst hk
    obtain⟨g,r,rfl⟩:=yg ho
    obtain⟨b,hb⟩:=bS _ [] (bY ho).2.2.2 g (List.mem_cons_self ..)
    refine⟨g,r,rfl,?_,fH n N g.typ (by omega) (h9 (.inr rfl) g (List.mem_cons_self ..)) (t6 g (List.mem_cons_self ..)).2.2⟩
    obtain⟨n',nm',nd',t',d'⟩:=g
    exact (iP (gI hb)).1 rfl
   ·subst hk
    have hs:=fH n N g.typ (by omega) (h9 (.inl rfl) g hg) (t6 g hg).2.2
    obtain⟨b,hb⟩:=bS f [] (bY ho).2.2.2 g hg
    have hd:=(t6 g hg).2.1
    obtain⟨n',nm',nd',t',d'⟩:=g
    refine⟨fun _=>hs,fun h3=>?_⟩
    subst h3
    obtain⟨x,r,rfl⟩:=e6 hb
    obtain⟨x1,x2,x3⟩:=hd x (List.mem_cons_self ..)
    exact⟨x,r,rfl,x2,x1.1,x3⟩
theorem p7:∀ (n:Nat) (t:Typ),n≤9→tyV n t→bt n t→Jz n t
 | 0,_,_,h,_=>h.elim
 | n+1,.mk k m M s w e f,hN,h,ht=>by
   have hs:=fH (n+1) 9 _ hN h ht
   obtain⟨ho,h8,h9⟩:=h
   obtain⟨he,hf⟩:=fV ho
   simp only[bt] at ht
   obtain⟨t1,t2,t3,t4,t5,t6⟩:=ht
   refine⟨hs,by omega,by omega,fun x hx=>?_,fun g hg=>?_⟩
   ·by_cases hk:k=8
    ·exact p7 n x (by omega) (h8 hk x hx) (t5 x hx)
    ·rw[he hk] at hx;cases hx
   ·by_cases hk:k=9∨k=10
    ·exact p7 n g.typ (by omega) (h9 hk g hg) (t6 g hg).2.2
    ·rw[hf hk] at hg;cases hg
theorem Jn (n:Nat)(t:Typ)(hn:n≤5)(ht:bt n t)(hw:aS n t):am Tryz.prog aE 51 [t.pv] (.int .i64 (Ht n t)):=by
 have hcnt:iE n≤4096:=by
  have hc:n=0∨n=1∨n=2∨n=3∨n=4∨n=5:=by omega
  rcases hc with rfl | rfl | rfl | rfl | rfl | rfl<;>decide
 have h94:=vZ n t 1 4096 ht hw (by omega) (by omega) hcnt (by omega)
 have h95:(dH n 4096 t).1=0→am Tryz.prog aE 99 [t.pv] (.int .i64 (cH n t))∧(4096<cg n t↔4096<cH n t):=fun h=>by
  have ha:=p7 n t (by omega) (fB n 4096 t hw h) ht
  exact⟨kt n t ha,jw n t ha⟩
 simp only[Ht]
 obtain⟨⟨z,L⟩,hq⟩:∃ q,q=dH n 4096 t:=⟨_,rfl⟩
 rw[← hq] at h94 h95 ⊢
 simp only at h94 h95 ⊢
 clear hq
 generalize cg n t=G at h95 ⊢
 generalize cH n t=H at h95
 obtain⟨k,m,M,s,w,e,f⟩:=t
 simp only[Typ.pv_mk] at h94 h95
 refine am.intro Np (by simp[F51]) ?_
 by_cases hz:z=0
 ·subst hz
  obtain⟨h95,hGH⟩:=h95 rfl
  rw[if_pos rfl]
  by_cases hg:4096<H
  ·rw[if_pos (hGH.2 hg)]
   simp(maxSteps:=9^7) (disch:=first|exact dI|fail) only[F51,Typ.pv_mk,push_cast,seval]
   refine ab.lentK h94 [1] rfl (by simp(maxSteps:=9^7) (disch:=first|exact dI|fail) only[push_cast,seval]) (by simp(maxSteps:=9^7) (disch:=first|exact dI|fail) only[push_cast,seval]) ?_
   simp(maxSteps:=9^7) (disch:=first|exact dI|fail) only[push_cast,seval]
   refine ab.pure h95 rfl ?_
   simp(maxSteps:=9^7) (disch:=first|exact dI|fail) only[hg,push_cast,seval]
  ·rw[if_neg (fun h=>hg (hGH.1 h))]
   simp(maxSteps:=9^7) (disch:=first|exact dI|fail) only[F51,Typ.pv_mk,push_cast,seval]
   refine ab.lentK h94 [1] rfl (by simp(maxSteps:=9^7) (disch:=first|exact dI|fail) only[push_cast,seval]) (by simp(maxSteps:=9^7) (disch:=first|exact dI|fail) only[push_cast,seval]) ?_
   simp(maxSteps:=9^7) (disch:=first|exact dI|fail) only[push_cast,seval]
   refine ab.pure h95 rfl ?_
   simp(maxSteps:=9^7) (disch:=first|exact dI|fail) only[hg,push_cast,seval]
 ·rw[if_neg hz]
  simp(maxSteps:=9^7) (disch:=first|exact dI|fail) only[F51,Typ.pv_mk,push_cast,seval]
  refine ab.lentK h94 [1] rfl (by simp(maxSteps:=9^7) (disch:=first|exact dI|fail) only[push_cast,seval]) (by simp(maxSteps:=9^7) (disch:=first|exact dI|fail) only[push_cast,seval]) ?_
  simp(maxSteps:=9^7) (disch:=first|exact dI|fail) only[hz,push_cast,seval]
end Go.Proofs.YtbaaokocnegdoaaGreatDoor
set_option linter.unusedVariables false
set_option linter.unusedSimpArgs false
namespace Go.Ab
open Go
def OK (y:Int):Bool:=decide (y % 4=0)&&(!decide (y % 100=0)||decide (y % 400=0))
def mdI (y m:Int):Int:=if m=2 then (if OK y=true then 29 else 28) else if m=4∨m=6∨m=9∨m=11 then 30 else 31
def Qa (y:Int):Int:=365*(y - 1)+(y - 1) / 4 - (y - 1) / 100+(y - 1) / 400
def PI (y:Int):Nat→Int
 | 0=>0
 | k+1=>PI y k+mdI y (k+1:Nat)
structure DateOk (y:Int)(m:Nat)(d:Int):Prop where
 y1:1≤y
 y2:y≤9999
 m1:1≤m
 m2:m≤12
 d1:1≤d
 d2:d≤mdI y m
def P8 (y:Int)(m:Nat)(d:Int):Int:=Qa y+PI y (m - 1)+d - 1
end Go.Ab
