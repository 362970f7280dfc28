/- A part of the proof for FixedwidthWidthsCardSaid. -/
import Derived.Test.YtbojpfpliibfbaaGreatDoorWiRUg
import Derived.Test.YtbojpfpliibfbaaGreatDoorWiRSg
import Derived.Test.YtbojpfpliibfbaaGreatDoorWiRU9
set_option maxRecDepth 100000
set_option linter.unusedVariables false
set_option linter.unusedSimpArgs false
-- many steps
namespace Go.Proofs.YtbojpfpliibfbaaGreatDoor
open Go Go.Ab
attribute [local irreducible] vc
theorem fY {k:Int}{b:List TFd}{n:Int}{nm:List UInt8}{nd:Int}{t:Typ}{d:List Val}(h:bx k b (.mk n nm nd t d)=0):eR k nd d=0:=by
 rw[mh] at h
 repeat' split at h
 all_goals first | exact absurd h (by decide) | exact h
theorem hH {k nd:Int}{d:List Val}(h:eR k nd d=0):(k=10→nd=1)∧((nd=3∧d.length=1)∨(¬ nd=3∧d.length=0)):=by
 unfold eR at h
 by_cases h1:inB nd 1 3=false
 ·rw[if_pos h1] at h;exact absurd h (by decide)
 rw[if_neg h1] at h
 by_cases h2:k=10∧¬ nd=1
 ·rw[if_pos h2] at h;exact absurd h (by decide)
 rw[if_neg h2] at h
 by_cases h3:nd=3∧d.length=0
 ·rw[if_pos h3] at h;exact absurd h (by decide)
 rw[if_neg h3] at h
 by_cases h4:1<d.length
 ·rw[if_pos h4] at h;exact absurd h (by decide)
 rw[if_neg h4] at h
 by_cases h5:¬ nd=3∧0<d.length
 ·rw[if_pos h5] at h;exact absurd h (by decide)
 refine⟨fun hk=>Decidable.byContradiction fun hh=>h2 ⟨hk,hh⟩,?_⟩
 by_cases hn:nd=3
 ·exact .inl ⟨hn,by have:¬ d.length=0:=fun hh=>h3 ⟨hn,hh⟩;omega⟩
 ·exact .inr ⟨hn,by have:¬ 0<d.length:=fun hh=>h5 ⟨hn,hh⟩;omega⟩
theorem jT {n:Nat}{rec:Int→Typ→Int×Int}:∀ (f:List TFd) (l:Int),(∀ g∈f,fC n g=false)→ci rec l (f.map TFd.typ)=bX n rec l f
 | [],_,_=>rfl
 | x::r,l,h=>by
   rw[List.map_cons,ci,bX,h x (List.mem_cons_self ..),if_neg (show ¬ false=true by decide)]
   split
   ·exact jT r _ fun g hg=>h g (List.mem_cons_of_mem _ hg)
   ·rfl
theorem vN (rec:Int→Typ→Int×Int)(l:Int)(t:Typ):ci rec l [t]=rec l t:=by
 rw[ci]
 split
 ·rename_i h;rw[ci];exact Prod.ext h.symm rfl
 ·rfl
theorem wT {δ:Int}{n:Nat}{k m M s:Int}{w:List (List UInt8)}{e:List Typ}{f:List TFd}(h:bh (.mk k m M s w e f)=0)(h8:¬ k=8){l:Int}(hl:¬ l=0):bM δ (n+1) l (.mk k m M s w e f)=bX n (bM δ n) (l - 1) f:=by
 rw[bM,if_neg hl,if_pos h]
 by_cases h9:k=9
 ·rw[if_pos h9]
 rw[if_neg h9]
 by_cases h10:k=10
 ·subst h10
  rw[show bA (.mk 10 m M s w e f)=f.map TFd.typ from rfl]
  refine jT f _ fun g hg=>?_
  obtain⟨b,hb⟩:=bL f [] (bz h).2.2.2 g hg
  obtain⟨n',nm',nd',t',d'⟩:=g
  obtain rfl:=(hH (fY hb)).1 rfl
  rfl
 ·obtain rfl:=(fo h).2 (by omega)
  rw[show bA (.mk k m M s w e [])=[] by simp only[bA];rw[if_neg h8,if_neg (by omega)]]
  rfl
def F2 (n:Nat):Prop:=∀ (t:Typ) (d l:Int),t.ok→d+n=9→0≤l→l≤4096 →
 dr Tryz.prog aD 1 71 [.pv t.pv,.pv (.int .i64 d),.ptr 0 0] [.cells 3 true [.pv (.int .i64 l)]] (.pv (.int .i64 (bM 1 n l t).1)) [.cells 3 true [.pv (.int .i64 (bM 1 n l t).2)]]
theorem vg {k m M s:Int}{w:List (List UInt8)}{e:List Typ}{f:List TFd}(h:(Typ.mk k m M s w e f).ok):ae Tryz.prog aD 125 [(Typ.mk k m M s w e f).pv] (.int .i64 (bh (.mk k m M s w e f))):=by
 rw[Typ.ok_mk] at h
 exact Il m M s w e f k (fun x hx=>by have:=h.2.2.2.2.2.1 x hx;omega)
theorem sL (t:Typ)(d l:Int)(hd:d=9)(hl:0≤l)(hl2:l≤4096):dr Tryz.prog aD 1 71 [.pv t.pv,.pv (.int .i64 d),.ptr 0 0] [.cells 3 true [.pv (.int .i64 l)]] (.pv (.int .i64 (bM 1 0 l t).1)) [.cells 3 true [.pv (.int .i64 (bM 1 0 l t).2)]]:=by
 subst hd
 rw[bM]
 obtain⟨k',m',M',s',w',e',f'⟩:=t
 simp only[Typ.pv_mk]
 by_cases h0:l=0
 ·subst h0
  rw[if_pos rfl]
  refine dr.intro jf (by simp[F71]) ?_
  simp(maxSteps:=9^7) (disch:=try exact dI) only[F71,push_cast,seval]
  exact ba [] qsZ
 ·rw[if_neg h0]
  refine dr.intro jf (by simp[F71]) ?_
  simp(maxSteps:=9^7) (disch:=try exact dI) only[F71,h0,push_cast,seval]
  exact ba [] qsZ
theorem sI (n:Nat)(t:Typ)(d:Int):dr Tryz.prog aD 1 71 [.pv t.pv,.pv (.int .i64 d),.ptr 0 0] [.cells 3 true [.pv (.int .i64 0)]] (.pv (.int .i64 (bM 1 (n+1) 0 t).1)) [.cells 3 true [.pv (.int .i64 (bM 1 (n+1) 0 t).2)]]:=by
 obtain⟨k',m',M',s',w',e',f'⟩:=t
 rw[bM,if_pos rfl]
 simp only[Typ.pv_mk]
 refine dr.intro jf (by simp[F71]) ?_
 simp(maxSteps:=9^7) (disch:=try exact dI) only[F71,push_cast,seval]
 exact ba [] qsZ
set_option maxHeartbeats 4000000 in
theorem sK (n:Nat)(ih:F2 n)(m M s:Int)(w:List (List UInt8))(e:List Typ)(f:List TFd)(d l:Int)(ht:(Typ.mk 8 m M s w e f).ok)(hdn:d+(n+1:Nat)=9)(hd:1≤d)(hl:0≤l)(hl2:l≤4096)(hl0:¬ l=0) :
  dr Tryz.prog aD 1 71 [.pv (Typ.mk 8 m M s w e f).pv,.pv (.int .i64 d),.ptr 0 0] [.cells 3 true [.pv (.int .i64 l)]] (.pv (.int .i64 (bM 1 (n+1) l (.mk 8 m M s w e f)).1)) [.cells 3 true [.pv (.int .i64 (bM 1 (n+1) l (.mk 8 m M s w e f)).2)]]:=by
 have h148:=vg ht
 have hpt:=(vh ht).2.2.1
 have hd8:¬ 8<d:=by omega
 by_cases hz:bh (.mk 8 m M s w e f)=0
 ·obtain⟨x,rfl⟩:=gQ hz
  have hxt:=hpt x (by rw[show bA (.mk 8 m M s w [x] f)=[x] from rfl];exact List.mem_cons_self ..)
  have hcall:=ih x (d+1) (l - 1) hxt (by omega) (by omega) (by omega)
  rw[bM,if_neg hl0,if_pos hz,if_neg (by decide),show bA (.mk 8 m M s w [x] f)=[x] from rfl,vN]
  rw[hz] at h148
  obtain⟨⟨e1,e2⟩,he⟩:∃ q,q=bM 1 n (l - 1) x:=⟨_,rfl⟩
  rw[← he] at hcall ⊢
  clear he hz hxt hpt
  obtain⟨k',m',M',s',w',e',f'⟩:=x
  simp only[Typ.pv_mk,List.map_cons,List.map_nil] at h148 hcall
  simp only at hcall ⊢
  refine dr.intro jf (by simp[F71]) ?_
  simp(maxSteps:=9^7) (disch:=try exact dI) only[F71,Typ.pv_mk,hl0,hd8,push_cast,seval]
  refine ab.pure h148 rfl ?_
  simp(maxSteps:=9^7) (disch:=try exact dI) only[Typ.pv_mk,aJ,ag,push_cast,seval]
  refine ab.lentK hcall [0] rfl qsZ qsZ ?_
  simp(maxSteps:=9^7) (disch:=try exact dI) only[push_cast,seval]
  exact ba [] qsZ
 ·rw[bM,if_neg hl0,if_neg hz]
  generalize bh (.mk 8 m M s w e f)=z at *
  simp only[Typ.pv_mk] at h148 ⊢
  refine dr.intro jf (by simp[F71]) ?_
  simp(maxSteps:=9^7) (disch:=try exact dI) only[F71,hl0,hd8,push_cast,seval]
  refine ab.pure h148 rfl ?_
  simp(maxSteps:=9^7) (disch:=try exact dI) only[hz,push_cast,seval]
  exact ba [] qsZ
set_option maxHeartbeats 4000000 in
theorem sJ (n:Nat)(ih:F2 n)(k m M s:Int)(w:List (List UInt8))(e:List Typ)(f:List TFd)(d l:Int)(ht:(Typ.mk k m M s w e f).ok)(hdn:d+(n+1:Nat)=9)(hd:1≤d)(hl:0≤l)(hl2:l≤4096)(hl0:¬ l=0)(hk:¬ k=8) :
  dr Tryz.prog aD 1 71 [.pv (Typ.mk k m M s w e f).pv,.pv (.int .i64 d),.ptr 0 0] [.cells 3 true [.pv (.int .i64 l)]] (.pv (.int .i64 (bM 1 (n+1) l (.mk k m M s w e f)).1)) [.cells 3 true [.pv (.int .i64 (bM 1 (n+1) l (.mk k m M s w e f)).2)]]:=by
 have h148:=vg ht
 rw[Typ.ok_mk] at ht
 have hd8:¬ 8<d:=by omega
 by_cases hz:bh (.mk k m M s w e f)=0
 ·have hfl:=(bz hz).2.2.2
  rw[wT hz hk hl0]
  rw[hz] at h148
  clear hz
  obtain⟨R,hR⟩:∃ R,R=bX n (bM 1 n) (l - 1) f:=⟨_,rfl⟩
  rw[← hR]
  simp only[Typ.pv_mk] at h148 ⊢
  refine dr.intro jf (by simp[F71]) ?_
  simp(maxSteps:=9^7) (disch:=try exact dI) only[F71,hl0,hd8,push_cast,seval]
  refine ab.pure h148 rfl ?_
  simp(maxSteps:=9^7) (disch:=try exact dI) only[hk,push_cast,seval]
  refine aA ([]) (fun x:Nat×Int=>[(8,.pv (.int .i64 (x.1:Int)))]) (fun x=>[(0,.cells 3 true [.pv (.int .i64 x.2)])]) (fun x=>x.1≤f.length∧R=bX n (bM 1 n) x.2 (f.drop x.1)∧0≤x.2∧x.2≤4096) (fun x=>f.length - x.1) ((0,l - 1)) ?_;intro e0 σ0 n0 h0;simp(maxSteps:=9^7) (disch:=try exact dI) only[push_cast,seval] at h0;obtain⟨rfl,rfl,rfl⟩:=h0;refine⟨?_,?_,?_⟩
  ·simp(maxSteps:=9^7) (disch:=try exact dI) only[push_cast,seval]
  ·exact⟨by simp,by simpa using hR,by simp only;omega,by simp only;omega⟩
  rintro⟨i,L⟩ ⟨hi,hr,hL,hL2⟩
  simp only at hi hr hL hL2
  by_cases hlt:i<f.length
  ·have hltI:(i:Int)<(f.length:Int):=by omega
   obtain⟨g,hg⟩:∃ g,f[i]? = some g:=⟨_,List.getElem?_eq_getElem hlt⟩
   have hgm:=List.mem_of_getElem? hg
   have hgt:=(dv (ht.2.2.2.2.2.2.2.2.2 g hgm)).1
   have hcall:=ih g.typ (d+1) L hgt (by omega) hL hL2
   have hleft:=er (δ:=1) (by decide) n g.typ L hL hL2
   have hty:=eq (δ:=1) n L g.typ
   obtain⟨bb,hfe⟩:=bL f [] hfl g hgm
   have hgd:=(dv (ht.2.2.2.2.2.2.2.2.2 g hgm)).2
   rw[jQ hg] at hr
   obtain⟨⟨e1,e2⟩,he⟩:∃ q,q=bM 1 n L g.typ:=⟨_,rfl⟩
   rw[← he] at hcall hleft hr hty
   clear he
   obtain⟨n',nm',nd',t',d'⟩:=g
   simp only[TFd.typ,TFd.dflt] at hcall hleft hr hty hgt hgd
   have hnd:=(hH (fY hfe)).2
   by_cases he0:e1=0
   ·subst he0
    rw[if_pos rfl] at hr
    rcases hnd with ⟨rfl,hd1⟩ | ⟨h3,hd0⟩
    ·obtain⟨x,r,rfl⟩:=eH hfe
     have hx1:=hgd x (List.mem_cons_self ..)
     have hd0I:(0:Int)<((x::r).length:Int):=by omega
     have hacc:=sk n t' x hx1 (fun hc=>iL n (lvl x) t' x (hty rfl) hgt (ov (eC x) hc) hx1)
     simp only[fC,nQ,decide_true,Bool.true_and] at hr
     generalize accB n t' x=q at hacc hr
     obtain⟨k',m',M',s',w',e',f'⟩:=t'
     obtain⟨vk,vn,vs,vt,vl,vf⟩:=x
     simp only[Typ.pv_mk,Val.pv_mk] at hcall hacc
     simp(maxSteps:=9^7) (disch:=try exact dI) only[hg,Option.map_some,TFd.pv_mk,Typ.pv_mk,ag,push_cast,seval]
     refine ab.lentK hcall [0] rfl qsZ qsZ ?_
     simp(maxSteps:=9^7) (disch:=try exact dI) only[Val.pv_mk,ag,aJ,hd0I,push_cast,seval]
     refine ab.pure hacc rfl ?_
     cases q with
     | true=>
       rw[if_neg (by decide)] at hr
       simp(maxSteps:=9^7) (disch:=try exact dI) only[push_cast,seval]
       exact⟨(i+1,e2),aV qsZ,⟨by simp only;omega,hr,by simp only;omega,by simp only;omega⟩,by simp only;omega⟩
     | false=>
       rw[if_pos (by decide)] at hr
       subst hr
       simp(maxSteps:=9^7) (disch:=try exact dI) only[push_cast,seval]
       exact ba [] qsZ
    ·rw[if_neg (by simp[fC,h3])] at hr
     obtain rfl:=List.length_eq_zero_iff.1 hd0
     obtain⟨k',m',M',s',w',e',f'⟩:=t'
     simp only[Typ.pv_mk] at hcall
     simp(maxSteps:=9^7) (disch:=try exact dI) only[hg,Option.map_some,TFd.pv_mk,Typ.pv_mk,ag,push_cast,seval]
     refine ab.lentK hcall [0] rfl qsZ qsZ ?_
     simp(maxSteps:=9^7) (disch:=try exact dI) only[push_cast,seval]
     exact⟨(i+1,e2),aV qsZ,⟨by simp only;omega,hr,by simp only;omega,by simp only;omega⟩,by simp only;omega⟩
   ·rw[if_neg he0] at hr
    subst hr
    obtain⟨k',m',M',s',w',e',f'⟩:=t'
    simp only[Typ.pv_mk] at hcall
    simp(maxSteps:=9^7) (disch:=try exact dI) only[hg,Option.map_some,TFd.pv_mk,Typ.pv_mk,ag,push_cast,seval]
    refine ab.lentK hcall [0] rfl qsZ qsZ ?_
    simp(maxSteps:=9^7) (disch:=try exact dI) only[he0,push_cast,seval]
    exact ba [] qsZ
  ·obtain rfl:i=f.length:=by omega
   rw[List.drop_length,bX] at hr
   subst hr
   simp(maxSteps:=9^7) (disch:=try exact dI) only[Int.lt_irrefl,push_cast,seval]
   exact ba [] qsZ
 ·rw[bM,if_neg hl0,if_neg hz]
  generalize bh (.mk k m M s w e f)=z at *
  simp only[Typ.pv_mk] at h148 ⊢
  refine dr.intro jf (by simp[F71]) ?_
  simp(maxSteps:=9^7) (disch:=try exact dI) only[F71,hl0,hd8,push_cast,seval]
  refine ab.pure h148 rfl ?_
  simp(maxSteps:=9^7) (disch:=try exact dI) only[hz,push_cast,seval]
  exact ba [] qsZ
theorem sM:∀ n,n≤8→F2 n
 | 0,_=>fun t d l ht hd hl hl2=>sL t d l (by omega) hl hl2
 | n+1,hn=>fun t d l ht hd hl hl2=>by
   by_cases hl0:l=0
   ·subst hl0;exact sI n t d
   have ih:=sM n (by omega)
   obtain⟨k,m,M,s,w,e,f⟩:=t
   by_cases hk:k=8
   ·subst hk;exact sK n ih m M s w e f d l ht hd (by omega) hl hl2 hl0
   ·exact sJ n ih k m M s w e f d l ht hd (by omega) hl hl2 hl0 hk
end Go.Proofs.YtbojpfpliibfbaaGreatDoor
-- many steps
namespace Go.Proofs.YtbojpfpliibfbaaGreatDoor
open Go Go.Ab
attribute [local irreducible] vc
def ye (a b:Int):Prop:=0≤a∧a≤b∧(a=b∨4097≤a)
theorem tX {p q:TFd→Int}:∀ (f:List TFd),(∀ g∈f,ye (p g) (q g))→ye (f.map p).sum (f.map q).sum
 | [],_=>by simp[ye]
 | g::r,h=>by
   have h1:=h g (List.mem_cons_self ..)
   have h2:=tX r fun x hx=>h x (List.mem_cons_of_mem _ hx)
   simp only[List.map_cons,List.sum_cons,ye] at *
   omega
theorem Ep {m a b:Int}(hm:0<m)(h:ye a b):ye (m*a) (m*b):=by
 obtain⟨h1,h2,h3⟩:=h
 refine⟨Int.mul_nonneg (by omega) h1,Int.mul_le_mul_of_nonneg_left h2 (by omega),?_⟩
 rcases h3 with rfl | h3
 ·exact .inl rfl
 ·have:1*a≤m*a:=Int.mul_le_mul_of_nonneg_right (by omega) h1
  exact .inr (by omega)
theorem gP {a:Int}(h:0≤a):ye a a:=⟨h,by omega,.inl rfl⟩
theorem lB:∀ (n:Nat) (t:Typ),cY n t→ye (bO n t) (bP n t)∧bO n t=min (bP n t) 4097
 | 0,_,h=>h.elim
 | n+1,.mk k m M s w e f,h=>by
   have ih:=lB n
   simp only[cY] at h
   obtain⟨h8,h10,h9,hf⟩:=h
   have key:ye (bR (bO n) k m e f) (bR (bP n) k m e f):=by
    unfold bR
    by_cases e8:k=8
    ·rw[if_pos e8,if_pos e8]
     by_cases hm:0<m
     ·rw[if_pos hm,if_pos hm]
      obtain⟨_,x,r,rfl,hx⟩:=h8 e8 hm
      exact Ep hm (ih x hx).1
     ·rw[if_neg hm,if_neg hm];exact gP (by omega)
    rw[if_neg e8,if_neg e8]
    by_cases e10:k=10
    ·rw[if_pos e10,if_pos e10]
     obtain⟨g,r,rfl,_,hx⟩:=h10 e10
     obtain⟨a,b,c,t,d⟩:=g
     exact (ih t hx).1
    rw[if_neg e10,if_neg e10]
    by_cases e9:k=9
    ·rw[if_pos e9,if_pos e9]
     refine tX f fun g hg=>?_
     have hr:=(h9 e9).2 g hg
     obtain⟨a,b,nd,t,d⟩:=g
     simp only[e7,il] at hr ⊢
     by_cases n1:nd=1
     ·rw[if_pos n1,if_pos n1];exact (ih t (hr.1 n1)).1
     ·rw[if_neg n1,if_neg n1]
      by_cases n3:nd=3
      ·obtain⟨x,r,rfl,hx⟩:=hr.2 n3
       rw[if_pos n3];simp only[Hl];exact gP (by omega)
      ·rw[if_neg n3];exact gP (by omega)
    ·rw[if_neg e9,if_neg e9];exact gP (by omega)
   simp only[bO,bP,ye] at key ⊢
   omega
theorem eo {α:Type}{p:α→Int}:∀ (l:List α) (a:Int),(4096<l.foldl (fun a x=>max a (p x)) a↔(4096<a∨∃ x∈l,4096<p x))
 | [],a=>by simp
 | x::r,a=>by
   rw[List.foldl_cons,eo r,show (4096<max a (p x)↔(4096<a∨4096<p x)) by omega]
   simp[or_assoc]
theorem iM:∀ (n:Nat) (t:Typ),FQ n t→(4096<bZ n t↔4096<cp n t)
 | 0,_,h=>h.elim
 | n+1,.mk k m M s w e f,h=>by
   simp only[FQ] at h
   obtain⟨hs,_,_,he,hf⟩:=h
   have h9:=(lB 9 _ hs).2
   simp only[bZ,cp]
   rw[eo (p:=fun g:TFd=>bZ n g.typ) f,eo (p:=fun g:TFd=>cp n g.typ) f,eo e,eo e,h9]
   exact or_congr (or_congr (by omega) (exists_congr fun x=>and_congr_right fun hx=>iM n x (he x hx))) (exists_congr fun g=>and_congr_right fun hg=>iM n g.typ (hf g hg))
theorem fe:∀ (n N:Nat) (t:Typ),n≤N→tyV n t→t.ok→cY N t
 | 0,_,_,_,h,_=>h.elim
 | _+1,0,_,h,_,_=>absurd h (by omega)
 | n+1,N+1,.mk k m M s w e f,hN,h,ht=>by
   obtain⟨ho,h8,h9⟩:=h
   rw[Typ.ok_mk] at ht
   obtain⟨_,_,_,_,_,_,t3,t5,t4,t6⟩:=ht
   refine⟨fun hk hm=>?_,fun hk=>?_,fun hk=>⟨CN ho,fun g hg=>?_⟩,fun hk=>(fo ho).2 hk⟩
   ·subst hk
    obtain⟨x,rfl⟩:=gQ ho
    exact⟨uM ho,x,[],rfl,fe n N x (by omega) (h8 rfl x (List.mem_cons_self ..)) (t5 x (List.mem_cons_self ..))⟩
   ·subst hk
    obtain⟨g,r,rfl⟩:=uI ho
    obtain⟨b,hb⟩:=bL _ [] (bz ho).2.2.2 g (List.mem_cons_self ..)
    refine⟨g,r,rfl,?_,fe n N g.typ (by omega) (h9 (.inr rfl) g (List.mem_cons_self ..)).1 (dv (t6 g (List.mem_cons_self ..))).1⟩
    obtain⟨n',nm',nd',t',d'⟩:=g
    exact (hH (fY hb)).1 rfl
   ·subst hk
    have hs:=fe n N g.typ (by omega) (h9 (.inl rfl) g hg).1 (dv (t6 g hg)).1
    obtain⟨b,hb⟩:=bL f [] (bz ho).2.2.2 g hg
    have hd:=(dv (t6 g hg)).2
    have hdf:=(h9 (.inl rfl) g hg).2 rfl
    obtain⟨n',nm',nd',t',d'⟩:=g
    refine⟨fun _=>hs,fun h3=>?_⟩
    subst h3
    obtain⟨x,r,rfl⟩:=eH hb
    exact⟨x,r,rfl,pp hdf (hd x (List.mem_cons_self ..))⟩
theorem ob:∀ (n:Nat) (t:Typ),n≤9→tyV n t→t.ok→FQ n t
 | 0,_,_,h,_=>h.elim
 | n+1,.mk k m M s w e f,hN,h,ht=>by
   have hs:=fe (n+1) 9 _ hN h ht
   obtain⟨ho,h8,h9⟩:=h
   obtain⟨he,hf⟩:=fo ho
   rw[Typ.ok_mk] at ht
   obtain⟨_,_,_,_,_,_,t3,t5,t4,t6⟩:=ht
   refine⟨hs,by omega,by omega,fun x hx=>?_,fun g hg=>?_⟩
   ·by_cases hk:k=8
    ·exact ob n x (by omega) (h8 hk x hx) (t5 x hx)
    ·rw[he hk] at hx;cases hx
   ·by_cases hk:k=9∨k=10
    ·exact ob n g.typ (by omega) (h9 hk g hg).1 (dv (t6 g hg)).1
    ·rw[hf hk] at hg;cases hg
theorem kO (t:Typ)(ht:t.ok):ae Tryz.prog aD 28 [t.pv] (.int .i64 (gK t)):=by
 have h94:=sM 8 (by omega) t 1 4096 ht (by omega) (by omega) (by omega)
 have h95:(bM 1 8 4096 t).1=0→ae Tryz.prog aD 72 [t.pv] (.int .i64 (cp 8 t))∧(4096<bZ 8 t↔4096<cp 8 t):=fun h=>by
  have ha:=ob 8 t (by omega) (eq 8 4096 t h) ht
  exact⟨jM 8 t ha,iM 8 t ha⟩
 simp only[gK]
 rw[← (ja 1 0 8 4096 t).1]
 obtain⟨⟨z,L⟩,hq⟩:∃ q,q=bM 1 8 4096 t:=⟨_,rfl⟩
 rw[← hq] at h94 h95 ⊢
 simp only at h94 h95 ⊢
 clear hq
 generalize bZ 8 t=G at h95 ⊢
 generalize cp 8 t=H at h95
 obtain⟨k,m,M,s,w,e,f⟩:=t
 simp only[Typ.pv_mk] at h94 h95
 refine ae.intro Kf (by simp[F28]) ?_
 by_cases hz:z=0
 ·subst hz
  obtain⟨h95,hGH⟩:=h95 rfl
  rw[if_pos rfl]
  by_cases hg:4096<H
  ·rw[if_pos (hGH.2 hg)]
   simp(maxSteps:=9^7) (disch:=try exact dI) only[F28,Typ.pv_mk,push_cast,seval]
   refine ab.lentK h94 [1] rfl qsZ qsZ ?_
   simp(maxSteps:=9^7) (disch:=try exact dI) only[push_cast,seval]
   refine ab.pure h95 rfl ?_
   simp(maxSteps:=9^7) (disch:=try exact dI) only[hg,push_cast,seval]
  ·rw[if_neg (fun h=>hg (hGH.1 h))]
   simp(maxSteps:=9^7) (disch:=try exact dI) only[F28,Typ.pv_mk,push_cast,seval]
   refine ab.lentK h94 [1] rfl qsZ qsZ ?_
   simp(maxSteps:=9^7) (disch:=try exact dI) only[push_cast,seval]
   refine ab.pure h95 rfl ?_
   simp(maxSteps:=9^7) (disch:=try exact dI) only[hg,push_cast,seval]
 ·rw[if_neg hz]
  simp(maxSteps:=9^7) (disch:=try exact dI) only[F28,Typ.pv_mk,push_cast,seval]
  refine ab.lentK h94 [1] rfl qsZ qsZ ?_
  simp(maxSteps:=9^7) (disch:=try exact dI) only[hz,push_cast,seval]
end Go.Proofs.YtbojpfpliibfbaaGreatDoor
