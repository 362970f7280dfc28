/- A part of the proof. -/
import Derived.Test.YtbaaokocnegdoaaGreatDoorDeVUd
set_option linter.unusedVariables false
set_option linter.unusedSimpArgs false
set_option maxHeartbeats 16000000
set_option maxRecDepth 100000
namespace Go.Proofs.YtbaaokocnegdoaaGreatDoor
open Go Go.Ab
attribute [local irreducible] vc
theorem ja {k:Int}{b:List TFd}{n:Int}{nm:List UInt8}{nd:Int}{t:Typ}{d:List Val}(h:cL k b (.mk n nm nd t d)=0):ga k nd d=0:=by
 rw[ip] at h
 repeat' split at h
 all_goals first | exact absurd h (by decide) | exact h
theorem kj {k nd:Int}{d:List Val}(h:ga k nd d=0):(k=10->nd=1)/\((nd=3/\d.length=1)\/(¬ nd=3/\d.length=0)):=by
 unfold ga at h
 by_cases h1:inB nd 1 3=false
 ·rw[if_pos h1] at h;exact absurd h (by decide)
 rw[if_neg h1] at h
 by_cases h2:k=10/\¬ nd=1
 ·rw[if_pos h2] at h;exact absurd h (by decide)
 rw[if_neg h2] at h
 by_cases h3:nd=3/\d.length=0
 ·rw[if_pos h3] at h;exact absurd h (by decide)
 rw[if_neg h3] at h
 by_cases h4:1<d.length
 ·rw[if_pos h4] at h;exact absurd h (by decide)
 rw[if_neg h4] at h
 by_cases h5:¬ nd=3/\0<d.length
 ·rw[if_pos h5] at h;exact absurd h (by decide)
 refine⟨fun hk=>Decidable.byContradiction fun hh=>h2 ⟨hk,hh⟩,?_⟩
 by_cases hn:nd=3
 ·exact .inl ⟨hn,by have:¬ d.length=0:=fun hh=>h3 ⟨hn,hh⟩;omega⟩
 ·exact .inr ⟨hn,by have:¬ 0<d.length:=fun hh=>h5 ⟨hn,hh⟩;omega⟩
theorem nj {n:Nat}{rec:Int->Typ->Int×Int}:∀ (f:List TFd) (l:Int),(∀ g∈f,mw n g=false)->eD rec l (f.map TFd.typ)=dA n rec l f
 | [],_,_=>rfl
 | x::r,l,h=>by
   rw[List.map_cons,eD,dA,h x (List.mem_cons_self ..),if_neg (show ¬ false=true by decide)]
   split
   ·exact nj r _ fun g hg=>h g (List.mem_cons_of_mem _ hg)
   ·rfl
theorem Dx (rec:Int->Typ->Int×Int)(l:Int)(t:Typ):eD rec l [t]=rec l t:=by
 rw[eD]
 split
 ·rename_i h;rw[eD];exact Prod.ext h.symm rfl
 ·rfl
theorem EQ {n:Nat}{k m M s:Int}{w:List (List UInt8)}{e:List Typ}{f:List TFd}(h:fj (.mk k m M s w e f)=0)(h8:¬ k=8)(l:Int):dB (n+1) l (.mk k m M s w e f)=dA n (dB n) (l - 1) f:=by
 rw[dB,if_pos h]
 by_cases h9:k=9
 ·rw[if_pos h9]
 rw[if_neg h9]
 by_cases h10:k=10
 ·subst h10
  rw[show bi (.mk 10 m M s w e f)=f.map TFd.typ from rfl]
  refine nj f _ fun g hg=>?_
  obtain⟨b,hb⟩:=bH f [] (bJ h).2.2.2 g hg
  obtain⟨n',nm',nd',t',d'⟩:=g
  obtain rfl:=(kj (ja hb)).1 rfl
  rfl
 ·obtain rfl:=(g7 h).2 (by omega)
  rw[show bi (.mk k m M s w e [])=[] by simp only[bi];rw[if_neg h8,if_neg (by omega)]]
  rfl
def Oo (n:Nat):Prop:=∀ (t:Typ) (d l:Int),br n t->aL n t->0<=d->d+n<=9->j2 n<=l->l<=4096 ->
 bF Tryz.prog aq 1 98 [.pv t.pv,.pv (.int .i64 d),.ptr 0 0] [.cells 3 true [.pv (.int .i64 l)]] (.pv (.int .i64 (dB n l t).1)) [.cells 3 true [.pv (.int .i64 (dB n l t).2)]]
theorem oV {n:Nat}{k m M s:Int}{w:List (List UInt8)}{e:List Typ}{f:List TFd}(h:br (n+1) (.mk k m M s w e f)):ak Tryz.prog aq 148 [(Typ.mk k m M s w e f).pv] (.int .i64 (fj (.mk k m M s w e f))):=by
 simp only[br] at h
 exact P4 m M s w e f k (fun x hx=>by have:=h.2.1 x hx;omega)
theorem AG (n:Nat)(ih:Oo n)(m M s:Int)(w:List (List UInt8))(e:List Typ)(f:List TFd)(d l:Int)(ht:br (n+1) (.mk 8 m M s w e f))(hn:aL (n+1) (.mk 8 m M s w e f))(hd:0<=d)(hdn:d+(n+1:Nat)<=9)(hl:j2 (n+1)<=l)(hl2:l<=4096) :
  bF Tryz.prog aq 1 98 [.pv (Typ.mk 8 m M s w e f).pv,.pv (.int .i64 d),.ptr 0 0] [.cells 3 true [.pv (.int .i64 l)]] (.pv (.int .i64 (dB (n+1) l (.mk 8 m M s w e f)).1)) [.cells 3 true [.pv (.int .i64 (dB (n+1) l (.mk 8 m M s w e f)).2)]]:=by
 have h148:=oV ht
 have hpt:=(nE ht).2.2
 have hc0:=fZ n
 simp only[aL] at hn
 rw[j2] at hl
 have hl0:¬ l=0:=by omega
 have hd8:¬ 8<d:=by omega
 by_cases hz:fj (.mk 8 m M s w e f)=0
 ·obtain⟨x,rfl⟩:=jT hz
  have hxt:=hpt x (by rw[show bi (.mk 8 m M s w [x] f)=[x] from rfl];exact List.mem_cons_self ..)
  have hcall:=ih x (d+1) (l - 1) hxt (hn.2.2.1 x (List.mem_cons_self ..)) (by omega) (by omega) (by omega) (by omega)
  rw[dB,if_pos hz,if_neg (by decide),show bi (.mk 8 m M s w [x] f)=[x] from rfl,Dx]
  rw[hz] at h148
  obtain⟨⟨e1,e2⟩,he⟩:∃ q,q=dB n (l - 1) x:=⟨_,rfl⟩
  rw[<- he] at hcall ⊢
  clear he hz hxt hpt
  obtain⟨k',m',M',s',w',e',f'⟩:=x
  simp only[Typ.pv_mk,List.map_cons,List.map_nil] at h148 hcall
  simp only at hcall ⊢
  refine bF.intro Q98.2 (by simp[Q98]) ?_
  simp(disch:=try exact dI) only[Q98,Typ.pv_mk,hl0,hd8,push_cast,seval]
  refine ab.pure h148 rfl ?_
  simp(disch:=try exact dI) only[Typ.pv_mk,az,ag,push_cast,seval]
  refine ab.lentK hcall [0] rfl qsZ qsZ ?_
  refine zgZ ?_
  exact aE [] qsZ
 ·rw[dB,if_neg hz]
  generalize fj (.mk 8 m M s w e f)=z at *
  simp only[Typ.pv_mk] at h148 ⊢
  refine bF.intro Q98.2 (by simp[Q98]) ?_
  simp(disch:=try exact dI) only[Q98,hl0,hd8,push_cast,seval]
  refine ab.pure h148 rfl ?_
  simp(disch:=try exact dI) only[hz,push_cast,seval]
  exact aE [] qsZ
theorem AF (n:Nat)(ih:Oo n)(k m M s:Int)(w:List (List UInt8))(e:List Typ)(f:List TFd)(d l:Int)(ht:br (n+1) (.mk k m M s w e f))(hn:aL (n+1) (.mk k m M s w e f))(hd:0<=d)(hdn:d+(n+1:Nat)<=9)(hl:j2 (n+1)<=l)(hl2:l<=4096)(hk:¬ k=8) :
  bF Tryz.prog aq 1 98 [.pv (Typ.mk k m M s w e f).pv,.pv (.int .i64 d),.ptr 0 0] [.cells 3 true [.pv (.int .i64 l)]] (.pv (.int .i64 (dB (n+1) l (.mk k m M s w e f)).1)) [.cells 3 true [.pv (.int .i64 (dB (n+1) l (.mk k m M s w e f)).2)]]:=by
 have h148:=oV ht
 have hc0:=fZ n
 simp only[br] at ht
 simp only[aL] at hn
 have hrem:=kD hc0 hn.2.1
 rw[j2] at hl
 have hl0:¬ l=0:=by omega
 have hd8:¬ 8<d:=by omega
 by_cases hz:fj (.mk k m M s w e f)=0
 ·have hfl:=(bJ hz).2.2.2
  rw[EQ hz hk]
  rw[hz] at h148
  clear hz
  obtain⟨R,hR⟩:∃ R,R=dA n (dB n) (l - 1) f:=⟨_,rfl⟩
  rw[<- hR]
  simp only[Typ.pv_mk] at h148 ⊢
  refine bF.intro Q98.2 (by simp[Q98]) ?_
  simp(disch:=try exact dI) only[Q98,hl0,hd8,push_cast,seval]
  refine ab.pure h148 rfl ?_
  simp(disch:=try exact dI) only[hk,push_cast,seval]
  refine ap ([]) (fun x:Nat×Int=>[(8,.pv (.int .i64 (x.1:Int)))]) (fun x=>[(0,.cells 3 true [.pv (.int .i64 x.2)])]) (fun x=>x.1<=f.length/\R=dA n (dB n) x.2 (f.drop x.1)/\me (j2 n) (f.drop x.1)<=x.2/\x.2<=4096) (fun x=>f.length - x.1) ((0,l - 1)) ?_;intro e0 σ0 n0 h0;simp(disch:=try exact dI) only[push_cast,seval] at h0;obtain⟨rfl,rfl,rfl⟩:=h0;refine⟨?_,?_,?_⟩
  ·exact qsZ
  ·exact⟨by simp,by simpa using hR,by simpa using (show me (j2 n) f<=l - 1 by omega),by simp only;omega⟩
  rintro⟨i,L⟩ ⟨hi,hr,hL,hL2⟩
  simp only at hi hr hL hL2
  by_cases hlt:i<f.length
  ·have hltI:(i:Int)<(f.length:Int):=by omega
   obtain⟨g,hg⟩:∃ g,f[i]? = some g:=⟨_,List.getElem?_eq_getElem hlt⟩
   have hgm:=List.mem_of_getElem? hg
   obtain⟨hr1,hr2⟩:=kC hc0 hg
   have hgt:=(ht.2.2.2.2.2 g hgm).2.2
   have hgn:=hn.2.2.2 g hgm
   have hcall:=ih g.typ (d+1) L hgt hgn (by omega) (by omega) (by omega) hL2
   have hleft:=fB n g.typ hgn L (by omega)
   have hty:=fA n L g.typ hgn
   obtain⟨bb,hfe⟩:=bH f [] hfl g hgm
   have hgd:=(ht.2.2.2.2.2 g hgm).2.1
   rw[nh hg] at hr
   obtain⟨⟨e1,e2⟩,he⟩:∃ q,q=dB n L g.typ:=⟨_,rfl⟩
   rw[<- he] at hcall hleft hr hty
   clear he
   obtain⟨n',nm',nd',t',d'⟩:=g
   simp only[TFd.typ,TFd.dflt] at hcall hleft hr hty hgt hgn hgd
   have hnd:=(kj (ja hfe)).2
   by_cases he0:e1=0
   ·subst he0
    rw[if_pos rfl] at hr
    rcases hnd with ⟨rfl,hd1⟩ | ⟨h3,hd0⟩
    ·obtain⟨x,r,rfl⟩:=fX hfe
     obtain⟨hx1,hx2,hx3⟩:=hgd x (List.mem_cons_self ..)
     have hd0I:(0:Int)<((x::r).length:Int):=by omega
     have hacc:=Af n t' x hx2 hx1.1 (fun hc=>lr n 9 t' x (hty rfl) hgt (t8 hx2 hc) hx1)
     simp only[mw,oj,decide_true,Bool.true_and] at hr
     generalize accB n t' x=q at hacc hr
     obtain⟨k',m',M',s',w',e',f'⟩:=t'
     obtain⟨vk,vn,vs,vt,vl,vf⟩:=x
     simp only[Typ.pv_mk,Val.pv_mk] at hcall hacc
     simp(disch:=try exact dI) only[hg,Option.map_some,TFd.pv_mk,Typ.pv_mk,ag,push_cast,seval]
     refine ab.lentK hcall [0] rfl qsZ qsZ ?_
     simp(disch:=try exact dI) only[Val.pv_mk,ag,az,hd0I,push_cast,seval]
     refine ab.pure hacc rfl ?_
     cases q with
     | true=>
       rw[if_neg (by decide)] at hr
       refine zgZ ?_
       exact⟨(i+1,e2),aK qsZ,⟨by simp only;omega,hr,by simp only;omega,by simp only;omega⟩,by simp only;omega⟩
     | false=>
       rw[if_pos (by decide)] at hr
       subst hr
       refine zgZ ?_
       exact aE [] qsZ
    ·rw[if_neg (by simp[mw,h3])] at hr
     obtain rfl:=List.length_eq_zero_iff.1 hd0
     obtain⟨k',m',M',s',w',e',f'⟩:=t'
     simp only[Typ.pv_mk] at hcall
     simp(disch:=try exact dI) only[hg,Option.map_some,TFd.pv_mk,Typ.pv_mk,ag,push_cast,seval]
     refine ab.lentK hcall [0] rfl qsZ qsZ ?_
     refine zgZ ?_
     exact⟨(i+1,e2),aK qsZ,⟨by simp only;omega,hr,by simp only;omega,by simp only;omega⟩,by simp only;omega⟩
   ·rw[if_neg he0] at hr
    subst hr
    obtain⟨k',m',M',s',w',e',f'⟩:=t'
    simp only[Typ.pv_mk] at hcall
    simp(disch:=try exact dI) only[hg,Option.map_some,TFd.pv_mk,Typ.pv_mk,ag,push_cast,seval]
    refine ab.lentK hcall [0] rfl qsZ qsZ ?_
    simp(disch:=try exact dI) only[he0,push_cast,seval]
    exact aE [] qsZ
  ·obtain rfl:i=f.length:=by omega
   rw[List.drop_length,dA] at hr
   subst hr
   simp(disch:=try exact dI) only[Int.lt_irrefl,push_cast,seval]
   exact aE [] qsZ
 ·rw[dB,if_neg hz]
  generalize fj (.mk k m M s w e f)=z at *
  simp only[Typ.pv_mk] at h148 ⊢
  refine bF.intro Q98.2 (by simp[Q98]) ?_
  simp(disch:=try exact dI) only[Q98,hl0,hd8,push_cast,seval]
  refine ab.pure h148 rfl ?_
  simp(disch:=try exact dI) only[hz,push_cast,seval]
  exact aE [] qsZ
theorem AH:∀ n,Oo n
 | 0=>fun _ _ _ h=>h.elim
 | n+1=>fun t d l ht hn hd hdn hl hl2=>by
   have ih:=AH n
   obtain⟨k,m,M,s,w,e,f⟩:=t
   by_cases hk:k=8
   ·subst hk;exact AG n ih m M s w e f d l ht hn hd hdn hl hl2
   ·exact AF n ih k m M s w e f d l ht hn hd hdn hl hl2 hk
def FW (a b:Int):Prop:=0<=a/\a<=b/\(a=b\/4097<=a)
theorem BM {p q:TFd->Int}:∀ (f:List TFd),(∀ g∈f,FW (p g) (q g))->FW (f.map p).sum (f.map q).sum
 | [],_=>by simp[FW]
 | g::r,h=>by
   have h1:=h g (List.mem_cons_self ..)
   have h2:=BM r fun x hx=>h x (List.mem_cons_of_mem _ hx)
   simp only[List.map_cons,List.sum_cons,FW] at *
   omega
theorem Mg {m a b:Int}(hm:0<m)(h:FW a b):FW (m*a) (m*b):=by
 obtain⟨h1,h2,h3⟩:=h
 refine⟨Int.mul_nonneg (by omega) h1,Int.mul_le_mul_of_nonneg_left h2 (by omega),?_⟩
 rcases h3 with rfl | h3
 ·exact .inl rfl
 ·have:1*a<=m*a:=Int.mul_le_mul_of_nonneg_right (by omega) h1
  exact .inr (by omega)
theorem jS {a:Int}(h:0<=a):FW a a:=⟨h,by omega,.inl rfl⟩
theorem po:∀ (n:Nat) (t:Typ),dC n t->FW (b9 n t) (ca n t)/\b9 n t=min (ca n t) 4097
 | 0,_,h=>h.elim
 | n+1,.mk k m M s w e f,h=>by
   have ih:=po n
   simp only[dC] at h
   obtain⟨h8,h10,h9,hf⟩:=h
   have key:FW (cg (b9 n) k m e f) (cg (ca n) k m e f):=by
    unfold cg
    by_cases e8:k=8
    ·rw[if_pos e8,if_pos e8]
     by_cases hm:0<m
     ·rw[if_pos hm,if_pos hm]
      obtain⟨_,x,r,rfl,hx⟩:=h8 e8 hm
      exact Mg hm (ih x hx).1
     ·rw[if_neg hm,if_neg hm];exact jS (by omega)
    rw[if_neg e8,if_neg e8]
    by_cases e10:k=10
    ·rw[if_pos e10,if_pos e10]
     obtain⟨g,r,rfl,_,hx⟩:=h10 e10
     obtain⟨a,b,c,t,d⟩:=g
     exact (ih t hx).1
    rw[if_neg e10,if_neg e10]
    by_cases e9:k=9
    ·rw[if_pos e9,if_pos e9]
     refine BM f fun g hg=>?_
     have hr:=(h9 e9).2 g hg
     obtain⟨a,b,nd,t,d⟩:=g
     simp only[gH,kE] at hr ⊢
     by_cases n1:nd=1
     ·rw[if_pos n1,if_pos n1];exact (ih t (hr.1 n1)).1
     ·rw[if_neg n1,if_neg n1]
      by_cases n3:nd=3
      ·obtain⟨x,r,rfl,hx⟩:=hr.2 n3
       rw[if_pos n3];simp only[OH];exact jS (by omega)
      ·rw[if_neg n3];exact jS (by omega)
    ·rw[if_neg e9,if_neg e9];exact jS (by omega)
   simp only[b9,ca,FW] at key ⊢
   omega
theorem fv {α:Type}{p:α->Int}:∀ (l:List α) (a:Int),(4096<l.foldl (fun a x=>max a (p x)) a↔(4096<a\/∃ x∈l,4096<p x))
 | [],a=>by simp
 | x::r,a=>by
   rw[List.foldl_cons,fv r,show (4096<max a (p x)↔(4096<a\/4096<p x)) by omega]
   simp[or_assoc]
theorem lx:∀ (n:Nat) (t:Typ),Ob n t->(4096<cp n t↔4096<cK n t)
 | 0,_,h=>h.elim
 | n+1,.mk k m M s w e f,h=>by
   simp only[Ob] at h
   obtain⟨hs,_,_,he,hf⟩:=h
   have h9:=(po 9 _ hs).2
   simp only[cp,cK]
   rw[fv (p:=fun g:TFd=>cp n g.typ) f,fv (p:=fun g:TFd=>cK n g.typ) f,fv e,fv e,h9]
   exact or_congr (or_congr (by omega) (exists_congr fun x=>and_congr_right fun hx=>lx n x (he x hx))) (exists_congr fun g=>and_congr_right fun hg=>lx n g.typ (hf g hg))
theorem gN:∀ (n N:Nat) (t:Typ),n<=N->tyV n t->br n t->dC N t
 | 0,_,_,_,h,_=>h.elim
 | _+1,0,_,h,_,_=>absurd h (by omega)
 | n+1,N+1,.mk k m M s w e f,hN,h,ht=>by
   obtain⟨ho,h8,h9⟩:=h
   simp only[br] at ht
   obtain⟨t1,t2,t3,t4,t5,t6⟩:=ht
   refine⟨fun hk hm=>?_,fun hk=>?_,fun hk=>⟨Kt ho,fun g hg=>?_⟩,fun hk=>(g7 ho).2 hk⟩
   ·subst hk
    obtain⟨x,rfl⟩:=jT ho
    exact⟨CE ho,x,[],rfl,gN n N x (by omega) (h8 rfl x (List.mem_cons_self ..)) (t5 x (List.mem_cons_self ..))⟩
   ·subst hk
    obtain⟨g,r,rfl⟩:=CC ho
    obtain⟨b,hb⟩:=bH _ [] (bJ ho).2.2.2 g (List.mem_cons_self ..)
    refine⟨g,r,rfl,?_,gN n N g.typ (by omega) (h9 (.inr rfl) g (List.mem_cons_self ..)) (t6 g (List.mem_cons_self ..)).2.2⟩
    obtain⟨n',nm',nd',t',d'⟩:=g
    exact (kj (ja hb)).1 rfl
   ·subst hk
    have hs:=gN n N g.typ (by omega) (h9 (.inl rfl) g hg) (t6 g hg).2.2
    obtain⟨b,hb⟩:=bH f [] (bJ ho).2.2.2 g hg
    have hd:=(t6 g hg).2.1
    obtain⟨n',nm',nd',t',d'⟩:=g
    refine⟨fun _=>hs,fun h3=>?_⟩
    subst h3
    obtain⟨x,r,rfl⟩:=fX hb
    obtain⟨x1,x2,x3⟩:=hd x (List.mem_cons_self ..)
    exact⟨x,r,rfl,x2,x1.1,x3⟩
theorem tO:∀ (n:Nat) (t:Typ),n<=9->tyV n t->br n t->Ob n t
 | 0,_,_,h,_=>h.elim
 | n+1,.mk k m M s w e f,hN,h,ht=>by
   have hs:=gN (n+1) 9 _ hN h ht
   obtain⟨ho,h8,h9⟩:=h
   obtain⟨he,hf⟩:=g7 ho
   simp only[br] at ht
   obtain⟨t1,t2,t3,t4,t5,t6⟩:=ht
   refine⟨hs,by omega,by omega,fun x hx=>?_,fun g hg=>?_⟩
   ·by_cases hk:k=8
    ·exact tO n x (by omega) (h8 hk x hx) (t5 x hx)
    ·rw[he hk] at hx;cases hx
   ·by_cases hk:k=9\/k=10
    ·exact tO n g.typ (by omega) (h9 hk g hg) (t6 g hg).2.2
    ·rw[hf hk] at hg;cases hg
theorem NW (n:Nat)(t:Typ)(hn:n<=5)(ht:br n t)(hw:aL n t):ak Tryz.prog aq 51 [t.pv] (.int .i64 (FL n t)):=by
 have hcnt:j2 n<=4096:=by
  have hc:n=0\/n=1\/n=2\/n=3\/n=4\/n=5:=by omega
  rcases hc with rfl | rfl | rfl | rfl | rfl | rfl<;>decide
 have h94:=AH n t 1 4096 ht hw (by omega) (by omega) hcnt (by omega)
 have h95:(dB n 4096 t).1=0->ak Tryz.prog aq 99 [t.pv] (.int .i64 (cK n t))/\(4096<cp n t↔4096<cK n t):=fun h=>by
  have ha:=tO n t (by omega) (fA n 4096 t hw h) ht
  exact⟨m6 n t ha,lx n t ha⟩
 simp only[FL]
 obtain⟨⟨z,L⟩,hq⟩:∃ q,q=dB n 4096 t:=⟨_,rfl⟩
 rw[<- hq] at h94 h95 ⊢
 simp only at h94 h95 ⊢
 clear hq
 generalize cp n t=G at h95 ⊢
 generalize cK n t=H at h95
 obtain⟨k,m,M,s,w,e,f⟩:=t
 simp only[Typ.pv_mk] at h94 h95
 refine ak.intro Q51.2 (by simp[Q51]) ?_
 by_cases hz:z=0
 ·subst hz
  obtain⟨h95,hGH⟩:=h95 rfl
  rw[if_pos rfl]
  by_cases hg:4096<H
  ·rw[if_pos (hGH.2 hg)]
   simp(disch:=try exact dI) only[Q51,Typ.pv_mk,push_cast,seval]
   refine ab.lentK h94 [1] rfl qsZ qsZ ?_
   refine zgZ ?_
   refine ab.pure h95 rfl ?_
   simp(disch:=try exact dI) only[hg,push_cast,seval]
  ·rw[if_neg (fun h=>hg (hGH.1 h))]
   simp(disch:=try exact dI) only[Q51,Typ.pv_mk,push_cast,seval]
   refine ab.lentK h94 [1] rfl qsZ qsZ ?_
   refine zgZ ?_
   refine ab.pure h95 rfl ?_
   simp(disch:=try exact dI) only[hg,push_cast,seval]
 ·rw[if_neg hz]
  simp(disch:=try exact dI) only[Q51,Typ.pv_mk,push_cast,seval]
  refine ab.lentK h94 [1] rfl qsZ qsZ ?_
  simp(disch:=try exact dI) only[hz,push_cast,seval]
theorem Ly {rec:Val->Val}{on:Bool}(hr:∀ v:Val,v.ok->(rec v).ok):∀ v:Val,v.ok->(cr rec on v).ok
 | .mk k i s t l f,h=>by
   rw[Val.ok_mk] at h
   obtain⟨h1,h2,h3,h4,h5,h6,h7,h8⟩:=h
   simp only[cr,Val.ok_mk]
   have ht:(t.take 40).length<=140737488351232:=by rw[List.length_take];omega
   cases on with
   | false=>simp only[Bool.false_eq_true,if_false];exact⟨h1,h2,h3,ht,by simp,by simp,by simp,by simp⟩
   | true=>
     simp only[if_true]
     refine⟨h1,h2,h3,ht,by rw[List.length_map,List.length_take];omega,fun x hx=>?_,by rw[List.length_map,List.length_take];omega,fun x hx=>?_⟩
     ·obtain⟨y,hy,rfl⟩:=List.mem_map.1 hx
      exact hr y (h6 y (List.mem_of_mem_take hy))
     ·obtain⟨y,hy,rfl⟩:=List.mem_map.1 hx
      have:=h8 y (List.mem_of_mem_take hy)
      obtain⟨n,v⟩:=y
      rw[Fld.ok_mk] at this
      simp only[jk,Fld.ok_mk]
      exact⟨by rw[List.length_take];omega,hr v this.2⟩
theorem pf:∀ (n:Nat) (v:Val),v.ok->(aP n v).ok
 | 0=>Ly (fun _ h=>h)
 | n+1=>Ly (pf n)
theorem eh {rec:Val->Val}{on:Bool}(v:Val):(cr rec on v).lst.length<=6/\(cr rec on v).fields.length<=6/\(∀ x∈(cr rec on v).lst,on=true/\∃ y∈v.lst,x=rec y)/\∀ x∈(cr rec on v).fields,on=true/\∃ y∈v.fields,x.value=rec y.value:=by
 obtain⟨k,i,s,t,l,f⟩:=v
 simp only[cr,Val.lst,Val.fields]
 cases on with
 | false=>simp
 | true=>
   simp only[if_true]
   refine⟨by rw[List.length_map,List.length_take];omega,by rw[List.length_map,List.length_take];omega,fun x hx=>?_,fun x hx=>?_⟩
   ·obtain⟨y,hy,rfl⟩:=List.mem_map.1 hx
    exact⟨by trivial,y,List.mem_of_mem_take hy,rfl⟩
   ·obtain⟨y,hy,rfl⟩:=List.mem_map.1 hx
    obtain⟨n,v⟩:=y
    exact⟨by trivial,_,List.mem_of_mem_take hy,rfl⟩
theorem pG {v x:Val}(h:x∈aV v):x∈v.lst\/∃ f∈v.fields,x=f.value:=by
 unfold aV at h
 split at h
 ·exact .inl h
 ·split at h
  ·obtain⟨f,hf,rfl⟩:=List.mem_map.1 h
   exact .inr ⟨f,hf,rfl⟩
  ·cases h
theorem pH (v:Val)(h1:v.lst.length<=6)(h2:v.fields.length<=6):(aV v).length<=6:=by
 unfold aV
 split
 ·exact h1
 ·split
  ·rw[List.length_map];exact h2
  ·simp
theorem ji {n:Nat}{v x:Val}(h:x∈aV (aP (n+1) v)):∃ y,x=aP n y:=by
 obtain⟨_,_,h3,h4⟩:=eh (rec:=aP n) (on:=decide (0<n)) v
 rcases pG h with h | ⟨f,hf,rfl⟩
 ·obtain⟨_,y,_,e⟩:=h3 x h;exact⟨y,e⟩
 ·obtain⟨_,y,_,e⟩:=h4 f hf;exact⟨y.value,e⟩
theorem gM (v:Val):aV (aP 0 v)=[]:=by
 obtain⟨_,_,h3,h4⟩:=eh (rec:=id) (on:=false) v
 refine List.eq_nil_iff_forall_not_mem.2 fun x h=>?_
 rcases pG h with h | ⟨f,hf,rfl⟩
 ·exact absurd (h3 x h).1 (by decide)
 ·exact absurd (h4 f hf).1 (by decide)
theorem rV:∀ (n:Nat) (v:Val),(aV (aP n v)).length<=6
 | 0,v=>pH _ (eh (rec:=id) (on:=false) v).1 (eh (rec:=id) (on:=false) v).2.1
 | n+1,v=>pH _ (eh (rec:=aP n) (on:=decide (0<n)) v).1 (eh (rec:=aP n) (on:=decide (0<n)) v).2.1
theorem kt:∀ (n:Nat) (v:Val),cy (n+1) (aP n v)
 | 0,v=>by intro x hx;rw[gM] at hx;cases hx
 | n+1,v=>by
   intro x hx
   obtain⟨y,rfl⟩:=ji hx
   exact kt n y
def OS:Nat->Nat
 | 0=>1
 | n+1=>1+6*OS n
theorem mK {c:Nat}:∀ (l:List Nat),(∀ x∈l,x<=c)->l.sum<=l.length*c
 | [],_=>by simp
 | x::r,h=>by
   have h1:=h x (List.mem_cons_self ..)
   have h2:=mK r fun y hy=>h y (List.mem_cons_of_mem _ hy)
   rw[List.sum_cons,List.length_cons,Nat.add_mul,Nat.one_mul]
   omega
theorem pd:∀ (n m:Nat) (v:Val),szN m (aP n v)<=OS n
 | _,0,_=>by rw[szN];exact Nat.zero_le _
 | 0,m+1,v=>by rw[szN,gM];simp[OS]
 | n+1,m+1,v=>by
   rw[szN,OS]
   have h1:=mK (c:=OS n) ((aV (aP (n+1) v)).map (szN m)) fun x hx=>by
    obtain⟨y,hy,rfl⟩:=List.mem_map.1 hx
    obtain⟨z,rfl⟩:=ji hy
    exact pd n m z
   have h2:=rV (n+1) v
   rw[List.length_map] at h1
   have h3:=Nat.mul_le_mul_right (OS n) h2
   omega
theorem Bd {n:Nat}{rec:Val->Val}{on:Bool}(hr:∀ v:Val,v.ok->(rec v).ok)(ht:on=true->∀ v:Val,v.ok->ki n (rec v))(v:Val)(hv:v.ok):ki (n+1) (cr rec on v):=by
 obtain⟨h1,h2,h3,h4⟩:=eh (rec:=rec) (on:=on) v
 refine⟨Ly hr v hv,by omega,by omega,fun x hx=>?_,fun x hx=>?_⟩
 ·obtain⟨ho,y,hy,rfl⟩:=h3 x hx
  obtain⟨k,i,s,t,l,f⟩:=v
  rw[Val.ok_mk] at hv
  exact ht ho y (hv.2.2.2.2.2.1 y hy)
 ·obtain⟨ho,y,hy,e⟩:=h4 x hx
  rw[e]
  obtain⟨k,i,s,t,l,f⟩:=v
  rw[Val.ok_mk] at hv
  have:=hv.2.2.2.2.2.2.2 y hy
  obtain⟨n',v'⟩:=y
  rw[Fld.ok_mk] at this
  exact ht ho v' this.2
theorem kr:∀ (n:Nat) (v:Val),v.ok->ki (n+1) (aP n v)
 | 0=>Bd (fun _ h=>h) (fun h=>absurd h (by decide))
 | n+1=>Bd (pf n) (fun _=>kr n)
theorem ef:∀ (n:Nat) (v:Val),ki n v->ki (n+1) v
 | 0,_,h=>h.elim
 | n+1,v,h=>⟨h.1,h.2.1,h.2.2.1,fun x hx=>ef n x (h.2.2.2.1 x hx),fun x hx=>ef n x.value (h.2.2.2.2 x hx)⟩
theorem Pq (v:Val)(hv:v.ok):ki 9 (aP 3 v)/\cy 9 (aP 3 v)/\(cf 9 1 (aP 3 v)).length<=1000000000000:=by
 refine⟨ef _ _ (ef _ _ (ef _ _ (ef _ _ (ef _ _ (kr 3 v hv))))),eG _ _ (eG _ _ (eG _ _ (eG _ _ (eG _ _ (kt 3 v))))),?_⟩
 rw[nU]
 exact Nat.le_trans (pd 3 9 v) (by decide)
theorem Bj {n:Nat}{rec:Typ->Typ}{on:Bool}(hr:on=true->∀ t:Typ,t.ok->br n (rec t)/\aL n (rec t)):∀ t:Typ,t.ok->br (n+1) (dm rec on t)/\aL (n+1) (dm rec on t)
 | .mk k m M s w e f,h=>by
   rw[Typ.ok_mk] at h
   obtain⟨h1,h2,h3,h4,h5,h6,h7,h8,h9,h10⟩:=h
   have hw1:((w.take 6).map (List.take 40)).length<=1000000:=by rw[List.length_map,List.length_take];omega
   have hw2:∀ x∈(w.take 6).map (List.take 40),x.length<=1000000:=fun x hx=>by
    obtain⟨y,hy,rfl⟩:=List.mem_map.1 hx
    rw[List.length_take];omega
   simp only[dm,br,aL]
   cases on with
   | false=>simp only[Bool.false_eq_true,if_false];exact⟨⟨hw1,hw2,by simp,by simp,by simp,by simp⟩,by simp,by simp,by simp,by simp⟩
   | true=>
     simp only[if_true]
     have hel:((e.take 2).map rec).length<=2:=by rw[List.length_map,List.length_take];omega
     have hfl:((f.take 6).map (ct rec)).length<=6:=by rw[List.length_map,List.length_take];omega
     have he:∀ x∈(e.take 2).map rec,br n x/\aL n x:=fun x hx=>by
      obtain⟨y,hy,rfl⟩:=List.mem_map.1 hx
      exact hr rfl y (h8 y (List.mem_of_mem_take hy))
     have hf:∀ g∈(f.take 6).map (ct rec),(g.dflt.length<=1000000/\(∀ v∈g.dflt,ki 9 v/\cy 9 v/\(cf 9 1 v).length<=1000000000000)/\br n g.typ)/\aL n g.typ:=fun x hx=>by
      obtain⟨y,hy,rfl⟩:=List.mem_map.1 hx
      have hy':=h10 y (List.mem_of_mem_take hy)
      obtain⟨a,b,c,t,d⟩:=y
      rw[TFd.ok_mk] at hy'
      obtain⟨_,_,_,q4,_,q6⟩:=hy'
      have hh:=hr rfl t q4
      simp only[ct,TFd.dflt,TFd.typ]
      refine⟨⟨by rw[List.length_map,List.length_take];omega,fun v hv=>?_,hh.1⟩,hh.2⟩
      obtain⟨z,hz,rfl⟩:=List.mem_map.1 hv
      exact Pq z (q6 z (List.mem_of_mem_take hz))
     exact⟨⟨hw1,hw2,by omega,by omega,fun x hx=>(he x hx).1,fun g hg=>(hf g hg).1⟩,by omega,by omega,fun x hx=>(he x hx).2,fun g hg=>(hf g hg).2⟩
theorem kw:∀ (n:Nat) (t:Typ),t.ok->br (n+1) (aX n t)/\aL (n+1) (aX n t)
 | 0=>Bj (fun h=>absurd h (by decide))
 | n+1=>Bj (fun _=>kw n)
end Go.Proofs.YtbaaokocnegdoaaGreatDoor
