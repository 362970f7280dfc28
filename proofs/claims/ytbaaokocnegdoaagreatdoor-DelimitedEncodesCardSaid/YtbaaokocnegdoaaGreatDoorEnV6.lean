/- A part. -/
import Derived.Test.YtbaaokocnegdoaaGreatDoorEnV4
import Derived.Shelf.Strings.Builder1
import Derived.Shelf.Strings.Builder2
import Derived.Shelf.LaysM
import Derived.Shelf.Strings.Replace
import Derived.Test.YtbaaokocnegdoaaGreatDoorProg
set_option linter.unusedVariables false
set_option linter.unusedSimpArgs false
set_option maxRecDepth 100000
open List renaming length_append->Vp,length_cons->Vq,cons_append->VF,getElem?_append_right->VK
open Bool renaming or_eq_false_iff->Wq,false_eq_true->Vz
namespace Go.Proofs.YtbaaokocnegdoaaGreatDoor
open Go Go.Ab
attribute [local irreducible] vc
def lg (L:List UInt8)(sep:UInt8)(y:Nat×Sx):Nat×Sx:=
 if y.1=0 then AU L y.2 else if y.1=1 then lR y.2 (cl L sep y.2.pos) else if y.1=2 then lR y.2 (gV L sep y.2.pos) else Nr L y.2
def C5 (L:List UInt8)(sep:UInt8)(y:Nat×Sx):Res:=
 if y.1=0 then Ab.runN L sep y.2.pos y.2.cells y.2.places else if y.1=1 then mR L sep y.2.cells y.2.places (cl L sep y.2.pos)
 else if y.1=2 then mR L sep y.2.cells y.2.places (gV L sep y.2.pos) else if y.1=3 then Ns L sep y.2.pos y.2.cells y.2.places
 else if y.2.e=0 then .ok y.2.cells y.2.places else .err y.2.wrong y.2.e
def vY (L:List UInt8)(y:Nat×Sx):Prop:=
 y.2.cells.length<=64/\y.2.places.length<=64 /\
 if y.1=0 then y.2.pos<=L.length/\y.2.e=0/\y.2.places.length=y.2.cells.length
 else if y.1=1\/y.1=2 then y.2.pos<=L.length/\y.2.e=0/\y.2.places.length=y.2.cells.length+1
 else if y.1=3 then y.2.pos<=L.length/\y.2.e=0/\y.2.places.length=y.2.cells.length
 else y.1=4
def muP (L:List UInt8)(y:Nat×Sx):Nat:=
 if y.1=4 then 0 else 4*(L.length+1 - y.2.pos)+(if y.1=0 then 3 else if y.1=3 then 1 else 2)
theorem ym {L:List UInt8}{sep:UInt8}{a o:Nat}{e:Int}(h:cl L sep a = .err o e):e≠0:=by
 unfold cl at h
 split at h<;>cases h
 decide
theorem CI {L:List UInt8}{sep:UInt8}{a o:Nat}{e:Int}(h:gV L sep a = .err o e):e≠0:=by
 unfold gV at h
 cases hq:(bQ (L.drop a)).map (sh [] a) with
 | none=>rw[hq] at h;cases h;decide
 | some p=>
   rw[hq] at h
   simp only[bU] at h
   split at h
   ·split at h<;>cases h
    decide
   ·cases h
theorem GB {L:List UInt8}{sep:UInt8}{y:Nat×Sx}(h:vY L y)(h4:y.1<4):C5 L sep (lg L sep y)=C5 L sep y/\vY L (lg L sep y)/\muP L (lg L sep y)<muP L y:=by
 obtain⟨ph,p,C,Pl,wr,er⟩:=y
 obtain⟨hc,hp,h⟩:=h
 simp only at hc hp h h4
 have key:∀ o:Out,(∀ w e,o = .err w e->e≠0)->(∀ c a,o = .ok c a->p<=a/\a<=L.length)->er=0->p<=L.length->Pl.length=C.length+1 ->
   C5 L sep (lR ⟨p,C,Pl,wr,er⟩ o)=mR L sep C Pl o/\vY L (lR ⟨p,C,Pl,wr,er⟩ o)/\muP L (lR ⟨p,C,Pl,wr,er⟩ o)<4*(L.length+1 - p)+2:=by
  intro o h1 h2 h3 h5 h6
  cases o with
  | err w e=>
    have:=h1 w e rfl
    simp[lR,C5,mR,vY,muP,this,hc,hp]
  | ok c a=>
    have:=h2 c a rfl
    simp[lR,C5,mR,vY,muP,hc,hp,h3]
    omega
 obtain rfl | rfl | rfl | rfl:ph=0\/ph=1\/ph=2\/ph=3:=by omega
 ·simp only[if_true] at h
  obtain⟨h1,h2,h3⟩:=h
  simp only[lg,C5,if_true,AU]
  rw[Ab.runN_eq h1]
  by_cases h64:C.length=64
  ·simp[h64,vY,muP];omega
  ·rw[if_neg h64,if_neg h64]
   unfold nr
   by_cases hq:L[p]? = some 34
   ·have hlt:=(List.getElem?_eq_some_iff.1 hq).1
    rw[if_pos hq,if_pos hq]
    simp[vY,muP,h2,h3];omega
   ·rw[if_neg hq,if_neg hq]
    simp[vY,muP,h2,h3];omega
 ·simp at h
  obtain⟨h1,h2,h3⟩:=h
  have:=key (cl L sep p) (fun w e=>ym) (fun c a hh=>⟨(lN h1 hh).1,(lN h1 hh).2.1⟩) h2 h1 h3
  simpa[lg,C5,muP] using this
 ·simp at h
  obtain⟨h1,h2,h3⟩:=h
  have:=key (gV L sep p) (fun w e=>CI) (fun c a hh=>⟨(oM h1 hh).1,(oM h1 hh).2.1⟩) h2 h1 h3
  simpa[lg,C5,muP] using this
 ·simp at h
  obtain⟨h1,h2,h3⟩:=h
  simp only[lg,C5,Nr,Ns,muP]
  by_cases hl:L.length<=p
  ·simp[hl,vY,h2,hc,hp]
  ·simp[hl,vY,h2,h3,hc,hp];omega
def fnP:Nat->Nat
 | 0=>108
 | 1=>161
 | 2=>160
 | _=>209
theorem Lr (L:List UInt8)(sep:UInt8)(y:Nat×Sx)(hL:L.length<=65536)(h:vY L y)(h4:y.1<4) :
  bk Tryz.prog aq 1 (fnP y.1) [.ptr 0 0] (bX L sep y.1 y.2) (.pv (cp (lg L sep y).1)) (bX L sep (lg L sep y).1 (lg L sep y).2):=by
 obtain⟨ph,x⟩:=y
 obtain⟨hc,hp,h⟩:=h
 simp only at hc hp h h4
 obtain rfl | rfl | rfl | rfl:ph=0\/ph=1\/ph=2\/ph=3:=by omega
 ·simp only[if_true] at h
  exact Jm L sep x hL h.1 hc hp
 ·simp at h
  exact Hy L sep x hL h.1 hc
 ·simp at h
  exact CH L sep x hL h.1 hc
 ·simp at h
  exact Qv L sep x hL h.1
theorem Mm (ph a:Nat):CR ph a = .any\/CR ph a = .pv (.int .i64 (a:Int)):=by
 unfold CR;split
 ·exact .inl rfl
 ·exact .inr rfl
theorem tc {ph a:Nat}(h:¬ ph=4):CR ph a = .pv (.int .i64 (a:Int)):=if_neg h
theorem DU {L:List UInt8}{y:Nat×Sx}(h:vY L y):y.1<=4:=by
 have:=h.2.2
 split at this
 ·omega
 ·split at this
  ·omega
  ·split at this
   ·omega
   ·omega
def resV:Res->PV
 | .err o e=>.tup [.nils,.nils,.int .i64 (o:Int),.int .i64 e]
 | .ok C Pl=>.tup [.list (C.map iZ),.list (Pl.map gj),.int .i64 0,.int .i64 0]
def eo (L:List UInt8)(n:Int):Res:=
 if eh n=true then (if 65536<L.length then .err 0 5 else Ab.runN L n.toNat.toUInt8 0 [] []) else .err 0 2
theorem Lx (L:List UInt8)(n:Int):ae Tryz.prog aq 57 [.str L,.int .i64 n] (resV (eo L n)):=by
 have hs:=tQ n
 rw[uU] at hs
 unfold eo
 generalize hb:eh n=b at *
 refine ae.intro Q57.2 (by simp[Q57]) ?_
 cases b with
 | false=>
   rw[if_neg (by simp)]
   simp(disch:=try exact dI) only[Q57,resV,push_cast,seval]
   refine ab.pure hs rfl ?_
   exact qsZ
 | true=>
   have hn:0<=n/\n<128:=by unfold eh at hb;simp at hb;omega
   have hw:=ji hn.1 (by omega:n<=255)
   by_cases hL:65536<L.length
   ·simp only[if_true,hL]
    simp(disch:=try exact dI) only[Q57,resV,push_cast,seval]
    refine ab.pure hs rfl ?_
    exact qsZ
   ·simp only[if_true,hL,if_false]
    obtain⟨sep,hsep⟩:∃ sep,sep=n.toNat.toUInt8:=⟨_,rfl⟩
    have hse:n=(sep.toNat:Int):=by rw[hsep];simp;omega
    rw[<- hsep]
    rw[hse] at hw
    simp(disch:=try exact dI) only[Q57,hw,push_cast,seval]
    refine ab.pure hs rfl ?_
    simp(disch:=try exact dI) only[hse,hw,push_cast,seval]
    obtain⟨R,hR⟩:∃ R,R=Ab.runN L sep 0 [] []:=⟨_,rfl⟩
    rw[<- hR]
    refine ap ([(8,4,66,2),(8,5,3,1)]) (fun y:Nat×Sx=>[(9,.pv (cp y.1))]) (fun y=>[(0,.cells 158 true [.pv (.str L),.pv (.int .u8 (sep.toNat:Int)),CR y.1 y.2.pos,.olist 1 2 (y.2.cells.map iZ),.olist 2 1 (y.2.places.map gj),.pv (.int .i64 (y.2.wrong:Int)),.pv (.int .i64 y.2.e)])]) (fun y=>vY L y/\y.1<=4/\R=C5 L sep y) (fun y=>muP L y) ((0,⟨0,[],[],0,0⟩)) ?_;intro e0 σ0 n0 h0;simp(disch:=try exact dI) only[push_cast,seval] at h0;obtain⟨rfl,rfl,rfl⟩:=h0;refine⟨?_,?_,?_⟩
    ·simp(disch:=try exact dI) only[cp,fk,push_cast,seval]
    ·exact⟨by simp[vY],by simp,by simp[C5,hR]⟩
    ·rintro⟨ph,x⟩ ⟨h1,h2,h3⟩
     simp only at h2
     by_cases h4:ph=4
     ·subst h4
      obtain⟨p,C,Pl,wr,er⟩:=x
      have:R=if er=0 then .ok C Pl else .err wr er:=h3
      by_cases h0:er=0
      ·subst h0
       rw[this,if_pos rfl]
       simp(disch:=try exact dI) only[cp,fj,resV,push_cast,seval]
      ·rw[this,if_neg h0]
       simp(disch:=try exact dI) only[cp,fj,resV,push_cast,seval]
     ·have hso:=GB (sep:=sep) h1 (by simp only;omega)
      have hst:=Lr L sep (ph,x) (by omega) h1 (by simp only;omega)
      rw[<- hso.1] at h3
      replace hso:=hso.2
      generalize lg L sep (ph,x)=z at *
      obtain⟨ph',x'⟩:=z
      simp only at hst
      have hnx:∃ f,cp ph = .clo f [] []/\f=fnP ph:=by
       obtain rfl | rfl | rfl | rfl:ph=0\/ph=1\/ph=2\/ph=3:=by omega
       all_goals exact⟨_,rfl,rfl⟩
      obtain⟨f,hf1,hf2⟩:=hnx
      rw[<- hf2] at hst
      rw[bX,bX,tc h4] at hst
      rcases Mm ph' x'.pos with hz | hz
      ·rw[hz] at hst
       simp(disch:=try exact dI) only[hf1,tc h4,push_cast,seval]
       refine ab.lentK hst [0,1,2] rfl qsZ qsZ ?_
       refine zgZ ?_
       exact⟨(ph',x'),aI (by simp(disch:=try exact dI) only[hz,push_cast,seval]),⟨hso.1,DU hso.1,h3⟩,hso.2⟩
      ·rw[hz] at hst
       simp(disch:=try exact dI) only[hf1,tc h4,push_cast,seval]
       refine ab.lentK hst [0,1,2] rfl qsZ qsZ ?_
       refine zgZ ?_
       exact⟨(ph',x'),aI (by simp(disch:=try exact dI) only[hz,push_cast,seval]),⟨hso.1,DU hso.1,h3⟩,hso.2⟩
open Nat renaming reduceEqDiff->qa,reduceAdd->qb,reduceMul->qc,reduceLeDiff->qd,reduceLT->qe,reduceBEq->qf,reduceSub->qg
open Int renaming reduceToNat->qh,reduceNeg->qi
def rR (z:Cel×Nat):PV:=.agg [.str z.1.1,.bool z.1.2,.int .i64 (z.2:Int)]
theorem BM (c sep:UInt8):ae Tryz.prog aq 70 [.int .u8 (c.toNat:Int),.int .i64 (sep.toNat:Int)] (.bool (c == sep||bad c)):=by
 have hc:=c.toNat_lt
 have hw:=ii (n:=(c.toNat:Int)) (by omega) (by omega)
 refine ae.intro Q70.2 (by simp[Q70]) ?_
 by_cases h0:c=sep
 ·subst h0
  rw[show (c == c||bad c)=true by simp]
  simp(disch:=try exact dI) only[Q70,hw,push_cast,↓reduceIte,qa,qb,qc,qd,qe,qf,qg,qh,qi]
 have n0:¬ ((c.toNat:Int)=(sep.toNat:Int)):=fun h=>h0 ((u8n c sep).1 h)
 by_cases h1:c=34
 ·subst h1
  rw[show ((34:UInt8) == sep||bad 34)=true by simp[bad]]
  simp(disch:=try exact dI) only[Q70,hw,n0,push_cast,↓reduceIte,qa,qb,qc,qd,qe,qf,qg,qh,qi]
 have n1:=MH h1
 by_cases h2:c=13
 ·subst h2
  rw[show ((13:UInt8) == sep||bad 13)=true by simp[bad]]
  simp(disch:=try exact dI) only[Q70,hw,n0,push_cast,↓reduceIte,qa,qb,qc,qd,qe,qf,qg,qh,qi]
 have n2:=SL h2
 by_cases h3:c=10
 ·subst h3
  rw[show ((10:UInt8) == sep||bad 10)=true by simp[bad]]
  simp(disch:=try exact dI) only[Q70,hw,n0,push_cast,↓reduceIte,qa,qb,qc,qd,qe,qf,qg,qh,qi]
 have n3:=Uy h3
 rw[show (c == sep||bad c)=false by simp[bad,h0,h1,h2,h3]]
 simp(disch:=try exact dI) only[Q70,hw,n0,n1,n2,n3,push_cast,↓reduceIte,qa,qb,qc,qd,qe,qf,qg,qh,qi]
theorem PT {L:List UInt8}{q:Nat}{c:UInt8}(h:L[q]? = some c):List.drop q (List.take (q+1) L)=[c]:=by
 rw[List.drop_take,bD h];simp
end Go.Proofs.YtbaaokocnegdoaaGreatDoor
namespace Go.Ab
open Go
def dbl:List UInt8->List UInt8
 | []=>[]
 | c::r=>if c=34 then 34::34::dbl r else c::dbl r
def spc (sep:UInt8)(t:List UInt8):Bool:=t.any fun c=>c == sep||bad c
def wrt (c:Cel):List UInt8:=if c.2=true then 34::(dbl c.1++[34]) else c.1
def bS (sep:UInt8):List Cel->List UInt8
 | []=>[]
 | c::r=>wrt c++r.flatMap fun d=>sep::wrt d
def gH (sep:UInt8)(c:Cel):Bool:=!c.2&&spc sep c.1
theorem nW (sep:UInt8)(C:List Cel)(c:Cel):bS sep (C++[c])=(if C.length=0 then [] else bS sep C++[sep])++wrt c:=by
 cases C with
 | nil=>simp[bS]
 | cons d r=>simp[bS]
theorem mM:∀ t:List UInt8,(dbl t).length<=2*t.length
 | []=>by simp[dbl]
 | c::r=>by
   have:=mM r
   simp only[dbl];split<;>simp<;>omega
theorem sn (c:Cel):(wrt c).length<=2*c.1.length+2:=by
 have:=mM c.1
 unfold wrt;split<;>simp<;>omega
theorem iK (sep:UInt8)(C:List Cel)(m:Nat)(h:∀ c,c∈C->c.1.length<=m):(bS sep C).length<=C.length*(2*m+3):=by
 have key:∀ r:List Cel,(∀ c,c∈r->c.1.length<=m)->(r.flatMap fun d=>sep::wrt d).length<=r.length*(2*m+3):=by
  intro r
  induction r with
  | nil=>simp
  | cons c r ih=>
    intro h
    have h1:=ih fun d hd=>h d (by simp[hd])
    have h2:=sn c
    have h3:=h c (by simp)
    simp only[List.flatMap_cons,Vp,Vq,Nat.succ_mul] at *
    omega
 cases C with
 | nil=>simp[bS]
 | cons c r=>
   have h1:=key r fun d hd=>h d (by simp[hd])
   have h2:=sn c
   have h3:=h c (by simp)
   simp only[bS,Vp,Vq,Nat.succ_mul] at *
   omega
theorem qj {sep:UInt8}:∀ {t R:List UInt8},spc sep t=false->(R=[]\/∃ r,R=sep::r)->dJ sep (t++R)=(t.length,false)
 | [],R,_,h=>by
   rcases h with rfl | ⟨r,rfl⟩<;>simp[dJ]
 | c::t,R,hs,h=>by
   simp only[spc,List.any_cons,Wq,beq_eq_false_iff_ne] at hs
   have ih:=qj (t:=t) (R:=R) (by simpa[spc] using hs.2) h
   simp only[VF,dJ,if_neg hs.1.1,hs.1.2,ih]
   simp
theorem p9 {R:List UInt8}(h:R[0]?≠some 34):∀ t:List UInt8,bQ (dbl t++34::R)=some (t,(dbl t).length+1)
 | []=>by
   simp only[dbl,List.nil_append]
   rw[oF,J9,if_neg h];rfl
 | c::t=>by
   have ih:=p9 h t
   simp only[dbl]
   by_cases hc:c=34
   ·subst hc
    simp only[if_true,VF]
    rw[uV,ih];rfl
   ·rw[if_neg hc,VF,kx hc,ih];rfl
theorem rQ {sep:UInt8}(hs:sep≠34){pre R:List UInt8}{c:Cel}(hc:gH sep c=false)(hR:R=[]\/∃ r,R=sep::r) :
  nr (pre++(wrt c++R)) sep pre.length = .ok c (pre.length+(wrt c).length):=by
 obtain⟨t,q⟩:=c
 have hR0:R[0]?≠some 34:=by
  rcases hR with rfl | ⟨r,rfl⟩
  ·simp
  ·simpa using hs
 unfold nr
 cases q with
 | true=>
   have e:(pre++(wrt (t,true)++R))[pre.length]? = some 34:=by simp[wrt]
   rw[if_pos e]
   have e2:(pre++(wrt (t,true)++R)).drop (pre.length+1)=dbl t++34::R:=by
    rw[<- List.drop_drop,List.drop_left];simp[wrt]
   rw[gV,e2,p9 hR0]
   have e3:(sh [] (pre.length+1) (t,(dbl t).length+1))=(t,pre.length+(wrt (t,true)).length):=by simp[sh,wrt];omega
   rw[Option.map_some,e3]
   simp only[bU]
   have e4:(pre++(wrt (t,true)++R))[pre.length+(wrt (t,true)).length]? = R[0]?:=by
    rw[VK (by omega),VK (by omega)];congr 1;omega
   rw[e4]
   rcases hR with rfl | ⟨r,rfl⟩
   ·simp
   ·simp
 | false=>
   have hsp:spc sep t=false:=by simpa[gH] using hc
   have e:(pre++(wrt (t,false)++R))[pre.length]?≠some 34:=by
    rw[VK (by omega),Nat.sub_self]
    cases t with
    | nil=>simpa[wrt] using hR0
    | cons c t=>
      simp only[spc,List.any_cons,Wq,beq_eq_false_iff_ne] at hsp
      have:bad c=false:=hsp.1.2
      simp only[wrt,Vz,if_false,VF,List.getElem?_cons_zero,ne_eq,Option.some.injEq]
      rintro rfl;exact absurd this (by decide)
   rw[if_neg e,cl,List.drop_left]
   have e5:wrt (t,false)=t:=by simp[wrt]
   rw[e5,qj hsp hR]
   simp
def Mn (C:List Cel):Nat->List Nat
 | a=>match C with
   | []=>[]
   | c::r=>a::Mn r (a+(wrt c).length+1)
theorem ve {sep:UInt8}(hs:sep≠34):∀ (C:List Cel) (c:Cel) (pre:List UInt8) (D:List Cel) (Pl:List Nat),D.length+C.length+1<=64->(∀ d,d∈c::C->gH sep d=false) ->
  runN (pre++bS sep (c::C)) sep pre.length D Pl = .ok (D++c::C) (Pl++Mn (c::C) pre.length)
 | [],c,pre,D,Pl,h1,h2=>by
   rw[runN_eq (by simp),if_neg (by simp at h1;omega)]
   have:=rQ (pre:=pre) (R:=[]) hs (h2 c (by simp)) (.inl rfl)
   simp only[bS,List.flatMap_nil] at this ⊢
   rw[this]
   simp[mR,Ns,Mn]
 | d::C,c,pre,D,Pl,h1,h2=>by
   rw[runN_eq (by simp),if_neg (by simp at h1;omega)]
   have:=rQ (pre:=pre) (R:=sep::bS sep (d::C)) hs (h2 c (by simp)) (.inr ⟨_,rfl⟩)
   have e:bS sep (c::d::C)=wrt c++sep::bS sep (d::C):=by simp[bS]
   rw[e,this]
   have ih:=ve hs C d (pre++wrt c++[sep]) (D++[c]) (Pl++[pre.length]) (by simp at h1 ⊢;omega) fun x hx=>h2 x (List.mem_cons_of_mem _ hx)
   simp only[mR,Ns]
   rw[if_neg (by simp)]
   have e2:pre.length+(wrt c).length+1=(pre++wrt c++[sep]).length:=by simp;omega
   have e3:pre++(wrt c++sep::bS sep (d::C))=(pre++wrt c++[sep])++bS sep (d::C):=by simp
   rw[e2,e3,ih]
   simp[Mn,Nat.add_assoc]
def cw (sepOk:Bool)(sep:UInt8)(C:List Cel):List UInt8×Int:=
 if sepOk=false then ([],2) else if C.length=0 then ([],4) else if 64<C.length then ([],9)
 else if C.any (gH sep)=true then ([],6) else if 65536<(bS sep C).length then ([],5) else (bS sep C,0)
end Go.Ab
namespace Go.Proofs.YtbaaokocnegdoaaGreatDoor
open Go Go.Ab
attribute [local irreducible] vc
def hdJ (n:Int)(C:List Cel):Nat×Bool×List UInt8->St
 | (i,t,[])=>⟨[(1,.pv (.int .i64 n)),(6,.ptr 0 0),(21,.pv (.list (C.map iZ))),(22,.pv (.int .i64 (C.length:Int))),(23,.pv (.int .i64 (i:Int)))],[(0,.cells 89 true [aB t,.pv .nils])],1⟩
 | (i,t,b::r)=>⟨[(1,.pv (.int .i64 n)),(6,.ptr 0 0),(21,.pv (.list (C.map iZ))),(22,.pv (.int .i64 (C.length:Int))),(23,.pv (.int .i64 (i:Int)))],[(0,.cells 89 true [.ptr 0 0,.row 1 1 0 (r.length+1)]),(1,.cells 5 false ((aG (b::r)).map .pv))],2⟩
def exJ (C:List Cel):Bool×List UInt8->St
 | (t,[])=>⟨[(6,.ptr 0 0)],[(0,.cells 89 true [aB t,.pv .nils])],1⟩
 | (t,b::r)=>⟨[(6,.ptr 0 0)],[(0,.cells 89 true [.ptr 0 0,.row 1 1 0 (r.length+1)]),(1,.cells 5 false ((aG (b::r)).map .pv))],2⟩
theorem fR (sep:UInt8):∀ t:List UInt8,Lib.containsAny t [34,13,10,sep]=spc sep t
 | []=>rfl
 | c::t=>by
   have ih:=fR sep t
   have hg:=Lib.indexAny_ge [34,13,10,sep] t
   have hc:([34,13,10,sep]:List UInt8).contains c=(c == sep||bad c):=by
    simp only[List.contains_cons,List.contains_nil,Bool.or_false,bad]
    cases c == 34<;>cases c == 13<;>cases c == 10<;>cases c == sep<;>rfl
   simp only[Lib.containsAny,Lib.indexAny,spc,List.any_cons,hc] at ih ⊢
   cases (c == sep||bad c) with
   | true=>simp
   | false=>
     simp only[Vz,if_false,Bool.false_or]
     rw[<- ih]
     by_cases h:Lib.indexAny t [34,13,10,sep] = -1
     ·simp[h]
     ·simp[h];constructor<;>intro<;>omega
theorem pU {sep:UInt8}(hs:eh (sep.toNat:Int)=true){t:List UInt8}{b:Bool}(h:ae Tryz.prog aq 101 [.str t,.str [34,13,10,sep]] (.bool b)) :
  ae Tryz.prog aq 53 [.str t,.int .i64 (sep.toNat:Int)] (.bool b):=by
 have hss:=sep.toNat_lt
 have he:(Utf8.encode (sep.toNat:Int)).data.toList=[sep]:=by
  have key:∀ k:Fin 128,(Utf8.encode ((k.val:Nat):Int)).data.toList=[UInt8.ofNat k.val]:=by decide +kernel
  have hn:sep.toNat<128:=by unfold eh at hs;simp at hs;omega
  have:=key ⟨sep.toNat,hn⟩
  simpa using this
 have hw:=uF (n:=(sep.toNat:Int)) (by omega) (by omega)
 refine ae.intro Q53.2 (by simp[Q53]) ?_
 simp(disch:=try exact dI) only[Q53,hw,he,push_cast,seval]
 refine ab.pure h rfl ?_
 exact qsZ
end Go.Proofs.YtbaaokocnegdoaaGreatDoor
/-
 DERIVED: THE SHELF's CONTRACTS AT THIS DUMP,IN PLAIN WORDS (tools/lay-plain.mjs out of 'TryzRep.lean',which tools/lay-shelf.mjs wrote): THE SAME DECLARATIONS UNDER THE SAME NAMES: 'import','namespace','open','def','theorem' AND NOTHING ELSE: no command of the shelf's: FOR A HAND-IN. Each laying: the table of numbers ('.._ren') and one theorem,a field a fact of the dump's own or the kernel's comparison;each gr: ONE APPLICATION.
-/
namespace Go.Proofs
open Go.Shelf
def Tryz.lays155_ren:Go.Shelf.Ren:=⟨fun | 155=>67 | 154=>119 | 138=>166 | 165=>141 | 143=>167 | 166=>66 | 197=>168 | 169=>44 | 195=>223 | 218=>224 | 240=>90 | 241=>186 | 219=>169 | 260=>225 | 276=>142 | 277=>238 | 217=>123 | 225=>226 | 224=>227 | 267=>228 | 266=>175 | 314=>260 | n=>n,fun | 9=>9 | 3=>3 | 4=>4 | 72=>89 | 0=>0 | 76=>114 | 105=>198 | 21=>21 | 5=>5 | 70=>87 | 20=>20 | 37=>64 | 75=>91 | 127=>140 | 164=>181 | 46=>93 | 119=>270 | 139=>273 | 138=>272 | 146=>211 | 51=>210 | 80=>94 | n=>n,fun | 1=>0 | 3=>3 | 4=>4 | n=>n⟩
theorem Tryz.lays155:Go.Proofs.Lays.n155 Tryz.prog Tryz.lays155_ren:={
 mixed:=by kernel_rfl
 f138:=Tryz.func166.trans (congrArg some (by kernel_rfl))
 f143:=Tryz.func167.trans (congrArg some (by kernel_rfl))
 f154:=Tryz.func119.trans (congrArg some (by kernel_rfl))
 f155:=Tryz.func67.trans (congrArg some (by kernel_rfl))
 f165:=Tryz.func141.trans (congrArg some (by kernel_rfl))
 f166:=Tryz.func66.trans (congrArg some (by kernel_rfl))
 f169:=Tryz.func44.trans (congrArg some (by kernel_rfl))
 f195:=Tryz.func223.trans (congrArg some (by kernel_rfl))
 f197:=Tryz.func168.trans (congrArg some (by kernel_rfl))
 f217:=Tryz.func123.trans (congrArg some (by kernel_rfl))
 f218:=Tryz.func224.trans (congrArg some (by kernel_rfl))
 f219:=Tryz.func169.trans (congrArg some (by kernel_rfl))
 f224:=Tryz.func227.trans (congrArg some (by kernel_rfl))
 f225:=Tryz.func226.trans (congrArg some (by kernel_rfl))
 f240:=Tryz.func90.trans (congrArg some (by kernel_rfl))
 f241:=Tryz.func186.trans (congrArg some (by kernel_rfl))
 f260:=Tryz.func225.trans (congrArg some (by kernel_rfl))
 f266:=Tryz.func175.trans (congrArg some (by kernel_rfl))
 f267:=Tryz.func228.trans (congrArg some (by kernel_rfl))
 f276:=Tryz.func142.trans (congrArg some (by kernel_rfl))
 f277:=Tryz.func238.trans (congrArg some (by kernel_rfl))
 f314:=Tryz.func260.trans (congrArg some (by kernel_rfl))
 t0:=Tryz.underlying0
 a0:=Tryz.isAgg0
 z0:=Tryz.sizeOf0
 v0:=Tryz.zeroValue0
 t3:=Tryz.underlying3
 a3:=Tryz.isAgg3
 z3:=Tryz.sizeOf3
 v3:=Tryz.zeroValue3
 t4:=Tryz.underlying4
 a4:=Tryz.isAgg4
 z4:=Tryz.sizeOf4
 v4:=Tryz.zeroValue4
 t5:=Tryz.underlying5
 a5:=Tryz.isAgg5
 z5:=Tryz.sizeOf5
 v5:=Tryz.zeroValue5
 t9:=Tryz.underlying9
 a9:=Tryz.isAgg9
 z9:=Tryz.sizeOf9
 v9:=Tryz.zeroValue9
 t20:=Tryz.underlying20
 a20:=Tryz.isAgg20
 z20:=Tryz.sizeOf20
 v20:=Tryz.zeroValue20
 t21:=Tryz.underlying21
 a21:=Tryz.isAgg21
 z21:=Tryz.sizeOf21
 v21:=Tryz.zeroValue21
 t37:=Tryz.underlying64
 a37:=Tryz.isAgg64
 z37:=Tryz.sizeOf64
 v37:=Tryz.zeroValue64
 t46:=Tryz.underlying93
 a46:=Tryz.isAgg93
 z46:=Tryz.sizeOf93
 v46:=Tryz.zeroValue93
 t51:=Tryz.underlying210
 a51:=Tryz.isAgg210
 z51:=Tryz.sizeOf210
 v51:=Tryz.zeroValue210
 t70:=Tryz.underlying87
 a70:=Tryz.isAgg87
 z70:=Tryz.sizeOf87
 v70:=Tryz.zeroValue87
 t72:=Tryz.underlying89
 a72:=Tryz.isAgg89
 z72:=Tryz.sizeOf89
 v72:=Tryz.zeroValue89
 t75:=Tryz.underlying91
 a75:=Tryz.isAgg91
 z75:=Tryz.sizeOf91
 v75:=Tryz.zeroValue91
 t76:=Tryz.underlying114
 a76:=Tryz.isAgg114
 z76:=Tryz.sizeOf114
 v76:=Tryz.zeroValue114
 t105:=Tryz.underlying198
 a105:=Tryz.isAgg198
 z105:=Tryz.sizeOf198
 v105:=Tryz.zeroValue198
 t119:=Tryz.underlying270
 a119:=Tryz.isAgg270
 z119:=Tryz.sizeOf270
 t127:=Tryz.underlying140
 a127:=Tryz.isAgg140
 z127:=Tryz.sizeOf140
 v127:=Tryz.zeroValue140
 t138:=Tryz.underlying272
 a138:=Tryz.isAgg272
 z138:=Tryz.sizeOf272
 v138:=Tryz.zeroValue272
 t139:=Tryz.underlying273
 a139:=Tryz.isAgg273
 z139:=Tryz.sizeOf273
 v139:=Tryz.zeroValue273
 t146:=Tryz.underlying211
 a146:=Tryz.isAgg211
 z146:=Tryz.sizeOf211
 v146:=Tryz.zeroValue211
 t164:=Tryz.underlying181
 a164:=Tryz.isAgg181
 z164:=Tryz.sizeOf181
 v164:=Tryz.zeroValue181
 g1:=by kernel_rfl
 g3:=by kernel_rfl
 g4:=by kernel_rfl }
theorem Tryz.Builder_Extra_155:Builder.Extra Tryz.prog Tryz.lays155_ren:={
 sizeBuilder:=by kernel_rfl
 liesBuilder:=by kernel_rfl
 t5:=Tryz.underlying5
 a5:=Tryz.isAgg5
 z5:=Tryz.sizeOf5
 v5:=Tryz.zeroValue5
 infoByte:=by kernel_rfl
 cellsByte:=by kernel_rfl
 sizeByte:=by kernel_rfl
 neB5:=by decide }
open Go.RowKit Go.Lib in
theorem Tryz.strings_ReplaceAll (s old new:ByteArray)(m:Int)(w:World)(hs:s.size<4294967281)(hm:w.cell? ⟨0,0,none⟩=some (.int .i64 m))(h1:1<=old.size)(hlen:s.size+Lib.countB s old*new.size<=140737488355328) :
  Calls Tryz.prog 67 #[.string s,.string old,.string new] w fun e w'=>
   e = .returned (.string ⟨(Lib.replaceAll s.data.toList old.data.toList new.data.toList).toArray⟩)/\Below w.heap.size w w':=Any.strings_ReplaceAll Tryz.lays155 Tryz.Builder_Extra_155 s old new m w hs hm h1 hlen
