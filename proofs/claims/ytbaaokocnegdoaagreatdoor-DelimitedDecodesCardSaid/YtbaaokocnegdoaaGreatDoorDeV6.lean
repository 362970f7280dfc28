/- A part of the proof. -/
import Derived.Test.YtbaaokocnegdoaaGreatDoorDeV4
set_option linter.unusedVariables false
set_option linter.unusedSimpArgs false
set_option maxRecDepth 100000
namespace Go.Proofs.YtbaaokocnegdoaaGreatDoor
open Go Go.Ab
attribute [local irreducible] vc
def kn (L:List UInt8)(sep:UInt8)(y:Nat×Sx):Nat×Sx:=
 if y.1=0 then As L y.2 else if y.1=1 then kR y.2 (bp L sep y.2.pos) else if y.1=2 then kR y.2 (gd L sep y.2.pos) else NN L y.2
def CI (L:List UInt8)(sep:UInt8)(y:Nat×Sx):Res:=
 if y.1=0 then Ab.runN L sep y.2.pos y.2.cells y.2.places else if y.1=1 then fy L sep y.2.cells y.2.places (bp L sep y.2.pos)
 else if y.1=2 then fy L sep y.2.cells y.2.places (gd L sep y.2.pos) else if y.1=3 then FT L sep y.2.pos y.2.cells y.2.places
 else if y.2.e=0 then .ok y.2.cells y.2.places else .err y.2.wrong y.2.e
def uV (L:List UInt8)(y:Nat×Sx):Prop:=
 y.2.cells.length<=64/\y.2.places.length<=64 /\
 if y.1=0 then y.2.pos<=L.length/\y.2.e=0/\y.2.places.length=y.2.cells.length
 else if y.1=1\/y.1=2 then y.2.pos<=L.length/\y.2.e=0/\y.2.places.length=y.2.cells.length+1
 else if y.1=3 then y.2.pos<=L.length/\y.2.e=0/\y.2.places.length=y.2.cells.length
 else y.1=4
def muP (L:List UInt8)(y:Nat×Sx):Nat:=
 if y.1=4 then 0 else 4*(L.length+1 - y.2.pos)+(if y.1=0 then 3 else if y.1=3 then 1 else 2)
theorem xp {L:List UInt8}{sep:UInt8}{a o:Nat}{e:Int}(h:bp L sep a = .err o e):e≠0:=by
 unfold bp at h
 split at h<;>cases h
 decide
theorem Ck {L:List UInt8}{sep:UInt8}{a o:Nat}{e:Int}(h:gd L sep a = .err o e):e≠0:=by
 unfold gd at h
 cases hq:(bD (L.drop a)).map (mg [] a) with
 | none=>rw[hq] at h;cases h;decide
 | some p=>
   rw[hq] at h
   simp only[bx] at h
   split at h
   ·split at h<;>cases h
    decide
   ·cases h
theorem GB {L:List UInt8}{sep:UInt8}{y:Nat×Sx}(h:uV L y)(h4:y.1<4):CI L sep (kn L sep y)=CI L sep y/\uV L (kn L sep y)/\muP L (kn L sep y)<muP L y:=by
 obtain⟨ph,p,C,Pl,wr,er⟩:=y
 obtain⟨hc,hp,h⟩:=h
 simp only at hc hp h h4
 have key:∀ o:Out,(∀ w e,o = .err w e->e≠0)->(∀ c a,o = .ok c a->p<=a/\a<=L.length)->er=0->p<=L.length->Pl.length=C.length+1 ->
   CI L sep (kR ⟨p,C,Pl,wr,er⟩ o)=fy L sep C Pl o/\uV L (kR ⟨p,C,Pl,wr,er⟩ o)/\muP L (kR ⟨p,C,Pl,wr,er⟩ o)<4*(L.length+1 - p)+2:=by
  intro o h1 h2 h3 h5 h6
  cases o with
  | err w e=>
    have:=h1 w e rfl
    simp[kR,CI,fy,uV,muP,this,hc,hp]
  | ok c a=>
    have:=h2 c a rfl
    simp[kR,CI,fy,uV,muP,hc,hp,h3]
    omega
 obtain rfl | rfl | rfl | rfl:ph=0\/ph=1\/ph=2\/ph=3:=by omega
 ·simp only[if_true] at h
  obtain⟨h1,h2,h3⟩:=h
  simp only[kn,CI,if_true,As]
  rw[Ab.runN_eq h1]
  by_cases h64:C.length=64
  ·simp[h64,uV,muP];omega
  ·rw[if_neg h64,if_neg h64]
   unfold my
   by_cases hq:L[p]? = some 34
   ·have hlt:=(List.getElem?_eq_some_iff.1 hq).1
    rw[if_pos hq,if_pos hq]
    simp[uV,muP,h2,h3];omega
   ·rw[if_neg hq,if_neg hq]
    simp[uV,muP,h2,h3];omega
 ·simp at h
  obtain⟨h1,h2,h3⟩:=h
  have:=key (bp L sep p) (fun w e=>xp) (fun c a hh=>⟨(kP h1 hh).1,(kP h1 hh).2.1⟩) h2 h1 h3
  simpa[kn,CI,muP] using this
 ·simp at h
  obtain⟨h1,h2,h3⟩:=h
  have:=key (gd L sep p) (fun w e=>Ck) (fun c a hh=>⟨(nS h1 hh).1,(nS h1 hh).2.1⟩) h2 h1 h3
  simpa[kn,CI,muP] using this
 ·simp at h
  obtain⟨h1,h2,h3⟩:=h
  simp only[kn,CI,NN,FT,muP]
  by_cases hl:L.length<=p
  ·simp[hl,uV,h2,hc,hp]
  ·simp[hl,uV,h2,h3,hc,hp];omega
def fnP:Nat->Nat
 | 0=>108
 | 1=>161
 | 2=>160
 | _=>209
theorem Lz (L:List UInt8)(sep:UInt8)(y:Nat×Sx)(hL:L.length<=65536)(h:uV L y)(h4:y.1<4) :
  bF Tryz.prog aq 1 (fnP y.1) [.ptr 0 0] (bX L sep y.1 y.2) (.pv (cj (kn L sep y).1)) (bX L sep (kn L sep y).1 (kn L sep y).2):=by
 obtain⟨ph,x⟩:=y
 obtain⟨hc,hp,h⟩:=h
 simp only at hc hp h h4
 obtain rfl | rfl | rfl | rfl:ph=0\/ph=1\/ph=2\/ph=3:=by omega
 ·simp only[if_true] at h
  exact Jz L sep x hL h.1 hc hp
 ·simp at h
  exact HI L sep x hL h.1 hc
 ·simp at h
  exact Cj L sep x hL h.1 hc
 ·simp at h
  exact QI L sep x hL h.1
theorem MI (ph a:Nat):Cu ph a = .any\/Cu ph a = .pv (.int .i64 (a:Int)):=by
 unfold Cu;split
 ·exact .inl rfl
 ·exact .inr rfl
theorem sx {ph a:Nat}(h:¬ ph=4):Cu ph a = .pv (.int .i64 (a:Int)):=if_neg h
theorem DI {L:List UInt8}{y:Nat×Sx}(h:uV L y):y.1<=4:=by
 have:=h.2.2
 split at this
 ·omega
 ·split at this
  ·omega
  ·split at this
   ·omega
   ·omega
def resV:Res->PV
 | .err o e=>.tup [.nils,.nils,.int .i64 (o:Int),.int .i64 e]
 | .ok C Pl=>.tup [.list (C.map tI),.list (Pl.map fO),.int .i64 0,.int .i64 0]
def fe (L:List UInt8)(n:Int):Res:=
 if mc n=true then (if 65536<L.length then .err 0 5 else Ab.runN L n.toNat.toUInt8 0 [] []) else .err 0 2
theorem LF (L:List UInt8)(n:Int):ak Tryz.prog aq 57 [.str L,.int .i64 n] (resV (fe L n)):=by
 have hs:=DD n
 rw[Kh] at hs
 unfold fe
 generalize hb:mc n=b at *
 refine ak.intro Q57.2 (by simp[Q57]) ?_
 cases b with
 | false=>
   rw[if_neg (by simp)]
   simp(disch:=try exact dI) only[Q57,resV,push_cast,seval]
   refine ab.pure hs rfl ?_
   exact qsZ
 | true=>
   have hn:0<=n/\n<128:=by unfold mc at hb;simp at hb;omega
   have hw:=j7 hn.1 (by omega:n<=255)
   by_cases hL:65536<L.length
   ·simp only[if_true,hL]
    simp(disch:=try exact dI) only[Q57,resV,push_cast,seval]
    refine ab.pure hs rfl ?_
    exact qsZ
   ·simp only[if_true,hL,if_false]
    obtain⟨sep,hsep⟩:∃ sep,sep=n.toNat.toUInt8:=⟨_,rfl⟩
    have hse:n=(sep.toNat:Int):=by rw[hsep];simp;omega
    rw[<- hsep]
    rw[hse] at hw
    simp(disch:=try exact dI) only[Q57,hw,push_cast,seval]
    refine ab.pure hs rfl ?_
    simp(disch:=try exact dI) only[hse,hw,push_cast,seval]
    obtain⟨R,hR⟩:∃ R,R=Ab.runN L sep 0 [] []:=⟨_,rfl⟩
    rw[<- hR]
    refine ap ([(8,4,66,2),(8,5,3,1)]) (fun y:Nat×Sx=>[(9,.pv (cj y.1))]) (fun y=>[(0,.cells 158 true [.pv (.str L),.pv (.int .u8 (sep.toNat:Int)),Cu y.1 y.2.pos,.olist 1 2 (y.2.cells.map tI),.olist 2 1 (y.2.places.map fO),.pv (.int .i64 (y.2.wrong:Int)),.pv (.int .i64 y.2.e)])]) (fun y=>uV L y/\y.1<=4/\R=CI L sep y) (fun y=>muP L y) ((0,⟨0,[],[],0,0⟩)) ?_;intro e0 σ0 n0 h0;simp(disch:=try exact dI) only[push_cast,seval] at h0;obtain⟨rfl,rfl,rfl⟩:=h0;refine⟨?_,?_,?_⟩
    ·simp(disch:=try exact dI) only[cj,eN,push_cast,seval]
    ·exact⟨by simp[uV],by simp,by simp[CI,hR]⟩
    ·rintro⟨ph,x⟩ ⟨h1,h2,h3⟩
     simp only at h2
     by_cases h4:ph=4
     ·subst h4
      obtain⟨p,C,Pl,wr,er⟩:=x
      have:R=if er=0 then .ok C Pl else .err wr er:=h3
      by_cases h0:er=0
      ·subst h0
       rw[this,if_pos rfl]
       simp(disch:=try exact dI) only[cj,eM,resV,push_cast,seval]
      ·rw[this,if_neg h0]
       simp(disch:=try exact dI) only[cj,eM,resV,push_cast,seval]
     ·have hso:=GB (sep:=sep) h1 (by simp only;omega)
      have hst:=Lz L sep (ph,x) (by omega) h1 (by simp only;omega)
      rw[<- hso.1] at h3
      replace hso:=hso.2
      generalize kn L sep (ph,x)=z at *
      obtain⟨ph',x'⟩:=z
      simp only at hst
      have hnx:∃ f,cj ph = .clo f [] []/\f=fnP ph:=by
       obtain rfl | rfl | rfl | rfl:ph=0\/ph=1\/ph=2\/ph=3:=by omega
       all_goals exact⟨_,rfl,rfl⟩
      obtain⟨f,hf1,hf2⟩:=hnx
      rw[<- hf2] at hst
      rw[bX,bX,sx h4] at hst
      rcases MI ph' x'.pos with hz | hz
      ·rw[hz] at hst
       simp(disch:=try exact dI) only[hf1,sx h4,push_cast,seval]
       refine ab.lentK hst [0,1,2] rfl qsZ qsZ ?_
       refine zgZ ?_
       exact⟨(ph',x'),aK (by simp(disch:=try exact dI) only[hz,push_cast,seval]),⟨hso.1,DI hso.1,h3⟩,hso.2⟩
      ·rw[hz] at hst
       simp(disch:=try exact dI) only[hf1,sx h4,push_cast,seval]
       refine ab.lentK hst [0,1,2] rfl qsZ qsZ ?_
       refine zgZ ?_
       exact⟨(ph',x'),aK (by simp(disch:=try exact dI) only[hz,push_cast,seval]),⟨hso.1,DI hso.1,h3⟩,hso.2⟩
open Nat renaming reduceEqDiff->qa,reduceAdd->qb,reduceMul->qc,reduceLeDiff->qd,reduceLT->qe,reduceBEq->qf,reduceSub->qg
open Int renaming reduceToNat->qh,reduceNeg->qi
def zW (z:Cel×Nat):PV:=.agg [.str z.1.1,.bool z.1.2,.int .i64 (z.2:Int)]
def BE:Res->PV
 | .err o e=>.tup [.nils,.int .i64 (o:Int),.int .i64 e]
 | .ok C Pl=>.tup [.list ((C.zip Pl).map zW),.int .i64 0,.int .i64 0]
theorem Bk (c sep:UInt8):ak Tryz.prog aq 70 [.int .u8 (c.toNat:Int),.int .i64 (sep.toNat:Int)] (.bool (c == sep||bad c)):=by
 have hc:=c.toNat_lt
 have hw:=cP (n:=(c.toNat:Int)) (by omega) (by omega)
 refine ak.intro Q70.2 (by simp[Q70]) ?_
 by_cases h0:c=sep
 ·subst h0
  rw[show (c == c||bad c)=true by simp]
  simp(disch:=try exact dI) only[Q70,hw,push_cast,↓reduceIte,qa,qb,qc,qd,qe,qf,qg,qh,qi]
 have n0:¬ ((c.toNat:Int)=(sep.toNat:Int)):=fun h=>h0 ((u8n c sep).1 h)
 by_cases h1:c=34
 ·subst h1
  rw[show ((34:UInt8) == sep||bad 34)=true by simp[bad]]
  simp(disch:=try exact dI) only[Q70,hw,n0,push_cast,↓reduceIte,qa,qb,qc,qd,qe,qf,qg,qh,qi]
 have n1:=Ig h1
 by_cases h2:c=13
 ·subst h2
  rw[show ((13:UInt8) == sep||bad 13)=true by simp[bad]]
  simp(disch:=try exact dI) only[Q70,hw,n0,push_cast,↓reduceIte,qa,qb,qc,qd,qe,qf,qg,qh,qi]
 have n2:=SS h2
 by_cases h3:c=10
 ·subst h3
  rw[show ((10:UInt8) == sep||bad 10)=true by simp[bad]]
  simp(disch:=try exact dI) only[Q70,hw,n0,push_cast,↓reduceIte,qa,qb,qc,qd,qe,qf,qg,qh,qi]
 have n3:=Um h3
 rw[show (c == sep||bad c)=false by simp[bad,h0,h1,h2,h3]]
 simp(disch:=try exact dI) only[Q70,hw,n0,n1,n2,n3,push_cast,↓reduceIte,qa,qb,qc,qd,qe,qf,qg,qh,qi]
theorem J5:∀ Z:List (Cel×Nat),(Z.map Prod.fst).zip (Z.map Prod.snd)=Z
 | []=>rfl
 | z::Z=>by simp[J5 Z]
theorem rZ (Z:List (Cel×Nat))(c:Cel)(a:Nat):BE (.ok (Z.map Prod.fst++[c]) (Z.map Prod.snd++[a])) = .tup [.list (Z.map zW++[.agg [.str c.1,.bool c.2,.int .i64 (a:Int)]]),.int .i64 0,.int .i64 0]:=by
 have:=J5 (Z++[(c,a)])
 simp only[List.map_append,List.map_cons,List.map_nil] at this
 simp[BE,this,zW]
theorem ol (Z:List (Cel×Nat))(c:Cel)(a:Nat):(Z++[(c,a)]).map Prod.fst=Z.map Prod.fst++[c]/\(Z++[(c,a)]).map Prod.snd=Z.map Prod.snd++[a]:=by simp
theorem Kv {L:List UInt8}{q:Nat}{c:UInt8}(h:L[q]? = some c):List.drop q (List.take (q+1) L)=[c]:=by
 rw[List.drop_take,ba h];simp
theorem LG (L:List UInt8)(n:Int):ak Tryz.prog aq 30 [.str L,.int .i64 n] (BE (fe L n)):=by
 have hs:=Ps n
 unfold fe
 generalize hb:mc n=b at *
 refine ak.intro Q30.2 (by simp[Q30]) ?_
 cases b with
 | false=>
   rw[if_neg (by simp)]
   simp(disch:=try exact dI) only[Q30,BE,push_cast,↓reduceIte,qa,qb,qc,qd,qe,qf,qg,qh,qi]
   refine ab.pure hs rfl ?_
   simp(disch:=try exact dI) only[push_cast,↓reduceIte,qa,qb,qc,qd,qe,qf,qg,qh,qi]
 | true=>
   have hn:0<=n/\n<128:=by unfold mc at hb;simp at hb;omega
   by_cases hL:65536<L.length
   ·simp only[if_true,hL]
    simp(disch:=try exact dI) only[Q30,BE,push_cast,↓reduceIte,qa,qb,qc,qd,qe,qf,qg,qh,qi]
    refine ab.pure hs rfl ?_
    simp(disch:=try exact dI) only[push_cast,↓reduceIte,qa,qb,qc,qd,qe,qf,qg,qh,qi]
   ·simp only[if_true,hL,if_false]
    obtain⟨sep,hsep⟩:∃ sep,sep=n.toNat.toUInt8:=⟨_,rfl⟩
    have hse:n=(sep.toNat:Int):=by rw[hsep];simp;omega
    rw[<- hsep]
    subst hse
    obtain⟨R,hR⟩:∃ R,R=Ab.runN L sep 0 [] []:=⟨_,rfl⟩
    rw[<- hR]
    simp(disch:=try exact dI) only[Q30,push_cast,↓reduceIte,qa,qb,qc,qd,qe,qf,qg,qh,qi]
    refine ab.pure hs rfl ?_
    simp(disch:=try exact dI) only[push_cast,↓reduceIte,qa,qb,qc,qd,qe,qf,qg,qh,qi]
    refine ap ([(7,0,101,3)]) (fun y:List (Cel×Nat)×Nat=>[(7,.olist 0 3 (y.1.map zW)),(8,.pv (.int .i64 (y.2:Int)))]) (fun y=>[]) (fun y=>y.2<=L.length/\y.1.length<=64/\R=Ab.runN L sep y.2 (y.1.map Prod.fst) (y.1.map Prod.snd)) (fun y=>L.length - y.2) (([],0)) ?_;intro e0 σ0 n0 h0;simp(disch:=try exact dI) only[push_cast,↓reduceIte,qa,qb,qc,qd,qe,qf,qg,qh,qi] at h0;obtain⟨rfl,rfl,rfl⟩:=h0;refine⟨?_,?_,?_⟩
    ·simp(disch:=try exact dI) only[push_cast,↓reduceIte,qa,qb,qc,qd,qe,qf,qg,qh,qi]
    ·exact⟨by simp,by simp,by simp[hR]⟩
    ·rintro⟨Z,a⟩ ⟨h1,h2,h3⟩
     simp only at h1 h2 h3
     rw[Ab.runN_eq h1] at h3
     by_cases h64:Z.length=64
     ·rw[if_pos (by simpa using h64)] at h3
      rw[h3]
      simp(disch:=try exact dI) only[BE,push_cast,↓reduceIte,qa,qb,qc,qd,qe,qf,qg,qh,qi]
     ·rw[if_neg (by simpa using h64)] at h3
      by_cases hq:L[a]? = some 34
      ·rw[my,if_pos hq] at h3
       have hlt:=(List.getElem?_eq_some_iff.1 hq).1
       obtain⟨T,hT⟩:∃ T,T=(bD (L.drop (a+1))).map (mg [] (a+1)):=⟨_,rfl⟩
       have hQ:gd L sep (a+1)=bx L sep T:=by rw[gd,hT]
       rw[hQ] at h3
       simp(disch:=try exact dI) only[hq,am,push_cast,↓reduceIte,qa,qb,qc,qd,qe,qf,qg,qh,qi]
       refine ap ([]) (fun y:List UInt8×Nat×Bool=>[(8,.pv (.int .i64 (y.2.1:Int))),(10,.pv (.bool y.2.2))]) (fun y=>[(1,.cells 101 true [.pv (.str y.1),.pv (.bool true),.pv (.int .i64 (a:Int))])]) (fun y=>a<y.2.1/\y.2.1<=L.length/\y.1.length<=y.2.1/\T=(if y.2.2=true then some (y.1,y.2.1) else (bD (L.drop y.2.1)).map (mg y.1 y.2.1))) (fun y=>2*(L.length - y.2.1)+(if y.2.2=true then 0 else 1)) (([],a+1,false)) ?_;intro e0 σ0 n0 h0;simp(disch:=try exact dI) only[push_cast,↓reduceIte,qa,qb,qc,qd,qe,qf,qg,qh,qi] at h0;obtain⟨rfl,rfl,rfl⟩:=h0;refine⟨?_,?_,?_⟩
       ·simp(disch:=try exact dI) only[push_cast,↓reduceIte,qa,qb,qc,qd,qe,qf,qg,qh,qi]
       ·exact⟨by simp,by simp only;omega,by simp,by simp[hT]⟩
       ·rintro⟨t,q,d⟩ ⟨g1,g2,g3,g4⟩
        simp only at g1 g2 g3 g4
        cases d with
        | true=>
          simp only[if_true] at g4
          rw[g4] at h3
          have hc3:(∃ c3,L[q]? = some c3/\True)\/L.length<=q:=by
           by_cases h:q<L.length
           ·exact .inl ⟨_,List.getElem?_eq_getElem h,trivial⟩
           ·exact .inr (by omega)
          rcases hc3 with ⟨c3,hc3,-⟩ | hc3
          ·have hlt2:=(List.getElem?_eq_some_iff.1 hc3).1
           have hc3l:=c3.toNat_lt
           have hwi:=cP (n:=(c3.toNat:Int)) (by omega) (by omega)
           by_cases hs3:c3=sep
           ·subst hs3
            simp only[bx,hc3,if_true,fy,FT,if_neg (show ¬ L.length<=q by omega)] at h3
            simp(disch:=try exact dI) only[hc3,am,hwi,push_cast,↓reduceIte,qa,qb,qc,qd,qe,qf,qg,qh,qi]
            exact⟨(Z++[((t,true),a)],q+1),aK (by simp(disch:=try exact dI) only[List.map_append,zW,push_cast,↓reduceIte,qa,qb,qc,qd,qe,qf,qg,qh,qi]),⟨by simp only;omega,by simp;omega,by rw[h3,(ol ..).1,(ol ..).2]⟩,by simp only;omega⟩
           ·have hne:¬ ((c3.toNat:Int)=(sep.toNat:Int)):=fun h=>hs3 ((u8n c3 sep).1 h)
            simp only[bx,hc3,if_neg hs3,fy] at h3
            rw[h3]
            simp(disch:=try exact dI) only[hc3,am,hwi,BE,hne,push_cast,↓reduceIte,qa,qb,qc,qd,qe,qf,qg,qh,qi]
          ·have hge:L[q]? = none:=List.getElem?_eq_none hc3
           simp only[bx,hge,fy,FT,if_pos hc3] at h3
           rw[h3,rZ]
           simp(disch:=try exact dI) only[push_cast,↓reduceIte,qa,qb,qc,qd,qe,qf,qg,qh,qi]
        | false=>
          simp only[Bool.false_eq_true,if_false] at g4
          by_cases hql:q<L.length
          ·obtain⟨c,hcc⟩:∃ c,L[q]? = some c:=⟨_,List.getElem?_eq_getElem hql⟩
           have hd:=ba hcc
           have ho:=Kv hcc
           by_cases hc4:c=34
           ·subst hc4
            rw[hd,nL,Kr] at g4
            by_cases hq1:L[q+1]? = some 34
            ·have hlt1:=(List.getElem?_eq_some_iff.1 hq1).1
             rw[if_pos (by simpa using hq1),List.drop_drop] at g4
             have gT:T=(bD (L.drop (q+1+1))).map (mg (t++[34]) (q+1+1)):=by
              rw[g4]
              cases bD (L.drop (q+1+1)) with
              | none=>rfl
              | some z=>simp[mg,kM];omega
             obtain⟨q1,hq1e⟩:∃ q1,q1=q+1:=⟨_,rfl⟩
             have ec:(q:Int)+1=(q1:Int):=by omega
             have ec2:(q:Int)+2=(q1:Int)+1:=by omega
             rw[<- hq1e] at hq1 gT
             simp(disch:=try exact dI) only[hcc,am,ec,hq1,push_cast,↓reduceIte,qa,qb,qc,qd,qe,qf,qg,qh,qi]
             exact⟨(t++[34],q1+1,false),aK (by simp(disch:=try exact dI) only[ec2,push_cast,↓reduceIte,qa,qb,qc,qd,qe,qf,qg,qh,qi]),⟨by simp only;omega,by simp only;omega,by simp;omega,by simpa using gT⟩,by simp;omega⟩
            ·rw[if_neg (by simpa using hq1)] at g4
             have gT:T=some (t,q+1):=by rw[g4];simp[mg]
             have hc5:(∃ c5,L[q+1]? = some c5/\c5≠34)\/L.length<=q+1:=by
              by_cases h:q+1<L.length
              ·exact .inl ⟨_,List.getElem?_eq_getElem h,fun h5=>hq1 (by rw[List.getElem?_eq_getElem h,h5])⟩
              ·exact .inr (by omega)
             rcases hc5 with ⟨c5,hc5,hn5⟩ | hc5
             ·have hlt1:=(List.getElem?_eq_some_iff.1 hc5).1
              have n5:=Ig hn5
              obtain⟨q1,hq1e⟩:∃ q1,q1=q+1:=⟨_,rfl⟩
              have ec:(q:Int)+1=(q1:Int):=by omega
              rw[<- hq1e] at hc5 gT
              simp(disch:=try exact dI) only[hcc,am,ec,hc5,n5,push_cast,↓reduceIte,qa,qb,qc,qd,qe,qf,qg,qh,qi]
              exact⟨(t,q1,true),aK (by simp(disch:=try exact dI) only[push_cast,↓reduceIte,qa,qb,qc,qd,qe,qf,qg,qh,qi]),⟨by simp only;omega,by simp only;omega,by simp;omega,by simpa using gT⟩,by simp;omega⟩
             ·simp(disch:=try exact dI) only[hcc,am,push_cast,↓reduceIte,qa,qb,qc,qd,qe,qf,qg,qh,qi]
              exact⟨(t,q+1,true),aK (by simp(disch:=try exact dI) only[push_cast,↓reduceIte,qa,qb,qc,qd,qe,qf,qg,qh,qi]),⟨by simp only;omega,by simp only;omega,by simp;omega,by simpa using gT⟩,by simp;omega⟩
           ·have n4:=Ig hc4
            rw[hd,jQ hc4] at g4
            have gT:T=(bD (L.drop (q+1))).map (mg (t++[c]) (q+1)):=by
             rw[g4]
             cases bD (L.drop (q+1)) with
             | none=>rfl
             | some z=>simp[mg,kM];omega
            simp(disch:=try exact dI) only[hcc,am,n4,ho,push_cast,↓reduceIte,qa,qb,qc,qd,qe,qf,qg,qh,qi]
            exact⟨(t++[c],q+1,false),aK (by simp(disch:=try exact dI) only[push_cast,↓reduceIte,qa,qb,qc,qd,qe,qf,qg,qh,qi]),⟨by simp only;omega,by simp only;omega,by simp;omega,by simpa using gT⟩,by simp;omega⟩
          ·have gT:T=none:=by rw[g4,List.drop_eq_nil_of_le (by omega)];rfl
           simp only[gT,bx,fy] at h3
           rw[h3]
           simp(disch:=try exact dI) only[BE,push_cast,↓reduceIte,qa,qb,qc,qd,qe,qf,qg,qh,qi]
      ·rw[my,if_neg hq] at h3
       have hc0:(∃ c0,L[a]? = some c0/\c0≠34)\/L.length<=a:=by
        by_cases h:a<L.length
        ·exact .inl ⟨_,List.getElem?_eq_getElem h,fun h5=>hq (by rw[List.getElem?_eq_getElem h,h5])⟩
        ·exact .inr (by omega)
       rcases hc0 with ⟨c0,hc0,hn0⟩ | hc0
       ·have hlt:=(List.getElem?_eq_some_iff.1 hc0).1
        have n0:=Ig hn0
        simp(disch:=try exact dI) only[hc0,am,n0,push_cast,↓reduceIte,qa,qb,qc,qd,qe,qf,qg,qh,qi]
        refine ap ([]) (fun y:List UInt8×Nat=>[(8,.pv (.int .i64 (y.2:Int)))]) (fun y=>[(1,.cells 101 true [.pv (.str y.1),.pv (.bool false),.pv (.int .i64 (a:Int))])]) (fun y=>a<=y.2/\y.2<=L.length/\y.1=(L.drop a).take (y.2 - a)/\cb sep (L.drop a)=(y.2 - a+(cb sep (L.drop y.2)).1,(cb sep (L.drop y.2)).2)) (fun y=>L.length - y.2) (([],a)) ?_;intro e0 σ0 n0 h0;simp(disch:=try exact dI) only[push_cast,↓reduceIte,qa,qb,qc,qd,qe,qf,qg,qh,qi] at h0;obtain⟨rfl,rfl,rfl⟩:=h0;refine⟨?_,?_,?_⟩
        ·simp(disch:=try exact dI) only[push_cast,↓reduceIte,qa,qb,qc,qd,qe,qf,qg,qh,qi]
        ·exact⟨by simp,h1,by simp,by simp⟩
        ·rintro⟨t,q⟩ ⟨g1,g2,g3,g4⟩
         simp only at g1 g2 g3 g4
         have htl:t.length<=L.length:=by rw[g3];simp;omega
         by_cases hql:q<L.length
         ·obtain⟨c,hcc⟩:∃ c,L[q]? = some c:=⟨_,List.getElem?_eq_getElem hql⟩
          have hcl:=c.toNat_lt
          have hwi:=cP (n:=(c.toNat:Int)) (by omega) (by omega)
          have hd:=ba hcc
          have ho:=Kv hcc
          by_cases hsc:c=sep
          ·subst hsc
           have hp:bp L c a = .ok (t,false) q:=by
            unfold bp;rw[g4,hd,g3];simp[cb];omega
           simp only[hp,fy,FT,if_neg (show ¬ L.length<=q by omega)] at h3
           simp(disch:=try exact dI) only[hcc,am,hwi,push_cast,↓reduceIte,qa,qb,qc,qd,qe,qf,qg,qh,qi]
           exact⟨(Z++[((t,false),a)],q+1),aK (by simp(disch:=try exact dI) only[List.map_append,zW,push_cast,↓reduceIte,qa,qb,qc,qd,qe,qf,qg,qh,qi]),⟨by simp only;omega,by simp;omega,by rw[h3,(ol ..).1,(ol ..).2]⟩,by simp only;omega⟩
          ·have hne:¬ ((c.toNat:Int)=(sep.toNat:Int)):=fun h=>hsc ((u8n c sep).1 h)
           have h70:=Bk c sep
           by_cases hbd:bad c=true
           ·have hp:bp L sep a = .err q 6:=by
             unfold bp;rw[g4,hd];simp[cb,hsc,hbd];omega
            simp only[hp,fy] at h3
            rw[h3]
            rw[show (c == sep||bad c)=true by simp[hbd]] at h70
            simp(disch:=try exact dI) only[hcc,am,hwi,hne,push_cast,↓reduceIte,qa,qb,qc,qd,qe,qf,qg,qh,qi]
            refine ab.pure h70 rfl ?_
            simp(disch:=try exact dI) only[BE,push_cast,↓reduceIte,qa,qb,qc,qd,qe,qf,qg,qh,qi]
           ·have gn:cb sep (L.drop a)=(q+1 - a+(cb sep (L.drop (q+1))).1,(cb sep (L.drop (q+1))).2):=by
             rw[g4,hd];simp[cb,hsc,hbd];omega
            have gt:t++[c]=(L.drop a).take (q+1 - a):=by
             rw[g3,show q+1 - a=(q - a)+1 by omega,List.take_add_one,List.getElem?_drop,show a+(q - a)=q by omega,hcc];rfl
            rw[show (c == sep||bad c)=false by simp[hsc,hbd]] at h70
            simp(disch:=try exact dI) only[hcc,am,hwi,hne,push_cast,↓reduceIte,qa,qb,qc,qd,qe,qf,qg,qh,qi]
            refine ab.pure h70 rfl ?_
            simp(disch:=try exact dI) only[hcc,am,ho,push_cast,↓reduceIte,qa,qb,qc,qd,qe,qf,qg,qh,qi]
            exact⟨(t++[c],q+1),aK (by simp(disch:=try exact dI) only[push_cast,↓reduceIte,qa,qb,qc,qd,qe,qf,qg,qh,qi]),⟨by simp only;omega,by simp only;omega,by simpa using gt,by simpa using gn⟩,by simp only;omega⟩
         ·have hd:L.drop q=[]:=List.drop_eq_nil_of_le (by omega)
          have hp:bp L sep a = .ok (t,false) q:=by
           unfold bp;rw[g4,hd,g3];simp[cb];omega
          simp only[hp,fy,FT,if_pos (show L.length<=q by omega)] at h3
          rw[h3,rZ]
          simp(disch:=try exact dI) only[push_cast,↓reduceIte,qa,qb,qc,qd,qe,qf,qg,qh,qi]
       ·simp(disch:=try exact dI) only[push_cast,↓reduceIte,qa,qb,qc,qd,qe,qf,qg,qh,qi]
        refine ap ([]) (fun y:List UInt8×Nat=>[(8,.pv (.int .i64 (y.2:Int)))]) (fun y=>[(1,.cells 101 true [.pv (.str y.1),.pv (.bool false),.pv (.int .i64 (a:Int))])]) (fun y=>y=([],a)) (fun y=>L.length - y.2) (([],a)) ?_;intro e0 σ0 n0 h0;simp(disch:=try exact dI) only[push_cast,↓reduceIte,qa,qb,qc,qd,qe,qf,qg,qh,qi] at h0;obtain⟨rfl,rfl,rfl⟩:=h0;refine⟨?_,?_,?_⟩
        ·simp(disch:=try exact dI) only[push_cast,↓reduceIte,qa,qb,qc,qd,qe,qf,qg,qh,qi]
        ·rfl
        ·rintro⟨t,q⟩ g
         cases g
         have hd:L.drop a=[]:=List.drop_eq_nil_of_le (by omega)
         have hp:bp L sep a = .ok ([],false) a:=by
          unfold bp;rw[hd];simp[cb]
         simp only[hp,fy,FT,if_pos hc0] at h3
         rw[h3,rZ]
         simp(disch:=try exact dI) only[push_cast,↓reduceIte,qa,qb,qc,qd,qe,qf,qg,qh,qi]
end Go.Proofs.YtbaaokocnegdoaaGreatDoor
namespace Go.Ab
open Go
end Go.Ab
namespace Go.Proofs.YtbaaokocnegdoaaGreatDoor
open Go Go.Ab
attribute [local irreducible] vc
end Go.Proofs.YtbaaokocnegdoaaGreatDoor
