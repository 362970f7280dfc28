/- A part of the proof. -/
import Derived.Test.YtbaaokocnegdoaaGreatDoorAgVSh
set_option linter.unusedVariables false
set_option linter.unusedSimpArgs false
namespace Go.Ab
open Go
abbrev Cel:=List UInt8×Bool
def bad (c:UInt8):Bool:=c == 34||(c == 13||c == 10)
def dj (sep:UInt8):List UInt8->Nat×Bool
 | []=>(0,false)
 | c::r=>if c=sep then (0,false) else if bad c=true then (0,true) else ((dj sep r).1+1,(dj sep r).2)
def nQ (c:UInt8)(n:Nat)(p:List UInt8×Nat):List UInt8×Nat:=(c::p.1,p.2+n)
def bD:List UInt8->Option (List UInt8×Nat)
 | []=>none
 | [c]=>if c=34 then some ([],1) else none
 | c::d::r=>if c=34 then (if d=34 then (bD r).map (nQ 34 2) else some ([],1)) else (bD (d::r)).map (nQ c 1)
theorem jR {c:UInt8}(h:c≠34)(r:List UInt8):bD (c::r)=(bD r).map (nQ c 1):=by
 cases r with
 | nil=>simp[bD,h]
 | cons d r=>rw[bD];simp[h]
theorem uu (r:List UInt8):bD (34::34::r)=(bD r).map (nQ 34 2):=by rw[bD];simp
theorem Gu:bD [34]=some ([],1):=by rw[bD];simp
theorem Gt {d:UInt8}(h:d≠34)(r:List UInt8):bD (34::d::r)=some ([],1):=by rw[bD];simp[h]
def rr (t:List UInt8)(n:Nat)(p:List UInt8×Nat):List UInt8×Nat:=(t++p.1,n+p.2)
theorem m4 (c:UInt8):∀ (l:List UInt8) (i:Nat),(il c l i = -1/\∀ b,b∈l->b≠c)\/∃ m,il c l i=((i+m:Nat):Int)/\l[m]? = some c/\∀ b,b∈l.take m->b≠c
 | [],i=>.inl ⟨rfl,by simp⟩
 | b::r,i=>by
   by_cases h:b=c
   ·subst h
    exact .inr ⟨0,by simp[il],by simp,by simp⟩
   ·have e:il c (b::r) i=il c r (i+1):=by simp[il,h]
    rcases m4 c r (i+1) with ⟨h1,h2⟩ | ⟨m,h1,h2,h3⟩
    ·exact .inl ⟨e.trans h1,fun x hx=>by rcases List.mem_cons.1 hx with rfl | hx;exact h;exact h2 x hx⟩
    ·refine .inr ⟨m+1,by rw[e,h1];congr 1;omega,by simpa using h2,fun x hx=>?_⟩
     rw[List.take_succ_cons] at hx
     rcases List.mem_cons.1 hx with rfl | hx
     ·exact h
     ·exact h3 x hx
theorem mI:∀ {l:List UInt8},(∀ b,b∈l->b≠34)->bD l=none
 | [],_=>rfl
 | c::r,h=>by
   rw[jR (h c (by simp)),mI fun b hb=>h b (by simp[hb])];rfl
theorem mH:∀ {m:Nat} {l:List UInt8},m<=l.length->(∀ b,b∈l.take m->b≠34)->bD l=(bD (l.drop m)).map (rr (l.take m) m)
 | 0,l,_,_=>by
   have:(rr ([]:List UInt8) 0)=id:=by funext p;simp[rr]
   simp[this]
 | m+1,[],h,_=>by simp at h
 | m+1,c::r,hm,h=>by
   rw[List.take_succ_cons] at h
   rw[jR (h c (by simp)),mH (m:=m) (by simpa using hm) fun b hb=>h b (by simp[hb])]
   rw[List.drop_succ_cons,List.take_succ_cons]
   cases bD (r.drop m) with
   | none=>rfl
   | some p=>simp[rr,nQ];omega
def J5 (l:List UInt8):Option (List UInt8×Nat):=
 if l[0]? = some 34 then (bD (l.drop 1)).map (nQ 34 2) else some ([],1)
theorem nG (r:List UInt8):bD (34::r)=J5 r:=by
 cases r with
 | nil=>rw[Gu];rfl
 | cons d r=>
   by_cases h:d=34
   ·subst h;rw[uu];simp[J5]
   ·rw[Gt h];simp[J5,h]
theorem By {l:List UInt8}{m:Nat}(h:l[m]? = some 34)(hn:∀ b,b∈l.take m->b≠34):bD l=(J5 (l.drop (m+1))).map (rr (l.take m) m):=by
 have hm:m<l.length:=(List.getElem?_eq_some_iff.1 h).1
 rw[mH (Nat.le_of_lt hm) hn,bO h,nG]
inductive Out where
 | err (o:Nat) (e:Int)
 | ok (c:Cel) (a:Nat)
def bP (L:List UInt8)(sep:UInt8)(a:Nat):Out:=
 if (dj sep (L.drop a)).2=true then .err (a+(dj sep (L.drop a)).1) 6 else .ok ((L.drop a).take (dj sep (L.drop a)).1,false) (a+(dj sep (L.drop a)).1)
def bG (L:List UInt8)(sep:UInt8):Option (List UInt8×Nat)->Out
 | none=>.err L.length 29
 | some p=>match L[p.2]? with
   | some b=>if b=sep then .ok (p.1,true) p.2 else .err p.2 13
   | none=>.ok (p.1,true) p.2
def f9 (L:List UInt8)(sep:UInt8)(a:Nat):Out:=bG L sep ((bD (L.drop a)).map (rr [] a))
def mp (L:List UInt8)(sep:UInt8)(a:Nat):Out:=
 if L[a]? = some 34 then f9 L sep (a+1) else bP L sep a
inductive Res where
 | err (o:Nat) (e:Int)
 | ok (c:List Cel) (p:List Nat)
def runN (L:List UInt8)(sep:UInt8)(a:Nat)(C:List Cel)(Pl:List Nat):Res:=
 if C.length=64 then .err a 9 else
 match mp L sep a with
 | .err o e=>.err o e
 | .ok c a'=>if L.length<=a' then .ok (C++[c]) (Pl++[a]) else if h:a<=a'/\a'<L.length then runN L sep (a'+1) (C++[c]) (Pl++[a]) else .err 0 0
termination_by L.length - a
decreasing_by omega
def Nj (L:List UInt8)(sep:UInt8)(a:Nat)(C:List Cel)(Pl:List Nat):Res:=
 if L.length<=a then .ok C Pl else runN L sep (a+1) C Pl
def lR (L:List UInt8)(sep:UInt8)(C:List Cel)(Pl:List Nat):Out->Res
 | .err o e=>.err o e
 | .ok c a'=>Nj L sep a' (C++[c]) Pl
theorem uw (sep:UInt8):∀ l:List UInt8,(dj sep l).1<=l.length
 | []=>by simp[dj]
 | c::r=>by
   have:=uw sep r
   simp only[dj]
   split
   ·simp
   ·split
    ·simp
    ·simpa using this
theorem nF:∀ (n:Nat) (l:List UInt8),l.length<=n->∀ p,bD l=some p->p.2<=l.length/\p.1.length<=l.length
 | 0,l,h,p,hp=>by
   have:l=[]:=by cases l<;>simp_all
   subst this;simp[bD] at hp
 | n+1,[],h,p,hp=>by simp[bD] at hp
 | n+1,c::r,h,p,hp=>by
   simp only[List.length_cons,Nat.succ_le_succ_iff] at h
   by_cases hc:c=34
   ·subst hc
    rw[nG] at hp
    unfold J5 at hp
    split at hp
    ·rename_i h0
     simp only[Option.map_eq_some_iff] at hp
     obtain⟨q,hq,rfl⟩:=hp
     obtain⟨d,r',rfl⟩:∃ d r',r=d::r':=by cases r with | nil=>simp at h0 | cons d r'=>exact⟨d,r',rfl⟩
     have:=nF n r' (by simp at h;omega) q (by simpa using hq)
     simp[nQ];omega
    ·cases hp;simp
   ·rw[jR hc] at hp
    simp only[Option.map_eq_some_iff] at hp
    obtain⟨q,hq,rfl⟩:=hp
    have:=nF n r h q hq
    simp[nQ];omega
theorem kH {L:List UInt8}{sep:UInt8}{a:Nat}{c:Cel}{a':Nat}(ha:a<=L.length)(h:bP L sep a = .ok c a'):a<=a'/\a'<=L.length/\c.1.length<=L.length:=by
 have:=uw sep (L.drop a)
 rw[List.length_drop] at this
 unfold bP at h
 split at h
 ·cases h
 ·cases h
  simp;omega
theorem nP {L:List UInt8}{sep:UInt8}{a:Nat}{c:Cel}{a':Nat}(ha:a<=L.length)(h:f9 L sep a = .ok c a'):a<=a'/\a'<=L.length/\c.1.length<=L.length:=by
 unfold f9 at h
 cases hq:bD (L.drop a) with
 | none=>rw[hq] at h;simp[bG] at h
 | some p=>
   have:=nF _ _ (Nat.le_refl _) p hq
   rw[List.length_drop] at this
   rw[hq] at h
   simp only[Option.map_some,bG,rr] at h
   split at h
   ·split at h
    ·cases h;simp;omega
    ·cases h
   ·cases h;simp;omega
theorem vX {L:List UInt8}{sep:UInt8}{a:Nat}{c:Cel}{a':Nat}(ha:a<=L.length)(h:mp L sep a = .ok c a'):a<=a'/\a'<=L.length/\c.1.length<=L.length:=by
 unfold mp at h
 split at h
 ·rename_i h0
  have:=(List.getElem?_eq_some_iff.1 h0).1
  have:=nP (by omega) h
  omega
 ·exact kH ha h
theorem runN_eq {L:List UInt8}{sep:UInt8}{a:Nat}{C:List Cel}{Pl:List Nat}(ha:a<=L.length) :
  runN L sep a C Pl=if C.length=64 then .err a 9 else lR L sep C (Pl++[a]) (mp L sep a):=by
 rw[runN]
 split
 ·rfl
 ·cases h:mp L sep a with
  | err o e=>rfl
  | ok c a'=>
    have:=vX ha h
    simp only[lR,Nj]
    split
    ·rfl
    ·rw[dif_pos (by omega)]
end Go.Ab
set_option maxRecDepth 100000
namespace Go.Proofs.YtbaaokocnegdoaaGreatDoor
open Go Go.Ab
attribute [local irreducible] vc
def aB:Bool->AV
 | true=>.ptr 0 0
 | false=>.pv .nilp
def bB (t:Bool):List UInt8->List Blk
 | []=>[.cells 89 true [aB t,.pv .nils]]
 | b::r=>[.cells 89 true [aB t,.row 1 1 0 (r.length+1)],.cells 5 false ((aF (b::r)).map .pv)]
theorem Qm (t:Bool)(l:List UInt8):bk Tryz.prog au 1 90 [.ptr 0 0] (bB t l) (.pv (.tup [])) (bB true l):=by
 refine bk.intro Fz (by simp[F90]) ?_
 cases l with
 | nil=>
   cases t with
   | true=>
     simp(disch:=try exact dI) only[F90,bB,aB,push_cast,seval]
     exact aA [] qsZ
   | false=>
     simp(disch:=try exact dI) only[F90,bB,aB,push_cast,seval]
     exact aA [] qsZ
 | cons b r=>
   cases t with
   | true=>
     simp(disch:=try exact dI) only[F90,bB,aB,push_cast,seval]
     exact aA [] qsZ
   | false=>
     simp(disch:=try exact dI) only[F90,bB,aB,push_cast,seval]
     exact aA [] qsZ
theorem gr (t:Bool)(l:List UInt8)(c:UInt8)(hl:l.length<=100000000):bk Tryz.prog au 1 43 [.ptr 0 0,.pv (.int .u8 (c.toNat:Int))] (bB t l) (.pv .nili) (bB true (l++[c])):=by
 have hC:=Qm t l
 refine bk.intro Q43.2 (by simp[Q43]) ?_
 cases l with
 | nil=>
   cases t<;>(
   try simp only[bB,aB] at hC
   simp(disch:=try exact dI) only[Q43,bB,aB,push_cast,seval]
   refine ab.lentK hC [0] rfl qsZ qsZ ?_
   simp(disch:=try exact dI) only[bB,aB,push_cast,seval]
   exact aA [] (by simp(disch:=try exact dI) only[aF,push_cast,seval]))
 | cons b r=>
   have hA:=fun new q=>nt (t:=5) (q:=q) (new:=new) (f:=false) (l:=b::r) (c:=c) (len:=r.length+1) rfl (by simp at hl ⊢;omega)
   cases t<;>(
   try simp only[bB,aB] at hC
   simp(disch:=try exact dI) only[Q43,bB,aB,push_cast,seval]
   refine ab.lentK hC [0,1] rfl qsZ qsZ ?_
   simp(disch:=try exact dI) only[bB,aB,hA,push_cast,seval]
   exact aA [] (by simp(disch:=try exact dI) only[aF,List.length_append,push_cast,seval]))
theorem JF (t:Bool)(l k:List UInt8)(hl:l.length<=100000000)(hk:k.length<=100000000):bk Tryz.prog au 1 66 [.ptr 0 0,.pv (.str k)] (bB t l) (.pv (.tup [.int .i64 (k.length:Int),.nili])) (bB true (l++k)):=by
 have hC:=Qm t l
 refine bk.intro Q66.2 (by simp[Q66]) ?_
 cases l with
 | nil=>
   cases k with
   | nil=>
     cases t<;>(
     try simp only[bB,aB] at hC
     simp(disch:=try exact dI) only[Q66,bB,aB,push_cast,seval]
     refine ab.lentK hC [0] rfl qsZ qsZ ?_
     simp(disch:=try exact dI) only[bB,aB,push_cast,seval]
     exact aA [] qsZ)
   | cons c k=>
     simp only[List.length_cons] at hk
     cases t<;>(
     try simp only[bB,aB] at hC
     simp(disch:=try exact dI) only[Q66,bB,aB,push_cast,seval]
     refine ab.lentK hC [0] rfl qsZ qsZ ?_
     simp(disch:=try exact dI) only[bB,aB,push_cast,seval]
     exact aA [] qsZ)
 | cons b r=>
   have e2:(r++k).length+1=r.length+1+k.length:=by simp;omega
   have hA:=fun new q=>wk (t:=5) (q:=q) (new:=new) (f:=false) (l:=b::r) (k:=k) (len:=r.length+1) rfl (by simp at hl ⊢;omega)
   cases t<;>(
   try simp only[bB,aB] at hC
   simp(disch:=try exact dI) only[Q66,bB,aB,push_cast,seval]
   refine ab.lentK hC [0,1] rfl qsZ qsZ ?_
   simp(disch:=try exact dI) only[bB,aB,hA,push_cast,seval]
   exact aA [] (by simp(disch:=try exact dI) only[e2,push_cast,seval]))
def stB:List UInt8->List Blk
 | []=>[.none]
 | _::_=>[.none,.none]
theorem kg (t:Bool)(l:List UInt8)(hl:l.length<=100000000):bk Tryz.prog au 1 44 [.ptr 0 0] (bB t l) (.pv (.str l)) (stB l):=by
 refine bk.intro Q44.2 (by simp[Q44]) ?_
 cases l with
 | nil=>
   cases t<;>(
   try simp only[bB,aB] at hC
   simp(disch:=try exact dI) only[Q44,bB,aB,push_cast,seval]
   exact aA [] (by simp(disch:=try exact dI) only[stB,push_cast,seval]))
 | cons b r=>
   have hA:=fun (k:Int) (q:Nat) (hk:k=((b::r).length:Int))=>uk (t:=5) (r:=q) (f:=false) (l:=b::r) hk (by simp) (by simp at hl ⊢;omega)
   cases t<;>(
   try simp only[bB,aB] at hC
   simp(disch:=try exact dI) only[Q44,bB,aB,hA,push_cast,seval]
   exact aA [] (by simp(disch:=try exact dI) only[stB,push_cast,seval]))
open Nat renaming reduceEqDiff->qa,reduceAdd->qb,reduceMul->qc,reduceLeDiff->qd,reduceLT->qe,reduceBEq->qf,reduceSub->qg
open Int renaming reduceToNat->qh,reduceNeg->qi
structure Sx where
 pos:Nat
 cells:List Cel
 places:List Nat
 wrong:Nat
 e:Int
def g9 (c:Cel):PV:=.agg [.str c.1,.bool c.2]
def oJ (n:Nat):PV:=.int .i64 (n:Int)
def CA (ph a:Nat):AV:=if ph=4 then .any else .pv (.int .i64 (a:Int))
def bX (L:List UInt8)(sep:UInt8)(ph:Nat)(x:Sx):List Blk:=
 [.cells 158 true [.pv (.str L),.pv (.int .u8 (sep.toNat:Int)),CA ph x.pos,.olist 1 2 (x.cells.map g9),.olist 2 1 (x.places.map oJ),.pv (.int .i64 (x.wrong:Int)),.pv (.int .i64 x.e)],.tok 66 2,.tok 3 1]
def bR:Nat->PV
 | 0=>.clo 108 [] []
 | 1=>.clo 161 [] []
 | 2=>.clo 160 [] []
 | 3=>.clo 209 [] []
 | _=>.nilf
theorem eM (a:Nat):CA 4 a = .any:=rfl
theorem eN (a:Nat):CA 0 a = .pv (.int .i64 (a:Int)):=rfl
theorem Cz (a:Nat):CA 1 a = .pv (.int .i64 (a:Int)):=rfl
theorem J6 (a:Nat):CA 2 a = .pv (.int .i64 (a:Int)):=rfl
theorem jj (a:Nat):CA 3 a = .pv (.int .i64 (a:Int)):=rfl
theorem lD (L:List UInt8)(sep:UInt8)(x:Sx)(o:Nat)(e:Int):bk Tryz.prog au 1 159 [.ptr 0 0,.pv (.int .i64 (o:Int)),.pv (.int .i64 e)] (bX L sep 0 x) (.pv .nilf) (bX L sep 4 ⟨x.pos,x.cells,x.places,o,e⟩):=by
 refine bk.intro Tz.2 (by simp[Tz]) ?_
 simp(disch:=try exact dI) only[Tz,bX,eN,eM,push_cast,↓reduceIte,qa,qb,qc,qd,qe,qf,qg,qh,qi]
 exact aA [] (by simp(disch:=try exact dI) only[push_cast,↓reduceIte,qa,qb,qc,qd,qe,qf,qg,qh,qi])
def AG (L:List UInt8)(x:Sx):Nat×Sx:=
 if x.cells.length=64 then (4,⟨x.pos,x.cells,x.places,x.pos,9⟩)
 else if L[x.pos]? = some 34 then (2,⟨x.pos+1,x.cells,x.places++[x.pos],x.wrong,x.e⟩)
 else (1,⟨x.pos,x.cells,x.places++[x.pos],x.wrong,x.e⟩)
theorem u8n (c d:UInt8):((c.toNat:Int)=(d.toNat:Int))↔c=d:=⟨fun h=>UInt8.toNat_inj.1 (by omega),fun h=>h▸rfl⟩
theorem PA {c:UInt8}(h:c≠34):¬ ((c.toNat:Int)=34):=fun e=>h (UInt8.toNat_inj.1 (by simpa using (by omega:c.toNat=34)))
theorem TE {c:UInt8}(h:c≠13):¬ ((c.toNat:Int)=13):=fun e=>h (UInt8.toNat_inj.1 (by simpa using (by omega:c.toNat=13)))
theorem TU {c:UInt8}(h:c≠10):¬ ((c.toNat:Int)=10):=fun e=>h (UInt8.toNat_inj.1 (by simpa using (by omega:c.toNat=10)))
theorem I9 (L:List UInt8)(sep:UInt8)(x:Sx)(hL:L.length<=65536)(hx:x.pos<=L.length)(hc:x.cells.length<=64)(hp:x.places.length<=64) :
  bk Tryz.prog au 1 108 [.ptr 0 0] (bX L sep 0 x) (.pv (bR (AG L x).1)) (bX L sep (AG L x).1 (AG L x).2):=by
 by_cases h64:x.cells.length=64
 ·have hF:=lD L sep x x.pos 9
  rw[show AG L x=(4,⟨x.pos,x.cells,x.places,x.pos,9⟩) from if_pos h64]
  refine bk.intro wm.2 (by simp[wm]) ?_
  rw[bX,eN] at hF
  simp(disch:=try exact dI) only[wm,bX,eN,push_cast,↓reduceIte,qa,qb,qc,qd,qe,qf,qg,qh,qi]
  refine ab.lentK hF [0,1,2] rfl (by simp(disch:=try exact dI) only[push_cast,↓reduceIte,qa,qb,qc,qd,qe,qf,qg,qh,qi]) (by simp(disch:=try exact dI) only[push_cast,↓reduceIte,qa,qb,qc,qd,qe,qf,qg,qh,qi]) ?_
  simp(disch:=try exact dI) only[bX,eM,push_cast,↓reduceIte,qa,qb,qc,qd,qe,qf,qg,qh,qi]
  exact aA [] (by simp(disch:=try exact dI) only[bR,push_cast,↓reduceIte,qa,qb,qc,qd,qe,qf,qg,qh,qi])
 ·by_cases hlt:x.pos<L.length
  ·obtain⟨c,hcc⟩:∃ c,L[x.pos]? = some c:=⟨_,List.getElem?_eq_getElem hlt⟩
   by_cases h34:c=34
   ·subst h34
    rw[show AG L x=(2,⟨x.pos+1,x.cells,x.places++[x.pos],x.wrong,x.e⟩) by unfold AG;rw[if_neg h64,if_pos hcc]]
    refine bk.intro wm.2 (by simp[wm]) ?_
    simp(disch:=try exact dI) only[wm,bX,eN,hcc,aq,push_cast,↓reduceIte,qa,qb,qc,qd,qe,qf,qg,qh,qi]
    exact aA [] (by simp(disch:=try exact dI) only[bR,J6,oJ,List.map_append,push_cast,↓reduceIte,qa,qb,qc,qd,qe,qf,qg,qh,qi])
   ·have hne:¬ ((c.toNat:Int)=34):=fun h=>h34 (UInt8.toNat_inj.1 (by simpa using (by omega:c.toNat=34)))
    rw[show AG L x=(1,⟨x.pos,x.cells,x.places++[x.pos],x.wrong,x.e⟩) by unfold AG;rw[if_neg h64,if_neg (by rw[hcc];simpa using h34)]]
    refine bk.intro wm.2 (by simp[wm]) ?_
    simp(disch:=try exact dI) only[wm,bX,eN,hcc,aq,push_cast,↓reduceIte,qa,qb,qc,qd,qe,qf,qg,qh,qi]
    exact aA [] (by simp(disch:=try exact dI) only[bR,Cz,oJ,List.map_append,push_cast,↓reduceIte,qa,qb,qc,qd,qe,qf,qg,qh,qi])
  ·rw[show AG L x=(1,⟨x.pos,x.cells,x.places++[x.pos],x.wrong,x.e⟩) by unfold AG;rw[if_neg h64,if_neg (by rw[List.getElem?_eq_none (by omega)];simp)]]
   refine bk.intro wm.2 (by simp[wm]) ?_
   simp(disch:=try exact dI) only[wm,bX,eN,push_cast,↓reduceIte,qa,qb,qc,qd,qe,qf,qg,qh,qi]
   exact aA [] (by simp(disch:=try exact dI) only[bR,Cz,oJ,List.map_append,push_cast,↓reduceIte,qa,qb,qc,qd,qe,qf,qg,qh,qi])
def Ni (L:List UInt8)(x:Sx):Nat×Sx:=
 if L.length<=x.pos then (4,x) else (0,⟨x.pos+1,x.cells,x.places,x.wrong,x.e⟩)
theorem P2 (L:List UInt8)(sep:UInt8)(x:Sx)(hL:L.length<=65536)(hx:x.pos<=L.length) :
  bk Tryz.prog au 1 209 [.ptr 0 0] (bX L sep 3 x) (.pv (bR (Ni L x).1)) (bX L sep (Ni L x).1 (Ni L x).2):=by
 by_cases h:L.length<=x.pos
 ·rw[show Ni L x=(4,x) from if_pos h]
  refine bk.intro KF.2 (by simp[KF]) ?_
  simp(disch:=try exact dI) only[KF,bX,jj,push_cast,↓reduceIte,qa,qb,qc,qd,qe,qf,qg,qh,qi]
  exact aA [] (by simp(disch:=try exact dI) only[bR,eM,push_cast,↓reduceIte,qa,qb,qc,qd,qe,qf,qg,qh,qi])
 ·rw[show Ni L x=(0,⟨x.pos+1,x.cells,x.places,x.wrong,x.e⟩) from if_neg h]
  refine bk.intro KF.2 (by simp[KF]) ?_
  simp(disch:=try exact dI) only[KF,bX,jj,push_cast,↓reduceIte,qa,qb,qc,qd,qe,qf,qg,qh,qi]
  exact aA [] (by simp(disch:=try exact dI) only[bR,eN,push_cast,↓reduceIte,qa,qb,qc,qd,qe,qf,qg,qh,qi])
def kM (x:Sx):Out->Nat×Sx
 | .err o e=>(4,⟨x.pos,x.cells,x.places,o,e⟩)
 | .ok c a=>(3,⟨a,x.cells++[c],x.places,x.wrong,x.e⟩)
theorem Hl (L:List UInt8)(sep:UInt8)(x:Sx)(hL:L.length<=65536)(hx:x.pos<=L.length)(hc:x.cells.length<=64) :
  bk Tryz.prog au 1 161 [.ptr 0 0] (bX L sep 1 x) (.pv (bR (kM x (bP L sep x.pos)).1)) (bX L sep (kM x (bP L sep x.pos)).1 (kM x (bP L sep x.pos)).2):=by
 obtain⟨p,C,Pl,wr,er⟩:=x
 simp only at hx hc ⊢
 refine bk.intro Ri.2 (by simp[Ri]) ?_
 simp(disch:=try exact dI) only[Ri,bX,Cz,push_cast,↓reduceIte,qa,qb,qc,qd,qe,qf,qg,qh,qi]
 refine aC ([]) (fun m:Nat=>[]) (fun m=>[(0,.cells 158 true [.pv (.str L),.pv (.int .u8 (sep.toNat:Int)),.pv (.int .i64 (m:Int)),.olist 1 2 (C.map g9),.olist 2 1 (Pl.map oJ),.pv (.int .i64 (wr:Int)),.pv (.int .i64 er)])]) (fun m=>p<=m/\m<=L.length/\dj sep (L.drop p)=(m - p+(dj sep (L.drop m)).1,(dj sep (L.drop m)).2)) (fun m=>L.length - m) (p) ?_;intro e0 σ0 n0 h0;simp(disch:=try exact dI) only[push_cast,↓reduceIte,qa,qb,qc,qd,qe,qf,qg,qh,qi] at h0;obtain⟨rfl,rfl,rfl⟩:=h0;refine⟨?_,?_,?_⟩
 ·simp(disch:=try exact dI) only[push_cast,↓reduceIte,qa,qb,qc,qd,qe,qf,qg,qh,qi]
 ·exact⟨Nat.le_refl _,hx,by simp⟩
 ·rintro m ⟨h1,h2,h3⟩
  by_cases hm:m<L.length
  ·obtain⟨c,hcc⟩:∃ c,L[m]? = some c:=⟨_,List.getElem?_eq_getElem hm⟩
   have hd:=bO hcc
   by_cases hs:c=sep
   ·subst hs
    have hp:bP L c p = .ok ((L.drop p).take (m - p),false) m:=by
     unfold bP;rw[h3,hd];simp[dj];omega
    rw[hp,kM]
    simp(disch:=try exact dI) only[hcc,aq,push_cast,↓reduceIte,qa,qb,qc,qd,qe,qf,qg,qh,qi]
    exact aA [] (by simp(disch:=try exact dI) only[bR,jj,g9,List.map_append,List.drop_take,push_cast,↓reduceIte,qa,qb,qc,qd,qe,qf,qg,qh,qi])
   ·have hne:¬ ((c.toNat:Int)=(sep.toNat:Int)):=fun h=>hs ((u8n c sep).1 h)
    by_cases hb:bad c=true
    ·have hp:bP L sep p = .err m 6:=by
      unfold bP;rw[h3,hd];simp[dj,hs,hb];omega
     have hF:=lD L sep ⟨m,C,Pl,wr,er⟩ m 6
     rw[bX,eN] at hF
     rw[hp,kM]
     by_cases b1:c=34
     ·subst b1
      simp(disch:=try exact dI) only[hcc,aq,push_cast,↓reduceIte,qa,qb,qc,qd,qe,qf,qg,qh,qi]
      refine ab.lentK hF [0,1,2] rfl (by simp(disch:=try exact dI) only[push_cast,↓reduceIte,qa,qb,qc,qd,qe,qf,qg,qh,qi]) (by simp(disch:=try exact dI) only[push_cast,↓reduceIte,qa,qb,qc,qd,qe,qf,qg,qh,qi]) ?_
      simp(disch:=try exact dI) only[bX,eM,push_cast,↓reduceIte,qa,qb,qc,qd,qe,qf,qg,qh,qi]
      exact aA [] (by simp(disch:=try exact dI) only[bR,push_cast,↓reduceIte,qa,qb,qc,qd,qe,qf,qg,qh,qi])
     ·have n1:=PA b1
      by_cases b2:c=13
      ·subst b2
       simp(disch:=try exact dI) only[hcc,aq,push_cast,↓reduceIte,qa,qb,qc,qd,qe,qf,qg,qh,qi]
       refine ab.lentK hF [0,1,2] rfl (by simp(disch:=try exact dI) only[push_cast,↓reduceIte,qa,qb,qc,qd,qe,qf,qg,qh,qi]) (by simp(disch:=try exact dI) only[push_cast,↓reduceIte,qa,qb,qc,qd,qe,qf,qg,qh,qi]) ?_
       simp(disch:=try exact dI) only[bX,eM,push_cast,↓reduceIte,qa,qb,qc,qd,qe,qf,qg,qh,qi]
       exact aA [] (by simp(disch:=try exact dI) only[bR,push_cast,↓reduceIte,qa,qb,qc,qd,qe,qf,qg,qh,qi])
      ·have n2:=TE b2
       have b3:c=10:=by simpa[bad,b1,b2] using hb
       subst b3
       simp(disch:=try exact dI) only[hcc,aq,push_cast,↓reduceIte,qa,qb,qc,qd,qe,qf,qg,qh,qi]
       refine ab.lentK hF [0,1,2] rfl (by simp(disch:=try exact dI) only[push_cast,↓reduceIte,qa,qb,qc,qd,qe,qf,qg,qh,qi]) (by simp(disch:=try exact dI) only[push_cast,↓reduceIte,qa,qb,qc,qd,qe,qf,qg,qh,qi]) ?_
       simp(disch:=try exact dI) only[bX,eM,push_cast,↓reduceIte,qa,qb,qc,qd,qe,qf,qg,qh,qi]
       exact aA [] (by simp(disch:=try exact dI) only[bR,push_cast,↓reduceIte,qa,qb,qc,qd,qe,qf,qg,qh,qi])
    ·have hn:dj sep (L.drop p)=(m+1 - p+(dj sep (L.drop (m+1))).1,(dj sep (L.drop (m+1))).2):=by
      rw[h3,hd];simp[dj,hs,hb];omega
     have n1:¬ ((c.toNat:Int)=34):=PA (by rintro rfl;exact hb rfl)
     have n2:¬ ((c.toNat:Int)=13):=TE (by rintro rfl;exact hb rfl)
     have n3:¬ ((c.toNat:Int)=10):=TU (by rintro rfl;exact hb rfl)
     simp(disch:=try exact dI) only[hcc,aq,push_cast,↓reduceIte,qa,qb,qc,qd,qe,qf,qg,qh,qi]
     exact⟨m+1,aR (by simp(disch:=try exact dI) only[push_cast,↓reduceIte,qa,qb,qc,qd,qe,qf,qg,qh,qi]),⟨by omega,by omega,hn⟩,by omega⟩
  ·have hd:L.drop m=[]:=List.drop_eq_nil_of_le (by omega)
   have hp:bP L sep p = .ok ((L.drop p).take (m - p),false) m:=by
    unfold bP;rw[h3,hd];simp[dj];omega
   rw[hp,kM]
   simp(disch:=try exact dI) only[push_cast,↓reduceIte,qa,qb,qc,qd,qe,qf,qg,qh,qi]
   exact aA [] (by simp(disch:=try exact dI) only[bR,jj,g9,List.map_append,List.drop_take,push_cast,↓reduceIte,qa,qb,qc,qd,qe,qf,qg,qh,qi])
theorem vo (s:List UInt8)(c:Int):ae Tryz.prog au 123 [.str s,.int .u8 c] (.int .i64 (il c.toNat.toUInt8 s 0)):=by
 generalize hq:il c.toNat.toUInt8 s 0=q
 refine ae.intro FA (by simp[RK]) ?_
 simp(disch:=try exact dI) only[RK,oN,pu,hq,push_cast,seval]
theorem n8 (s:List UInt8)(c:Int):ae Tryz.prog au 73 [.str s,.int .u8 c] (.int .i64 (il c.toNat.toUInt8 s 0)):=by
 have h22:=vo s c
 generalize il c.toNat.toUInt8 s 0=q at *
 refine ae.intro Q73.2 (by simp[Q73]) ?_
 simp(disch:=try exact dI) only[Q73,push_cast,seval]
 refine ab.pure h22 rfl ?_
 exact qsZ
def OO:List UInt8:=[9,44,59,124,58,94,126,35]
def gj (n:Int):Bool:=decide (0<=n)&&(decide (n<128)&&decide (0<=il n.toNat.toUInt8 OO 0))
def jx (n:Int):Bool:=decide (n=9)||decide (n=44)||decide (n=59)||decide (n=124)||decide (n=58)||decide (n=94)||decide (n=126)||decide (n=35)
theorem Bx (n:Int):gj n=jx n:=by
 by_cases h:0<=n/\n<128
 ·obtain⟨m,rfl⟩:∃ m:Nat,n=m:=⟨n.toNat,by omega⟩
  have key:∀ k:Fin 128,gj ((k.val:Nat):Int)=jx ((k.val:Nat):Int):=by decide +kernel
  exact key ⟨m,by omega⟩
 ·have h1:gj n=false:=by
   unfold gj
   by_cases h0:0<=n
   ·rw[show decide (n<128)=false by simp;omega];simp
   ·rw[show decide (0<=n)=false by simp;omega];simp
  rw[h1]
  unfold jx
  simp
  omega
theorem tt (n:Int):ae Tryz.prog au 47 [.int .i64 n] (.bool (gj n)):=by
 have h73:=n8 OO n
 refine ae.intro Q47.2 (by simp[Q47]) ?_
 by_cases h0:0<=n
 ·by_cases h1:n<128
  ·have e:gj n=decide (0<=il n.toNat.toUInt8 OO 0):=by unfold gj;simp[h0,h1]
   rw[e]
   generalize il n.toNat.toUInt8 OO 0=q at *
   have hw:=j4 h0 (by omega:n<=255)
   unfold OO at h73
   by_cases hq:0<=q
   ·rw[show decide (0<=q)=true by simpa using hq]
    simp(disch:=try exact dI) only[Q47,hw,push_cast,seval]
    refine ab.pure h73 rfl ?_
    exact qsZ
   ·rw[show decide (0<=q)=false by simpa using hq]
    simp(disch:=try exact dI) only[Q47,hw,push_cast,seval]
    refine ab.pure h73 rfl ?_
    exact qsZ
  ·have e:gj n=false:=by unfold gj;simp[h1]
   rw[e]
   simp(disch:=try exact dI) only[Q47,push_cast,seval]
 ·have e:gj n=false:=by unfold gj;simp[h0]
  rw[e]
  simp(disch:=try exact dI) only[Q47,push_cast,seval]
end Go.Proofs.YtbaaokocnegdoaaGreatDoor
