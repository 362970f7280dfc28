/- A part. -/
import Derived.Test.YtbaaokocnegdoaaGreatDoorEnVSh
set_option linter.unusedVariables false
set_option linter.unusedSimpArgs false
set_option maxHeartbeats 16000000
set_option maxRecDepth 100000
open List renaming getElem?_eq_getElem->Vg,map_append->VI,getElem?_eq_none->V2,take_length->VR,getElem?_eq_some_iff->Vh,nil_append->VB,length_cons->Vq,length_append->Vp,length_nil->VV,cons_append->VF
namespace Go.Proofs.YtbaaokocnegdoaaGreatDoor
open Go Go.Ab
open Nat renaming reduceEqDiff->qa,reduceAdd->qb,reduceMul->qc,reduceLeDiff->qd,reduceLT->qe,reduceBEq->qf,reduceSub->qg
open Int renaming reduceToNat->qh,reduceNeg->qi
attribute [local irreducible] vc
structure Sx where
 pos:Nat
 cells:List Cel
 places:List Nat
 wrong:Nat
 e:Int
def iZ (c:Cel):PV:=.agg [.str c.1,.bool c.2]
def gj (n:Nat):PV:=.int .i64 (n:Int)
def CR (ph a:Nat):AV:=if ph=4 then .any else .pv (.int .i64 (a:Int))
def bX (L:List UInt8)(sep:UInt8)(ph:Nat)(x:Sx):List Blk:=
 [.cells 158 true [.pv (.str L),.pv (.int .u8 (sep.toNat:Int)),CR ph x.pos,.olist 1 2 (x.cells.map iZ),.olist 2 1 (x.places.map gj),.pv (.int .i64 (x.wrong:Int)),.pv (.int .i64 x.e)],.tok 66 2,.tok 3 1]
def cp:Nat->PV
 | 0=>.clo 108 [] []
 | 1=>.clo 161 [] []
 | 2=>.clo 160 [] []
 | 3=>.clo 209 [] []
 | _=>.nilf
theorem fj (a:Nat):CR 4 a = .any:=rfl
theorem fk (a:Nat):CR 0 a = .pv (.int .i64 (a:Int)):=rfl
theorem CQ (a:Nat):CR 1 a = .pv (.int .i64 (a:Int)):=rfl
theorem Ka (a:Nat):CR 2 a = .pv (.int .i64 (a:Int)):=rfl
theorem jT (a:Nat):CR 3 a = .pv (.int .i64 (a:Int)):=rfl
theorem mD (L:List UInt8)(sep:UInt8)(x:Sx)(o:Nat)(e:Int):bk Tryz.prog aq 1 159 [.ptr 0 0,.pv (.int .i64 (o:Int)),.pv (.int .i64 e)] (bX L sep 0 x) (.pv .nilf) (bX L sep 4 ⟨x.pos,x.cells,x.places,o,e⟩):=by
 refine bk.intro Uk.2 (by simp[Uk]) ?_
 simp(disch:=try exact dI) only[Uk,bX,fk,fj,push_cast,↓reduceIte,qa,qb,qc,qd,qe,qf,qg,qh,qi]
 exact aC [] (by simp(disch:=try exact dI) only[push_cast,↓reduceIte,qa,qb,qc,qd,qe,qf,qg,qh,qi])
def AU (L:List UInt8)(x:Sx):Nat×Sx:=
 if x.cells.length=64 then (4,⟨x.pos,x.cells,x.places,x.pos,9⟩)
 else if L[x.pos]? = some 34 then (2,⟨x.pos+1,x.cells,x.places++[x.pos],x.wrong,x.e⟩)
 else (1,⟨x.pos,x.cells,x.places++[x.pos],x.wrong,x.e⟩)
theorem u8n (c d:UInt8):((c.toNat:Int)=(d.toNat:Int))↔c=d:=⟨fun h=>UInt8.toNat_inj.1 (by omega),fun h=>h▸rfl⟩
theorem MH {c:UInt8}(h:c≠34):¬ ((c.toNat:Int)=34):=fun e=>h (UInt8.toNat_inj.1 (by simpa using (by omega:c.toNat=34)))
theorem SL {c:UInt8}(h:c≠13):¬ ((c.toNat:Int)=13):=fun e=>h (UInt8.toNat_inj.1 (by simpa using (by omega:c.toNat=13)))
theorem Uy {c:UInt8}(h:c≠10):¬ ((c.toNat:Int)=10):=fun e=>h (UInt8.toNat_inj.1 (by simpa using (by omega:c.toNat=10)))
theorem Jm (L:List UInt8)(sep:UInt8)(x:Sx)(hL:L.length<=65536)(hx:x.pos<=L.length)(hc:x.cells.length<=64)(hp:x.places.length<=64) :
  bk Tryz.prog aq 1 108 [.ptr 0 0] (bX L sep 0 x) (.pv (cp (AU L x).1)) (bX L sep (AU L x).1 (AU L x).2):=by
 by_cases h64:x.cells.length=64
 ·have hF:=mD L sep x x.pos 9
  rw[show AU L x=(4,⟨x.pos,x.cells,x.places,x.pos,9⟩) from if_pos h64]
  refine bk.intro w8.2 (by simp[w8]) ?_
  rw[bX,fk] at hF
  simp(disch:=try exact dI) only[w8,bX,fk,push_cast,↓reduceIte,qa,qb,qc,qd,qe,qf,qg,qh,qi]
  refine ab.lentK hF [0,1,2] rfl (by simp(disch:=try exact dI) only[push_cast,↓reduceIte,qa,qb,qc,qd,qe,qf,qg,qh,qi]) (by simp(disch:=try exact dI) only[push_cast,↓reduceIte,qa,qb,qc,qd,qe,qf,qg,qh,qi]) ?_
  simp(disch:=try exact dI) only[bX,fj,push_cast,↓reduceIte,qa,qb,qc,qd,qe,qf,qg,qh,qi]
  exact aC [] (by simp(disch:=try exact dI) only[cp,push_cast,↓reduceIte,qa,qb,qc,qd,qe,qf,qg,qh,qi])
 ·by_cases hlt:x.pos<L.length
  ·obtain⟨c,hcc⟩:∃ c,L[x.pos]? = some c:=⟨_,Vg hlt⟩
   by_cases h34:c=34
   ·subst h34
    rw[show AU L x=(2,⟨x.pos+1,x.cells,x.places++[x.pos],x.wrong,x.e⟩) by unfold AU;rw[if_neg h64,if_pos hcc]]
    refine bk.intro w8.2 (by simp[w8]) ?_
    simp(disch:=try exact dI) only[w8,bX,fk,hcc,am,push_cast,↓reduceIte,qa,qb,qc,qd,qe,qf,qg,qh,qi]
    exact aC [] (by simp(disch:=try exact dI) only[cp,Ka,gj,VI,push_cast,↓reduceIte,qa,qb,qc,qd,qe,qf,qg,qh,qi])
   ·have hne:¬ ((c.toNat:Int)=34):=fun h=>h34 (UInt8.toNat_inj.1 (by simpa using (by omega:c.toNat=34)))
    rw[show AU L x=(1,⟨x.pos,x.cells,x.places++[x.pos],x.wrong,x.e⟩) by unfold AU;rw[if_neg h64,if_neg (by rw[hcc];simpa using h34)]]
    refine bk.intro w8.2 (by simp[w8]) ?_
    simp(disch:=try exact dI) only[w8,bX,fk,hcc,am,push_cast,↓reduceIte,qa,qb,qc,qd,qe,qf,qg,qh,qi]
    exact aC [] (by simp(disch:=try exact dI) only[cp,CQ,gj,VI,push_cast,↓reduceIte,qa,qb,qc,qd,qe,qf,qg,qh,qi])
  ·rw[show AU L x=(1,⟨x.pos,x.cells,x.places++[x.pos],x.wrong,x.e⟩) by unfold AU;rw[if_neg h64,if_neg (by rw[V2 (by omega)];simp)]]
   refine bk.intro w8.2 (by simp[w8]) ?_
   simp(disch:=try exact dI) only[w8,bX,fk,push_cast,↓reduceIte,qa,qb,qc,qd,qe,qf,qg,qh,qi]
   exact aC [] (by simp(disch:=try exact dI) only[cp,CQ,gj,VI,push_cast,↓reduceIte,qa,qb,qc,qd,qe,qf,qg,qh,qi])
def Nr (L:List UInt8)(x:Sx):Nat×Sx:=
 if L.length<=x.pos then (4,x) else (0,⟨x.pos+1,x.cells,x.places,x.wrong,x.e⟩)
theorem Qv (L:List UInt8)(sep:UInt8)(x:Sx)(hL:L.length<=65536)(hx:x.pos<=L.length) :
  bk Tryz.prog aq 1 209 [.ptr 0 0] (bX L sep 3 x) (.pv (cp (Nr L x).1)) (bX L sep (Nr L x).1 (Nr L x).2):=by
 by_cases h:L.length<=x.pos
 ·rw[show Nr L x=(4,x) from if_pos h]
  refine bk.intro KN.2 (by simp[KN]) ?_
  simp(disch:=try exact dI) only[KN,bX,jT,push_cast,↓reduceIte,qa,qb,qc,qd,qe,qf,qg,qh,qi]
  exact aC [] (by simp(disch:=try exact dI) only[cp,fj,push_cast,↓reduceIte,qa,qb,qc,qd,qe,qf,qg,qh,qi])
 ·rw[show Nr L x=(0,⟨x.pos+1,x.cells,x.places,x.wrong,x.e⟩) from if_neg h]
  refine bk.intro KN.2 (by simp[KN]) ?_
  simp(disch:=try exact dI) only[KN,bX,jT,push_cast,↓reduceIte,qa,qb,qc,qd,qe,qf,qg,qh,qi]
  exact aC [] (by simp(disch:=try exact dI) only[cp,fk,push_cast,↓reduceIte,qa,qb,qc,qd,qe,qf,qg,qh,qi])
def lR (x:Sx):Out->Nat×Sx
 | .err o e=>(4,⟨x.pos,x.cells,x.places,o,e⟩)
 | .ok c a=>(3,⟨a,x.cells++[c],x.places,x.wrong,x.e⟩)
theorem Hy (L:List UInt8)(sep:UInt8)(x:Sx)(hL:L.length<=65536)(hx:x.pos<=L.length)(hc:x.cells.length<=64) :
  bk Tryz.prog aq 1 161 [.ptr 0 0] (bX L sep 1 x) (.pv (cp (lR x (cl L sep x.pos)).1)) (bX L sep (lR x (cl L sep x.pos)).1 (lR x (cl L sep x.pos)).2):=by
 obtain⟨p,C,Pl,wr,er⟩:=x
 simp only at hx hc ⊢
 refine bk.intro RM.2 (by simp[RM]) ?_
 simp(disch:=try exact dI) only[RM,bX,CQ,push_cast,↓reduceIte,qa,qb,qc,qd,qe,qf,qg,qh,qi]
 refine ap ([]) (fun m:Nat=>[]) (fun m=>[(0,.cells 158 true [.pv (.str L),.pv (.int .u8 (sep.toNat:Int)),.pv (.int .i64 (m:Int)),.olist 1 2 (C.map iZ),.olist 2 1 (Pl.map gj),.pv (.int .i64 (wr:Int)),.pv (.int .i64 er)])]) (fun m=>p<=m/\m<=L.length/\dJ sep (L.drop p)=(m - p+(dJ sep (L.drop m)).1,(dJ sep (L.drop m)).2)) (fun m=>L.length - m) (p) ?_;intro e0 σ0 n0 h0;simp(disch:=try exact dI) only[push_cast,↓reduceIte,qa,qb,qc,qd,qe,qf,qg,qh,qi] at h0;obtain⟨rfl,rfl,rfl⟩:=h0;refine⟨?_,?_,?_⟩
 ·simp(disch:=try exact dI) only[push_cast,↓reduceIte,qa,qb,qc,qd,qe,qf,qg,qh,qi]
 ·exact⟨Nat.le_refl _,hx,by simp⟩
 ·rintro m ⟨h1,h2,h3⟩
  by_cases hm:m<L.length
  ·obtain⟨c,hcc⟩:∃ c,L[m]? = some c:=⟨_,Vg hm⟩
   have hd:=bD hcc
   by_cases hs:c=sep
   ·subst hs
    have hp:cl L c p = .ok ((L.drop p).take (m - p),false) m:=by
     unfold cl;rw[h3,hd];simp[dJ];omega
    rw[hp,lR]
    simp(disch:=try exact dI) only[hcc,am,push_cast,↓reduceIte,qa,qb,qc,qd,qe,qf,qg,qh,qi]
    exact aC [] (by simp(disch:=try exact dI) only[cp,jT,iZ,VI,List.drop_take,push_cast,↓reduceIte,qa,qb,qc,qd,qe,qf,qg,qh,qi])
   ·have hne:¬ ((c.toNat:Int)=(sep.toNat:Int)):=fun h=>hs ((u8n c sep).1 h)
    by_cases hb:bad c=true
    ·have hp:cl L sep p = .err m 6:=by
      unfold cl;rw[h3,hd];simp[dJ,hs,hb];omega
     have hF:=mD L sep ⟨m,C,Pl,wr,er⟩ m 6
     rw[bX,fk] at hF
     rw[hp,lR]
     by_cases b1:c=34
     ·subst b1
      simp(disch:=try exact dI) only[hcc,am,push_cast,↓reduceIte,qa,qb,qc,qd,qe,qf,qg,qh,qi]
      refine ab.lentK hF [0,1,2] rfl (by simp(disch:=try exact dI) only[push_cast,↓reduceIte,qa,qb,qc,qd,qe,qf,qg,qh,qi]) (by simp(disch:=try exact dI) only[push_cast,↓reduceIte,qa,qb,qc,qd,qe,qf,qg,qh,qi]) ?_
      simp(disch:=try exact dI) only[bX,fj,push_cast,↓reduceIte,qa,qb,qc,qd,qe,qf,qg,qh,qi]
      exact aC [] (by simp(disch:=try exact dI) only[cp,push_cast,↓reduceIte,qa,qb,qc,qd,qe,qf,qg,qh,qi])
     ·have n1:=MH b1
      by_cases b2:c=13
      ·subst b2
       simp(disch:=try exact dI) only[hcc,am,push_cast,↓reduceIte,qa,qb,qc,qd,qe,qf,qg,qh,qi]
       refine ab.lentK hF [0,1,2] rfl (by simp(disch:=try exact dI) only[push_cast,↓reduceIte,qa,qb,qc,qd,qe,qf,qg,qh,qi]) (by simp(disch:=try exact dI) only[push_cast,↓reduceIte,qa,qb,qc,qd,qe,qf,qg,qh,qi]) ?_
       simp(disch:=try exact dI) only[bX,fj,push_cast,↓reduceIte,qa,qb,qc,qd,qe,qf,qg,qh,qi]
       exact aC [] (by simp(disch:=try exact dI) only[cp,push_cast,↓reduceIte,qa,qb,qc,qd,qe,qf,qg,qh,qi])
      ·have n2:=SL b2
       have b3:c=10:=by simpa[bad,b1,b2] using hb
       subst b3
       simp(disch:=try exact dI) only[hcc,am,push_cast,↓reduceIte,qa,qb,qc,qd,qe,qf,qg,qh,qi]
       refine ab.lentK hF [0,1,2] rfl (by simp(disch:=try exact dI) only[push_cast,↓reduceIte,qa,qb,qc,qd,qe,qf,qg,qh,qi]) (by simp(disch:=try exact dI) only[push_cast,↓reduceIte,qa,qb,qc,qd,qe,qf,qg,qh,qi]) ?_
       simp(disch:=try exact dI) only[bX,fj,push_cast,↓reduceIte,qa,qb,qc,qd,qe,qf,qg,qh,qi]
       exact aC [] (by simp(disch:=try exact dI) only[cp,push_cast,↓reduceIte,qa,qb,qc,qd,qe,qf,qg,qh,qi])
    ·have hn:dJ sep (L.drop p)=(m+1 - p+(dJ sep (L.drop (m+1))).1,(dJ sep (L.drop (m+1))).2):=by
      rw[h3,hd];simp[dJ,hs,hb];omega
     have n1:¬ ((c.toNat:Int)=34):=MH (by rintro rfl;exact hb rfl)
     have n2:¬ ((c.toNat:Int)=13):=SL (by rintro rfl;exact hb rfl)
     have n3:¬ ((c.toNat:Int)=10):=Uy (by rintro rfl;exact hb rfl)
     simp(disch:=try exact dI) only[hcc,am,push_cast,↓reduceIte,qa,qb,qc,qd,qe,qf,qg,qh,qi]
     exact⟨m+1,aI (by simp(disch:=try exact dI) only[push_cast,↓reduceIte,qa,qb,qc,qd,qe,qf,qg,qh,qi]),⟨by omega,by omega,hn⟩,by omega⟩
  ·have hd:L.drop m=[]:=List.drop_eq_nil_of_le (by omega)
   have hp:cl L sep p = .ok ((L.drop p).take (m - p),false) m:=by
    unfold cl;rw[h3,hd];simp[dJ];omega
   rw[hp,lR]
   simp(disch:=try exact dI) only[push_cast,↓reduceIte,qa,qb,qc,qd,qe,qf,qg,qh,qi]
   exact aC [] (by simp(disch:=try exact dI) only[cp,jT,iZ,VI,List.drop_take,push_cast,↓reduceIte,qa,qb,qc,qd,qe,qf,qg,qh,qi])
theorem vZ (s:List UInt8)(c:Int):ae Tryz.prog aq 123 [.str s,.int .u8 c] (.int .i64 (jd c.toNat.toUInt8 s 0)):=by
 generalize hq:jd c.toNat.toUInt8 s 0=q
 refine ae.intro FT (by simp[Sh]) ?_
 simp(disch:=try exact dI) only[Sh,pL,qz,hq,push_cast,seval]
theorem pb (s:List UInt8)(c:Int):ae Tryz.prog aq 73 [.str s,.int .u8 c] (.int .i64 (jd c.toNat.toUInt8 s 0)):=by
 have h22:=vZ s c
 generalize jd c.toNat.toUInt8 s 0=q at *
 refine ae.intro Q73.2 (by simp[Q73]) ?_
 simp(disch:=try exact dI) only[Q73,push_cast,seval]
 refine ab.pure h22 rfl ?_
 exact qsZ
def Pg:List UInt8:=[9,44,59,124,58,94,126,35]
def gZ (n:Int):Bool:=decide (0<=n)&&(decide (n<128)&&decide (0<=jd n.toNat.toUInt8 Pg 0))
def eh (n:Int):Bool:=decide (n=9)||decide (n=44)||decide (n=59)||decide (n=124)||decide (n=58)||decide (n=94)||decide (n=126)||decide (n=35)
theorem uU (n:Int):gZ n=eh n:=by
 by_cases h:0<=n/\n<128
 ·obtain⟨m,rfl⟩:∃ m:Nat,n=m:=⟨n.toNat,by omega⟩
  have key:∀ k:Fin 128,gZ ((k.val:Nat):Int)=eh ((k.val:Nat):Int):=by decide +kernel
  exact key ⟨m,by omega⟩
 ·have h1:gZ n=false:=by
   unfold gZ
   by_cases h0:0<=n
   ·rw[show decide (n<128)=false by simp;omega];simp
   ·rw[show decide (0<=n)=false by simp;omega];simp
  rw[h1]
  unfold eh
  simp
  omega
theorem tQ (n:Int):ae Tryz.prog aq 47 [.int .i64 n] (.bool (gZ n)):=by
 have h73:=pb Pg n
 refine ae.intro Q47.2 (by simp[Q47]) ?_
 by_cases h0:0<=n
 ·by_cases h1:n<128
  ·have e:gZ n=decide (0<=jd n.toNat.toUInt8 Pg 0):=by unfold gZ;simp[h0,h1]
   rw[e]
   generalize jd n.toNat.toUInt8 Pg 0=q at *
   have hw:=ji h0 (by omega:n<=255)
   unfold Pg at h73
   by_cases hq:0<=q
   ·rw[show decide (0<=q)=true by simpa using hq]
    simp(disch:=try exact dI) only[Q47,hw,push_cast,seval]
    refine ab.pure h73 rfl ?_
    exact qsZ
   ·rw[show decide (0<=q)=false by simpa using hq]
    simp(disch:=try exact dI) only[Q47,hw,push_cast,seval]
    refine ab.pure h73 rfl ?_
    exact qsZ
  ·have e:gZ n=false:=by unfold gZ;simp[h1]
   rw[e]
   simp(disch:=try exact dI) only[Q47,push_cast,seval]
 ·have e:gZ n=false:=by unfold gZ;simp[h0]
  rw[e]
  simp(disch:=try exact dI) only[Q47,push_cast,seval]
theorem Ph (n:Int):ae Tryz.prog aq 50 [.int .i64 n] (.bool (eh n)):=by
 refine ae.intro Q50.2 (by simp[Q50]) ?_
 by_cases h0:n=9
 ·subst h0
  rw[show eh 9=true from rfl]
  simp(disch:=try exact dI) only[Q50,push_cast,seval]
 by_cases h1:n=44
 ·subst h1
  rw[show eh 44=true from rfl]
  simp(disch:=try exact dI) only[Q50,push_cast,seval]
 by_cases h2:n=59
 ·subst h2
  rw[show eh 59=true from rfl]
  simp(disch:=try exact dI) only[Q50,push_cast,seval]
 by_cases h3:n=124
 ·subst h3
  rw[show eh 124=true from rfl]
  simp(disch:=try exact dI) only[Q50,push_cast,seval]
 by_cases h4:n=58
 ·subst h4
  rw[show eh 58=true from rfl]
  simp(disch:=try exact dI) only[Q50,push_cast,seval]
 by_cases h5:n=94
 ·subst h5
  rw[show eh 94=true from rfl]
  simp(disch:=try exact dI) only[Q50,push_cast,seval]
 by_cases h6:n=126
 ·subst h6
  rw[show eh 126=true from rfl]
  simp(disch:=try exact dI) only[Q50,push_cast,seval]
 by_cases h7:n=35
 ·subst h7
  rw[show eh 35=true from rfl]
  simp(disch:=try exact dI) only[Q50,push_cast,seval]
 have e:eh n=false:=by
  unfold eh;simp[h0,h1,h2,h3,h4,h5,h6,h7]
 rw[e]
 simp(disch:=try exact dI) only[Q50,push_cast,seval]
def xB (L:List UInt8)(sep:UInt8)(C:List Cel)(Pl:List Nat)(wr:Nat)(er:Int)(a:Nat):Blk:=
 .cells 158 true [.pv (.str L),.pv (.int .u8 (sep.toNat:Int)),.pv (.int .i64 (a:Int)),.olist 2 2 (C.map iZ),.olist 3 1 (Pl.map gj),.pv (.int .i64 (wr:Int)),.pv (.int .i64 er)]
def hdQ (L:List UInt8)(sep:UInt8)(C:List Cel)(Pl:List Nat)(wr:Nat)(er:Int):List UInt8×Nat->St
 | ([],a)=>⟨[(0,.ptr 0 0),(3,.ptr 1 0)],[(0,xB L sep C Pl wr er a),(1,.cells 89 true [.pv .nilp,.pv .nils]),(2,.tok 66 2),(3,.tok 3 1)],4⟩
 | (b::r,a)=>⟨[(0,.ptr 0 0),(3,.ptr 1 0)],[(0,xB L sep C Pl wr er a),(1,.cells 89 true [.ptr 1 0,.row 4 1 0 (r.length+1)]),(2,.tok 66 2),(3,.tok 3 1),(4,.cells 5 false ((aG (b::r)).map .pv))],5⟩
def exQ (L:List UInt8)(sep:UInt8)(C:List Cel)(Pl:List Nat)(wr:Nat)(er:Int):List UInt8×Nat->St
 | ([],a)=>⟨[(0,.ptr 0 0),(3,.ptr 1 0)],[(0,xB L sep C Pl wr er a),(1,.cells 89 true [.ptr 1 0,.pv .nils]),(2,.tok 66 2),(3,.tok 3 1)],4⟩
 | (b::r,a)=>⟨[(0,.ptr 0 0),(3,.ptr 1 0)],[(0,xB L sep C Pl wr er a),(1,.cells 89 true [.ptr 1 0,.row 4 1 0 (r.length+1)]),(2,.tok 66 2),(3,.tok 3 1),(4,.cells 5 false ((aG (b::r)).map .pv))],5⟩
theorem CH (L:List UInt8)(sep:UInt8)(x:Sx)(hL:L.length<=65536)(hx:x.pos<=L.length)(hc:x.cells.length<=64) :
  bk Tryz.prog aq 1 160 [.ptr 0 0] (bX L sep 2 x) (.pv (cp (lR x (gV L sep x.pos)).1)) (bX L sep (lR x (gV L sep x.pos)).1 (lR x (gV L sep x.pos)).2):=by
 obtain⟨p,C,Pl,wr,er⟩:=x
 simp only at hx hc ⊢
 obtain⟨T,hT⟩:∃ T,T=(bQ (L.drop p)).map (sh [] p):=⟨_,rfl⟩
 have hQ:gV L sep p=bU L sep T:=by rw[gV,hT]
 rw[hQ]
 refine bk.intro Uj.2 (by simp[Uj]) ?_
 simp(maxSteps:=9^7) (disch:=try exact dI) only[Uj,bX,Ka,push_cast,seval]
 refine kq (hdQ L sep C Pl wr er) (fun y=>y.2<=L.length/\y.1.length<=y.2/\T=(bQ (L.drop y.2)).map (sh y.1 y.2)) (fun y=>L.length - y.2) ([],p) [0,3] (exQ L sep C Pl wr er) (fun y=>y.2<=L.length/\y.1.length<=y.2/\T=some y) ?_ ?_ ?_ ?_
 ·exact aI (by simp(maxSteps:=9^7) (disch:=try exact dI) only[hdQ,xB,push_cast,seval])
 ·exact⟨hx,by simp,hT⟩
 ·rintro⟨t,a⟩ ⟨h1,h2,h3⟩
  simp only at h1 h2 h3
  rcases n8 34 (L.drop a) 0 with ⟨hf,hn⟩ | ⟨m,hf,hm,hn⟩
  ·have hq:=nI hn
   rw[hq] at h3
   have hI:=pb (L.drop a) 34
   rw[show ((34:Int).toNat.toUInt8)=34 from rfl,hf] at hI
   have hF:=mD L sep ⟨a,C,Pl,wr,er⟩ L.length 29
   rw[bX,fk] at hF
   rw[h3,Option.map_none,bU,lR]
   cases t with
   | nil=>
     simp(maxSteps:=9^7) (disch:=try exact dI) only[hdQ,xB,VR,push_cast,seval]
     refine ab.pure hI rfl ?_
     simp(maxSteps:=9^7) (disch:=try exact dI) only[push_cast,seval]
     refine ab.lentK hF [0,2,3] rfl qsZ qsZ ?_
     simp(maxSteps:=9^7) (disch:=try exact dI) only[bX,fj,push_cast,seval]
     exact aC [] (by simp(maxSteps:=9^7) (disch:=try exact dI) only[cp,push_cast,seval])
   | cons b r=>
     simp(maxSteps:=9^7) (disch:=try exact dI) only[hdQ,xB,VR,push_cast,seval]
     refine ab.pure hI rfl ?_
     simp(maxSteps:=9^7) (disch:=try exact dI) only[push_cast,seval]
     refine ab.lentK hF [0,2,3] rfl qsZ qsZ ?_
     simp(maxSteps:=9^7) (disch:=try exact dI) only[bX,fj,push_cast,seval]
     exact aC [] (by simp(maxSteps:=9^7) (disch:=try exact dI) only[cp,push_cast,seval])
  ·rw[Nat.zero_add] at hf
   have hm1:L[a+m]? = some 34:=by rw[<- List.getElem?_drop];exact hm
   have hm2:=(Vh.1 hm1).1
   have hI:=pb (L.drop a) 34
   rw[show ((34:Int).toNat.toUInt8)=34 from rfl,hf] at hI
   obtain⟨k,hk⟩:∃ k,k=(L.drop a).take m:=⟨_,rfl⟩
   have hkl:k.length=m:=by rw[hk];simp;omega
   have ek:List.drop a (List.take (a+m) L)=k:=by rw[hk,List.drop_take];congr 1;omega
   rw[BS hm hn,<- hk] at h3
   obtain⟨q,hq⟩:∃ q,q=a+m+1:=⟨_,rfl⟩
   have ec:(a:Int)+((m:Int)+1)=(q:Int):=by omega
   have etn:((a:Int)+(m:Int)).toNat=a+m:=by omega
   rw[List.drop_drop,show a+(m+1)=q by omega] at h3
   have hT1:L[q]? = some 34->T=(bQ (L.drop (q+1))).map (sh (t++k++[34]) (q+1)):=by
    intro h
    rw[h3,J9,if_pos (by simpa using h),List.drop_drop]
    cases bQ (L.drop (q+1)) with
    | none=>rfl
    | some z=>simp[sh,oN];omega
   have hT2:L[q]?≠some 34->T=some (t++k,q):=by
    intro h
    rw[h3,J9,if_neg (by simpa using h)]
    simp[sh];omega
   have hc3:L[q]? = some 34\/(∃ c3,L[q]? = some c3/\c3≠34)\/L.length<=q:=by
    by_cases h:q<L.length
    ·by_cases h4:L[q]=34
     ·exact .inl (by rw[Vg h,h4])
     ·exact .inr (.inl ⟨_,Vg h,h4⟩)
    ·exact .inr (.inr (by omega))
   clear h3 hn hm hm1
   cases t with
   | nil=>
     have hW:=JM false [] k (by simp) (by omega)
     cases k with
     | nil=>
       have hB:=ig true [] 34 (by simp)
       rw[show (((34:UInt8).toNat:Nat):Int)=34 from rfl] at hB
       simp only[bB,aB,VB] at hW hB
       simp(maxSteps:=9^7) (disch:=try exact dI) only[hdQ,xB,VR,push_cast,seval]
       refine ab.pure hI rfl ?_
       simp(maxSteps:=9^7) (disch:=try exact dI) only[etn,ek,push_cast,seval]
       refine ab.lentK hW [1] rfl qsZ qsZ ?_
       rcases hc3 with hc3 | ⟨c3,hc3,hc4⟩ | hc3
       ·have hlt:=(Vh.1 hc3).1
        simp(maxSteps:=9^7) (disch:=try exact dI) only[ec,hc3,am,push_cast,seval]
        refine ab.lentK hB [1] rfl qsZ qsZ ?_
        simp(maxSteps:=9^7) (disch:=try exact dI) only[push_cast,seval]
        exact⟨([34],q+1),aI (by simp(maxSteps:=9^7) (disch:=try exact dI) only[hdQ,xB,push_cast,seval]),⟨by omega,by simp only[Vq,Vp,VV] at *;omega,by rw[hT1 hc3];simp⟩,by simp only;omega⟩
       ·have hlt:=(Vh.1 hc3).1
        have hn4:=MH hc4
        simp(maxSteps:=9^7) (disch:=try exact dI) only[ec,hc3,am,push_cast,seval]
        exact⟨([],q),aI (by simp(maxSteps:=9^7) (disch:=try exact dI) only[exQ,xB,push_cast,seval]),⟨by omega,by simp only[Vq,Vp,VV] at *;omega,by rw[hT2 (by rw[hc3];simpa using hc4)];simp⟩⟩
       ·simp(maxSteps:=9^7) (disch:=try exact dI) only[ec,push_cast,seval]
        exact⟨([],q),aI (by simp(maxSteps:=9^7) (disch:=try exact dI) only[exQ,xB,push_cast,seval]),⟨by omega,by simp only[Vq,Vp,VV] at *;omega,by rw[hT2 (by rw[V2 hc3];simp)];simp⟩⟩
     | cons c k=>
       have hB:=ig true (c::k) 34 (by simp at hkl ⊢;omega)
       rw[show (((34:UInt8).toNat:Nat):Int)=34 from rfl] at hB
       simp only[bB,aB,VB,VF] at hW hB
       simp(maxSteps:=9^7) (disch:=try exact dI) only[hdQ,xB,VR,push_cast,seval]
       refine ab.pure hI rfl ?_
       simp(maxSteps:=9^7) (disch:=try exact dI) only[etn,ek,push_cast,seval]
       refine ab.lentK hW [1] rfl qsZ qsZ ?_
       rcases hc3 with hc3 | ⟨c3,hc3,hc4⟩ | hc3
       ·have hlt:=(Vh.1 hc3).1
        simp(maxSteps:=9^7) (disch:=try exact dI) only[ec,hc3,am,push_cast,seval]
        refine ab.lentK hB [1,9] rfl qsZ qsZ ?_
        simp(maxSteps:=9^7) (disch:=try exact dI) only[push_cast,seval]
        exact⟨(c::(k++[34]),q+1),aI (by simp(maxSteps:=9^7) (disch:=try exact dI) only[hdQ,xB,push_cast,seval]),⟨by omega,by simp only[Vq,Vp,VV] at *;omega,by rw[hT1 hc3];simp⟩,by simp only;omega⟩
       ·have hlt:=(Vh.1 hc3).1
        have hn4:=MH hc4
        simp(maxSteps:=9^7) (disch:=try exact dI) only[ec,hc3,am,push_cast,seval]
        exact⟨(c::k,q),aI (by simp(maxSteps:=9^7) (disch:=try exact dI) only[exQ,xB,push_cast,seval]),⟨by omega,by simp only[Vq,Vp,VV] at *;omega,by rw[hT2 (by rw[hc3];simpa using hc4)];simp⟩⟩
       ·simp(maxSteps:=9^7) (disch:=try exact dI) only[ec,push_cast,seval]
        exact⟨(c::k,q),aI (by simp(maxSteps:=9^7) (disch:=try exact dI) only[exQ,xB,push_cast,seval]),⟨by omega,by simp only[Vq,Vp,VV] at *;omega,by rw[hT2 (by rw[V2 hc3];simp)];simp⟩⟩
   | cons b r=>
     have hW:=JM true (b::r) k (by simp at h2 ⊢;omega) (by omega)
     have hB:=ig true (b::(r++k)) 34 (by simp at h2 ⊢;omega)
     rw[show (((34:UInt8).toNat:Nat):Int)=34 from rfl] at hB
     simp only[bB,aB,VB,VF] at hW hB
     simp(maxSteps:=9^7) (disch:=try exact dI) only[hdQ,xB,VR,push_cast,seval]
     refine ab.pure hI rfl ?_
     simp(maxSteps:=9^7) (disch:=try exact dI) only[etn,ek,push_cast,seval]
     refine ab.lentK hW [1,4] rfl qsZ qsZ ?_
     rcases hc3 with hc3 | ⟨c3,hc3,hc4⟩ | hc3
     ·have hlt:=(Vh.1 hc3).1
      simp(maxSteps:=9^7) (disch:=try exact dI) only[ec,hc3,am,push_cast,seval]
      refine ab.lentK hB [1,10] rfl qsZ qsZ ?_
      simp(maxSteps:=9^7) (disch:=try exact dI) only[push_cast,seval]
      exact⟨(b::(r++k++[34]),q+1),aI (by simp(maxSteps:=9^7) (disch:=try exact dI) only[hdQ,xB,push_cast,seval]),⟨by omega,by simp only[Vq,Vp,VV] at *;omega,by rw[hT1 hc3];simp⟩,by simp only;omega⟩
     ·have hlt:=(Vh.1 hc3).1
      have hn4:=MH hc4
      simp(maxSteps:=9^7) (disch:=try exact dI) only[ec,hc3,am,push_cast,seval]
      exact⟨(b::(r++k),q),aI (by simp(maxSteps:=9^7) (disch:=try exact dI) only[exQ,xB,push_cast,seval]),⟨by omega,by simp only[Vq,Vp,VV] at *;omega,by rw[hT2 (by rw[hc3];simpa using hc4)];simp⟩⟩
     ·simp(maxSteps:=9^7) (disch:=try exact dI) only[ec,push_cast,seval]
      exact⟨(b::(r++k),q),aI (by simp(maxSteps:=9^7) (disch:=try exact dI) only[exQ,xB,push_cast,seval]),⟨by omega,by simp only[Vq,Vp,VV] at *;omega,by rw[hT2 (by rw[V2 hc3];simp)];simp⟩⟩
 ·rintro⟨t,a⟩ ⟨h1,h2,h3⟩
  simp only at h1 h2
  have hc3:(∃ c3,L[a]? = some c3/\True)\/L.length<=a:=by
   by_cases h:a<L.length
   ·exact .inl ⟨_,Vg h,trivial⟩
   ·exact .inr (by omega)
  have hS:=ld true t (by omega)
  cases t with
  | nil=>
    simp only[bB,aB,stB] at hS
    rcases hc3 with ⟨c3,hc3,hc4⟩ | hc3
    ·have hlt:=(Vh.1 hc3).1
     by_cases hs:c3=sep
     ·subst hs
      have hp:bU L c3 T = .ok ([],true) a:=by rw[h3];simp[bU,hc3]
      rw[hp,lR]
      simp(maxSteps:=9^7) (disch:=try exact dI) only[exQ,xB,hc3,am,push_cast,seval]
      refine dU hS [1] rfl qsZ qsZ ?_
      simp(maxSteps:=9^7) (disch:=try exact dI) only[stB,push_cast,seval]
      exact aC [] (by simp(maxSteps:=9^7) (disch:=try exact dI) only[cp,jT,iZ,VI,push_cast,seval])
     ·have hne:¬ ((c3.toNat:Int)=(sep.toNat:Int)):=fun h=>hs ((u8n c3 sep).1 h)
      have hp:bU L sep T = .err a 13:=by rw[h3];simp[bU,hc3,hs]
      have hF:=mD L sep ⟨a,C,Pl,wr,er⟩ a 13
      rw[bX,fk] at hF
      rw[hp,lR]
      simp(maxSteps:=9^7) (disch:=try exact dI) only[exQ,xB,hc3,am,push_cast,seval]
      refine ab.lentK hF [0,2,3] rfl qsZ qsZ ?_
      simp(maxSteps:=9^7) (disch:=try exact dI) only[bX,fj,push_cast,seval]
      exact aC [] (by simp(maxSteps:=9^7) (disch:=try exact dI) only[cp,push_cast,seval])
    ·have hge:L[a]? = none:=V2 hc3
     have hp:bU L sep T = .ok ([],true) a:=by rw[h3];simp[bU,hge]
     rw[hp,lR]
     simp(maxSteps:=9^7) (disch:=try exact dI) only[exQ,xB,push_cast,seval]
     refine dU hS [1] rfl qsZ qsZ ?_
     simp(maxSteps:=9^7) (disch:=try exact dI) only[stB,push_cast,seval]
     exact aC [] (by simp(maxSteps:=9^7) (disch:=try exact dI) only[cp,jT,iZ,VI,push_cast,seval])
  | cons b r=>
    simp only[bB,aB,stB] at hS
    rcases hc3 with ⟨c3,hc3,hc4⟩ | hc3
    ·have hlt:=(Vh.1 hc3).1
     by_cases hs:c3=sep
     ·subst hs
      have hp:bU L c3 T = .ok (b::r,true) a:=by rw[h3];simp[bU,hc3]
      rw[hp,lR]
      simp(maxSteps:=9^7) (disch:=try exact dI) only[exQ,xB,hc3,am,push_cast,seval]
      refine dU hS [1,4] rfl qsZ qsZ ?_
      simp(maxSteps:=9^7) (disch:=try exact dI) only[stB,push_cast,seval]
      exact aC [] (by simp(maxSteps:=9^7) (disch:=try exact dI) only[cp,jT,iZ,VI,push_cast,seval])
     ·have hne:¬ ((c3.toNat:Int)=(sep.toNat:Int)):=fun h=>hs ((u8n c3 sep).1 h)
      have hp:bU L sep T = .err a 13:=by rw[h3];simp[bU,hc3,hs]
      have hF:=mD L sep ⟨a,C,Pl,wr,er⟩ a 13
      rw[bX,fk] at hF
      rw[hp,lR]
      simp(maxSteps:=9^7) (disch:=try exact dI) only[exQ,xB,hc3,am,push_cast,seval]
      refine ab.lentK hF [0,2,3] rfl qsZ qsZ ?_
      simp(maxSteps:=9^7) (disch:=try exact dI) only[bX,fj,push_cast,seval]
      exact aC [] (by simp(maxSteps:=9^7) (disch:=try exact dI) only[cp,push_cast,seval])
    ·have hge:L[a]? = none:=V2 hc3
     have hp:bU L sep T = .ok (b::r,true) a:=by rw[h3];simp[bU,hge]
     rw[hp,lR]
     simp(maxSteps:=9^7) (disch:=try exact dI) only[exQ,xB,push_cast,seval]
     refine dU hS [1,4] rfl qsZ qsZ ?_
     simp(maxSteps:=9^7) (disch:=try exact dI) only[stB,push_cast,seval]
     exact aC [] (by simp(maxSteps:=9^7) (disch:=try exact dI) only[cp,jT,iZ,VI,push_cast,seval])
