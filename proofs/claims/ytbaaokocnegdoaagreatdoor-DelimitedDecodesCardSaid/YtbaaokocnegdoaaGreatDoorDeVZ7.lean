/- A part of the proof. -/
import Derived.Test.YtbaaokocnegdoaaGreatDoorDeVSr2
set_option linter.unusedVariables false
set_option linter.unusedSimpArgs false
set_option maxHeartbeats 16000000
set_option maxRecDepth 100000
namespace Go.Proofs.YtbaaokocnegdoaaGreatDoor
open Go Go.Ab
attribute [local irreducible] vc
def m5 (x:Fld):List Fld->List Fld
 | []=>[x]
 | y::r=>if Lib.compareBytes y.name x.name<0 then y::m5 x r else x::y::r
theorem ic (x:Fld):∀ L:List Fld,(m5 x L).Perm (x::L)
 | []=>List.Perm.refl _
 | y::r=>by
   rw[m5]
   split
   ·exact ((ic x r).cons y).trans (List.Perm.swap x y r)
   ·exact List.Perm.refl _
theorem oB:∀ a b:List UInt8,Lib.compareBytes a b<0\/a=b\/Lib.compareBytes b a<0
 | [],[]=>.inr (.inl rfl)
 | [],_::_=>.inl (by simp[Lib.compareBytes])
 | _::_,[]=>.inr (.inr (by simp[Lib.compareBytes]))
 | x::p,y::q=>by
   simp only[Lib.compareBytes,UInt8.lt_iff_toNat_lt]
   by_cases h1:x.toNat<y.toNat
   ·exact .inl (by rw[if_pos h1];omega)
   ·by_cases h2:y.toNat<x.toNat
    ·exact .inr (.inr (by rw[if_pos h2];omega))
    ·have he:x=y:=UInt8.toNat_inj.1 (by omega)
     rw[if_neg h1,if_neg h2,if_neg h2,if_neg h1]
     rcases oB p q with h | h | h
     ·exact .inl h
     ·exact .inr (.inl (by rw[he,h]))
     ·exact .inr (.inr h)
def ltF (a b:Fld):Prop:=Lib.compareBytes a.name b.name<0
theorem lm (x:Fld):∀ L:List Fld,L.Pairwise ltF->(∀ y∈L,y.name≠x.name)->(m5 x L).Pairwise ltF
 | [],_,_=>List.pairwise_singleton _ _
 | y::r,h,hn=>by
   rw[List.pairwise_cons] at h
   rw[m5]
   split
   ·rename_i hlt
    refine List.pairwise_cons.2 ⟨fun z hz=>?_,lm x r h.2 fun z hz=>hn z (List.mem_cons_of_mem _ hz)⟩
    rcases List.mem_cons.1 ((ic x r).mem_iff.1 hz) with rfl | hz
    ·exact hlt
    ·exact h.1 z hz
   ·rename_i hlt
    have hxy:ltF x y:=by
     rcases oB x.name y.name with h1 | h1 | h1
     ·exact h1
     ·exact absurd h1.symm (hn y (List.mem_cons_self ..))
     ·exact absurd h1 hlt
    refine List.pairwise_cons.2 ⟨fun z hz=>?_,List.pairwise_cons.2 h⟩
    rcases List.mem_cons.1 hz with rfl | hz
    ·exact hxy
    ·exact j3 _ _ _ hxy (h.1 z hz)
theorem Pp {l fs:List Fld}(hp2:fs.Pairwise ltF)(hp0:l.Perm fs):srt l=fs:=by
 have hs:(srt l).Pairwise fun a b=>¬ Lib.compareBytes b.name a.name<0:=by
  rw[List.pairwise_iff_getElem]
  intro i j hi hj hij
  exact mL l i j _ _ hij (List.getElem?_eq_getElem hi) (List.getElem?_eq_getElem hj)
 have hpp:=(fJ l).trans hp0
 refine List.Perm.eq_of_pairwise (le:=fun a b=>¬ Lib.compareBytes b.name a.name<0) ?_ hs (hp2.imp fun {a b} hab hba=>?_) hpp
 ·intro a b ha hb h1 h2
  have hb':=hb
  have ha':=hpp.mem_iff.1 ha
  obtain⟨i,hi,rfl⟩:=List.getElem_of_mem ha'
  obtain⟨j,hj,rfl⟩:=List.getElem_of_mem hb'
  have hpw:=List.pairwise_iff_getElem.1 hp2
  rcases Nat.lt_trichotomy i j with h | h | h
  ·exact absurd (hpw i j hi hj h) h2
  ·subst h;rfl
  ·exact absurd (hpw j i hj hi h) h1
 ·have:=j3 _ _ _ hab hba
  rw[tJ] at this
  exact absurd this (by decide)
theorem Nk {x:Fld}:∀ (L:List Fld) (j:Nat),m5 x L=L.take j++m5 x (L.drop j)->∀ y,L[j]? = some y->Lib.compareBytes y.name x.name<0->m5 x L=L.take (j+1)++m5 x (L.drop (j+1)):=fun L j h y hy hlt=>by
 rw[h,ba hy,m5,if_pos hlt,aD hy,List.append_assoc];rfl
theorem qB {x:Fld}{L:List Fld}{j:Nat}(h:m5 x L=L.take j++m5 x (L.drop j))(hs:∀ y,L[j]? = some y->¬ Lib.compareBytes y.name x.name<0):m5 x L=L.take j++x::L.drop j:=by
 rw[h]
 congr 1
 cases hd:L.drop j with
 | nil=>rfl
 | cons y r=>
   have hy:L[j]? = some y:=by
    have:=congrArg List.head? hd
    rw[List.head?_drop] at this;exact this
   rw[m5,if_neg (hs y hy)]
theorem RB (L:List Fld):(L.all fun x=>x.pv.cells.length == 7)=true:=List.all_eq_true.2 fun x _=>by rw[Fld.cells_len];rfl
theorem KQ:∀ a b:List UInt8,decide (Lib.compareBytes a b<0)=bc a b
 | [],[]=>rfl
 | [],_::_=>rfl
 | _::_,[]=>rfl
 | a::r,b::q=>by
   have ih:decide (Lib.compareBytes r q<0)=Op.bytesLess r q:=KQ r q
   show _=Op.bytesLess (a::r) (b::q)
   rw[Lib.compareBytes,Op.bytesLess]
   by_cases h1:a<b
   ·simp[h1]
   ·by_cases h2:b<a
    ·have:¬ a=b:=by rintro rfl;exact (UInt8.lt_irrefl a) h2
     simp[h1,h2,this]
    ·have h3:a=b:=UInt8.le_antisymm (UInt8.not_lt.1 h2) (UInt8.not_lt.1 h1)
     simp[h1,h2,h3,ih]
theorem IC (L:List Fld)(x:Fld)(hl:L.length<=1000)(hLo:∀ y∈L,y.ok)(hx:x.ok):ak Tryz.prog aq 60 [.list (L.map Fld.pv),x.pv] (.list ((m5 x L).map Fld.pv)):=by
 obtain⟨nm,⟨vk,vn,vs,vt,vl,vf⟩⟩:=x
 simp only[Fld.pv_mk,Val.pv_mk,PV.cells] at *
 refine ak.intro Q60.2 (by simp[Q60]) ?_
 simp(disch:=try exact dI) only[Q60,Fld.pv_mk,Val.pv_mk,push_cast,seval]
 refine ap ([]) (fun j:Nat=>[(5,.pv (.int .i64 (j:Int)))]) (fun _=>[]) (fun j=>j<=L.length/\m5 (Fld.mk nm (Val.mk vk vn vs vt vl vf)) L=L.take j++m5 (Fld.mk nm (Val.mk vk vn vs vt vl vf)) (L.drop j)) (fun j=>L.length - j) (0) ?_;intro e0 σ0 n0 h0;simp(disch:=try exact dI) only[push_cast,seval] at h0;obtain⟨rfl,rfl,rfl⟩:=h0;refine⟨?_,?_,?_⟩
 ·exact qsZ
 ·exact⟨by omega,by simp⟩
 rintro j ⟨hj,hins⟩
 have hcut:=Us L j
 have htk:(L.map Fld.pv).take j=(L.take j).map Fld.pv:=(List.map_take ..).symm
 cases hy:L[j]? with
 | some y=>
   have hjl:=(List.getElem?_eq_some_iff.1 hy).1
   have hjI:(j:Int)<(L.length:Int):=by omega
   have hin2:=Nk L j hins y hy
   have hfin:=fun h=>qB hins (fun y2 hy2=>by rw[hy] at hy2;cases hy2;exact h)
   obtain⟨yn,⟨yk,ya,ys,yt,yl,yf⟩⟩:=y
   simp only[Fld.name] at hin2 hfin
   have hbl:=KQ yn nm
   by_cases hc:Lib.compareBytes yn nm<0
   ·rw[decide_eq_true hc] at hbl
    have hbl:=hbl.symm
    simp(disch:=try exact dI) only[hjI,hy,Option.map_some,Fld.pv_mk,Val.pv_mk,ag,hbl,push_cast,seval]
    exact⟨j+1,aK qsZ,⟨by omega,hin2 hc⟩,by omega⟩
   ·rw[decide_eq_false hc] at hbl
    have hbl:=hbl.symm
    have hfin:=hfin hc
    simp(disch:=try exact dI) only[hjI,hy,Option.map_some,Fld.pv_mk,Val.pv_mk,ag,hbl,htk,hcut,RB,push_cast,seval]
    simp(disch:=try exact dI) only[hfin,List.map_append,List.map_cons,Fld.pv_mk,Val.pv_mk,push_cast,seval]
 | none=>
   have hjl:j=L.length:=by
    rw[List.getElem?_eq_none_iff] at hy;omega
   have hfin:=qB hins (fun y hy2=>by rw[hy] at hy2;cases hy2)
   have hjI:¬ (j:Int)<(L.length:Int):=by omega
   simp(disch:=try exact dI) only[hjI,htk,hcut,RB,ag,push_cast,seval]
   simp(disch:=try exact dI) only[hfin,List.map_append,List.map_cons,Fld.pv_mk,Val.pv_mk,push_cast,seval]
theorem GI {A:List Fld}{x:Fld}(h:l7 (A++[x])):srt (A++[x])=m5 x (srt A):=by
 have hA:l7 A:=by
  unfold l7 at *
  rw[List.map_append] at h
  exact (List.nodup_append.1 h).1
 have hn:∀ y∈A,y.name≠x.name:=fun y hy e=>by
  unfold l7 at h
  rw[List.map_append,List.nodup_append] at h
  exact h.2.2 _ (List.mem_map_of_mem hy) _ (by simp) e
 have hs:(srt A).Pairwise ltF:=by
  rw[List.pairwise_iff_getElem]
  intro i j hi hj hij
  have h1:=mL A i j _ _ hij (List.getElem?_eq_getElem hi) (List.getElem?_eq_getElem hj)
  rcases oB (srt A)[i].name (srt A)[j].name with c | c | c
  ·exact c
  ·have hnd:((srt A).map Fld.name).Nodup:=((fJ A).map Fld.name).nodup_iff.2 hA
   have:=List.pairwise_iff_getElem.1 hnd i j (by simpa using hi) (by simpa using hj) hij
   simp only[List.getElem_map] at this
   exact absurd c this
  ·exact absurd c h1
 exact Pp (lm x _ hs fun y hy=>hn y ((fJ A).mem_iff.1 hy)) ((List.perm_append_comm).trans ((List.Perm.cons x (fJ A).symm).trans (ic x _).symm))
def eR:PV:=.agg [.int .i64 0,.int .i64 0,.int .i64 0,.str [],.nils,.nils]
theorem dK:Nz eR aI.pv:=by
 unfold eR aI
 rw[Val.pv_mk]
 repeat' constructor
def QO (g:TFd):PV:=match g.dflt with
 | []=>eR
 | x::_=>x.pv
def Sa (g:TFd):Val:=match g.dflt with
 | []=>aI
 | x::_=>x
def jI (c:Cel):Bool:=c.2||!decide (c.1=[])
def OQ (g:TFd)(c:Cel):PV:=if jI c=true then (f8 g.typ c.1).1.pv else if g.need=3 then QO g else eR
def tD (g:TFd)(c:Cel):Val:=if jI c=true then (f8 g.typ c.1).1 else if g.need=3 then Sa g else aI
def oy (g:TFd)(c:Cel):Int:=if jI c=true then (f8 g.typ c.1).2 else if g.need=3 then 0 else if g.need=1 then 19 else 0
theorem QQ (g:TFd)(c:Cel):Nz (OQ g c) (tD g c).pv:=by
 unfold OQ tD
 split
 ·exact .refl _
 ·split
  ·unfold QO Sa
   cases g.dflt with
   | nil=>exact dK
   | cons x r=>exact .refl _
  ·exact dK
theorem Ka (v:Val):∃ (a b c:Int) (d:List UInt8) (p q:PV),v.pv = .agg [.int .i64 a,.int .i64 b,.int .i64 c,.str d,p,q]/\p.one=true/\q.one=true:=by
 obtain⟨k,n,s,t,l,f⟩:=v
 exact⟨k,n,s,t,.list (l.map Val.pv),.list (f.map Fld.pv),by rw[Val.pv_mk],rfl,rfl⟩
theorem EG (g:TFd)(c:Cel):∃ (x y z:Int) (d:List UInt8) (p q:PV),OQ g c = .agg [.int .i64 x,.int .i64 y,.int .i64 z,.str d,p,q]/\p.one=true/\q.one=true:=by
 unfold OQ
 split
 ·exact Ka _
 ·split
  ·unfold QO
   split
   ·exact⟨0,0,0,[],.nils,.nils,rfl,rfl,rfl⟩
   ·exact Ka _
  ·exact⟨0,0,0,[],.nils,.nils,rfl,rfl,rfl⟩
def eX:List TFd->List Cel->List Nat->Int×Int
 | g::f,c::C,p::Pl=>if oy g c=0 then eX f C Pl else ((p:Int),oy g c)
 | _,_,_=>(0,0)
theorem EE {f:List TFd}{C:List Cel}{Pl:List Nat}{i:Nat}{g:TFd}{c:Cel}{p:Nat}(hg:f[i]? = some g)(hc:C[i]? = some c)(hp:Pl[i]? = some p):eX (f.drop i) (C.drop i) (Pl.drop i)=if oy g c=0 then eX (f.drop (i+1)) (C.drop (i+1)) (Pl.drop (i+1)) else ((p:Int),oy g c):=by
 rw[ba hg,ba hc,ba hp,eX]
theorem j1:∀ (f:List TFd) (C:List Cel) (Pl:List Nat),f.length=C.length->C.length=Pl.length->(eX f C Pl).2=0->eX f C Pl=(0,0)/\∀ x∈f.zip C,oy x.1 x.2=0
 | [],_,_,_,_,_=>⟨by rw[eX];exact fun _ _ _ _ _ _ h=>(by cases h),fun x hx=>by simp at hx⟩
 | _::_,[],_,h,_,_=>by simp at h
 | _::_,_::_,[],_,h,_=>by simp at h
 | g::f,c::C,p::Pl,h1,h2,h=>by
   rw[eX] at h ⊢
   by_cases h0:oy g c=0
   ·rw[if_pos h0] at h ⊢
    obtain⟨i1,i2⟩:=j1 f C Pl (by simpa using h1) (by simpa using h2) h
    refine⟨i1,fun x hx=>?_⟩
    rw[List.zip_cons_cons] at hx
    rcases List.mem_cons.1 hx with rfl | hx
    ·exact h0
    ·exact i2 x hx
   ·rw[if_neg h0] at h;exact absurd h h0
theorem ED:∀ (f:List TFd) (C:List Cel) (Pl:List Nat),(∀ x∈f.zip C,oy x.1 x.2=0)->eX f C Pl=(0,0)
 | [],_,_,_=>by rw[eX];exact fun _ _ _ _ _ _ h=>by cases h
 | _::_,[],_,_=>by rw[eX];exact fun _ _ _ _ _ _ _ h=>by cases h
 | _::_,_::_,[],_=>by rw[eX];exact fun _ _ _ _ _ _ _ _ h=>by cases h
 | g::f,c::C,p::Pl,h=>by
   rw[eX,if_pos (h (g,c) (by simp))]
   exact ED f C Pl fun x hx=>h x (by rw[List.zip_cons_cons];exact List.mem_cons_of_mem _ hx)
def fDP (x:TFd×Cel):PV:=.agg (.str x.1.name::(OQ x.1 x.2).cells)
def fDV (x:TFd×Cel):Fld:=.mk x.1.name (tD x.1 x.2)
theorem Fq {P:PV}{V:Val}(h:Nz P V.pv)(hP:∃ cs,P = .agg cs):NzL P.cells V.pv.cells:=by
 obtain⟨cs,rfl⟩:=hP
 obtain⟨k,n,s,t,l,f⟩:=V
 rw[Val.pv_mk] at h ⊢
 cases h with
 | refl=>exact NzL.refl _
 | agg _ _ h=>exact h
theorem S8 (x:TFd×Cel):Nz (fDP x) (fDV x).pv:=by
 have h:=Fq (QQ x.1 x.2) (by obtain⟨a,b,c,d,p,q,h,_⟩:=EG x.1 x.2;exact⟨_,h⟩)
 unfold fDP fDV
 rw[Fld.pv_mk]
 exact .agg _ _ (.cons _ _ _ _ (.refl _) h)
theorem Db:∀ Z:List (TFd×Cel),NzL (Z.map fDP) ((Z.map fDV).map Fld.pv)
 | []=>.nil
 | x::r=>.cons _ _ _ _ (S8 x) (Db r)
theorem vA {g:TFd}{x:Val}{r:List Val}(h:g.dflt=x::r):QO g=x.pv/\Sa g=x:=by
 unfold QO Sa
 rw[h]
 exact⟨rfl,rfl⟩
theorem m8 (c:Cel):(c.2=true/\jI c=true)\/(c.2=false/\¬ c.1=[]/\jI c=true)\/(c.2=false/\c.1=[]/\jI c=false):=by
 obtain⟨s,q⟩:=c
 unfold jI
 cases q with
 | true=>exact .inl ⟨rfl,rfl⟩
 | false=>
   by_cases h:s=[]
   ·exact .inr (.inr ⟨rfl,h,by simp[h]⟩)
   ·exact .inr (.inl ⟨rfl,h,by simp[h]⟩)
theorem pF {Pl:List Nat}{i p:Nat}(h:Pl[i]? = some p):(Pl.map fO)[i]? = some (.int .i64 (p:Int)):=by simp[h,fO]
theorem NY {C:List Cel}{i:Nat}{c:Cel}(h:C[i]? = some c):(C.map tI)[i]? = some (.agg [.str c.1,.bool c.2]):=by simp[h,tI]
theorem zg {m:Int}{T:Nat}{p:PV}(k a b e0:Int)(wd:List (List UInt8))(el:List Typ)(f:List TFd)(line:List UInt8)(n:Int)(C:List Cel)(Pl:List Nat)(V:Val)
  (h17:ak Tryz.prog aq 17 [(Typ.mk k a b e0 wd el f).pv,.int .i64 n] (.int .i64 0))
  (h57:ak Tryz.prog aq 57 [.str line,.int .i64 n] (.tup [.list (C.map tI),.list (Pl.map fO),.int .i64 0,.int .i64 0]))
  (hfc:f.length=C.length) (hcp:C.length=Pl.length) (hf6:f.length<=64)
  (h12:∀ g∈f,∀ c∈C,ak Tryz.prog (oX T p) 12 [g.typ.pv,.str c.1] (.tup [(f8 g.typ c.1).1.pv,.int .i64 (f8 g.typ c.1).2]))
  (hdf:∀ g∈f,g.need=3->∃ x r,g.dflt=x::r)
  (hrec:eX f C Pl=(0,0)->ak Tryz.prog aq 59 [.list ((f.zip C).map fDP)] V.pv) (hcl:ak Tryz.prog aq 58 [V.pv] V.pv) :
  ak Tryz.prog (rx m T p) 22 [(Typ.mk k a b e0 wd el f).pv,.int .i64 n,.str line] (.tup [if (eX f C Pl).2=0 then V.pv else eR,.int .i64 (eX f C Pl).1,.int .i64 (eX f C Pl).2]):=by
 have h17:=xG (m:=m) (T:=T) (p:=p) h17
 have h57:=xG (m:=m) (T:=T) (p:=p) h57
 have h58:=xG (m:=m) (T:=T) (p:=p) hcl
 obtain⟨R,hR⟩:∃ R,R=eX f C Pl:=⟨_,rfl⟩
 have hall:=j1 f C Pl hfc hcp
 rw[<- hR] at hrec hall ⊢
 obtain⟨Z,hZ⟩:∃ Z,Z=f.zip C:=⟨_,rfl⟩
 have hZl:Z.length=f.length:=by rw[hZ,List.length_zip];omega
 have hZa:∀ (i:Nat) (g:TFd) (c:Cel),f[i]? = some g->C[i]? = some c->Z[i]? = some (g,c):=fun i g c h1 h2=>by rw[hZ,List.getElem?_zip_eq_some];exact⟨h1,h2⟩
 rw[<- hZ] at hrec
 clear hZ
 have hcI:(C.length:Int)=(f.length:Int):=by omega
 simp only[Typ.pv_mk] at h17 ⊢
 refine ak.intro Q22.2 (by simp[Q22]) ?_
 simp(disch:=try exact dI) only[Q22,push_cast,seval]
 refine ab.pure h17 rfl ?_
 refine zgZ ?_
 refine ab.pure h57 rfl ?_
 simp(disch:=try exact dI) only[hcI,List.length_map,Int.lt_irrefl,push_cast,seval]
 refine ap ([(12,0,83,7)]) (fun i:Nat=>[(12,.olist 1 7 ((Z.take i).map fDP)),(65,.pv (.int .i64 (i:Int)))]) (fun _=>[]) (fun i=>i<=f.length/\R=eX (f.drop i) (C.drop i) (Pl.drop i)) (fun i=>f.length - i) (0) ?_;intro e0 σ0 n0 h0;simp(disch:=try exact dI) only[push_cast,seval] at h0;obtain⟨rfl,rfl,rfl⟩:=h0;refine⟨?_,?_,?_⟩
 ·simp(disch:=try exact dI) only[List.take_zero,List.map_nil,push_cast,seval]
 ·exact⟨by omega,by simpa using hR⟩
 rintro i ⟨hi,hr⟩
 by_cases hlt:i<f.length
 ·have hltI:(i:Int)<(f.length:Int):=by omega
  obtain⟨g,hg⟩:∃ g,f[i]? = some g:=⟨_,List.getElem?_eq_getElem hlt⟩
  obtain⟨c,hc⟩:∃ c,C[i]? = some c:=⟨_,List.getElem?_eq_getElem (by omega)⟩
  obtain⟨q,hq⟩:∃ q,Pl[i]? = some q:=⟨_,List.getElem?_eq_getElem (by omega)⟩
  have hgm:=List.mem_of_getElem? hg
  have h12g:=xE (m:=m) (h12 g hgm c (List.mem_of_getElem? hc))
  have hqp:=pF hq
  have hcp':=NY hc
  have hZi:=hZa i g c hg hc
  have hsn:(Z.take (i+1)).map fDP=(Z.take i).map fDP++[fDP (g,c)]:=by rw[aD hZi,List.map_append];rfl
  have hKl:((Z.take i).map fDP).length<=64:=by rw[List.length_map,List.length_take];omega
  rw[EE hg hc hq] at hr
  obtain⟨da,db,dc,dd,dp,dq,hdP,hp1,hq1⟩:=EG g c
  have hfD:fDP (g,c) = .agg [.str g.name,.int .i64 da,.int .i64 db,.int .i64 dc,.str dd,dp,dq]:=by unfold fDP;rw[hdP];rfl
  rw[hfD] at hsn
  have hdg:=hdf g hgm
  generalize (Z.take i).map fDP=K at *
  have hfull:=m8 c
  unfold OQ at hdP
  unfold oy at hr
  have hdft:=fun x r=>vA (g:=g) (x:=x) (r:=r)
  obtain⟨s,qd⟩:=c
  simp only at h12g hfull hcp'
  rcases hfull with ⟨rfl,hF⟩ | ⟨rfl,hs0,hF⟩ | ⟨rfl,rfl,hF⟩
  case inl | inr.inl=>
   rw[hF,if_pos rfl] at hdP hr
   simp only at hdP hr
   rw[hdP] at h12g
   generalize (f8 g.typ s).2=z at *
   clear hdP hdft hdg hF
   obtain⟨n',nm',nd',⟨k',m',M',s',w',e',f'⟩,d'⟩:=g
   simp only[TFd.typ,TFd.name,Typ.pv_mk] at h12g hsn
   first
   | simp(disch:=try exact dI) only[hltI,hg,Option.map_some,TFd.pv_mk,Typ.pv_mk,ag,hcp',hqp,hs0,push_cast,seval]
   | simp(disch:=try exact dI) only[hltI,hg,Option.map_some,TFd.pv_mk,Typ.pv_mk,ag,hcp',hqp,push_cast,seval]
   refine ae h12g rfl ?_
   by_cases hz:z=0
   ·rw[if_pos hz] at hr
    subst hz
    simp(disch:=try exact dI) only[hp1,hq1,hg,Option.map_some,TFd.pv_mk,Typ.pv_mk,ag,push_cast,seval]
    exact⟨i+1,aK (by simp(disch:=try exact dI) only[hsn,push_cast,seval]),⟨by omega,hr⟩,by omega⟩
   ·rw[if_neg hz] at hr
    subst hr
    rw[if_neg hz]
    simp(disch:=try exact dI) only[hz,hqp,hp1,hq1,eR,push_cast,seval]
  case inr.inr=>
   rw[hF,if_neg (show ¬ (false=true) by decide)] at hdP hr
   by_cases h3:g.need=3
   ·rw[if_pos h3] at hdP hr
    rw[if_pos rfl] at hr
    obtain⟨x,xr,hx⟩:=hdg h3
    obtain⟨hx1,_⟩:=hdft x xr hx
    rw[hx1] at hdP
    obtain⟨n',nm',nd',⟨k',m',M',s',w',e',f'⟩,d'⟩:=g
    simp only[TFd.name,TFd.need,TFd.dflt] at h3 hx hsn
    subst h3 hx
    obtain⟨vk,vn,vs,vt,vl,vf⟩:=x
    rw[Val.pv_mk] at hdP
    simp only[PV.agg.injEq,List.cons.injEq,PV.int.injEq,PV.str.injEq,true_and,and_true] at hdP
    obtain⟨rfl,rfl,rfl,rfl,rfl,rfl⟩:=hdP
    simp(disch:=try exact dI) only[hltI,hg,Option.map_some,TFd.pv_mk,Typ.pv_mk,ag,hcp',az,List.map_cons,Val.pv_mk,push_cast,seval]
    exact⟨i+1,aK (by simp(disch:=try exact dI) only[hsn,push_cast,seval]),⟨by omega,hr⟩,by omega⟩
   ·rw[if_neg h3] at hdP hr
    unfold eR at hdP
    simp only[PV.agg.injEq,List.cons.injEq,PV.int.injEq,PV.str.injEq,true_and,and_true] at hdP
    obtain⟨rfl,rfl,rfl,rfl,rfl,rfl⟩:=hdP
    by_cases h1:g.need=1
    ·rw[if_pos h1,if_neg (show ¬ (19:Int)=0 by decide)] at hr
     obtain⟨n',nm',nd',⟨k',m',M',s',w',e',f'⟩,d'⟩:=g
     simp only[TFd.name,TFd.need] at h1 h3
     subst hr
     rw[if_neg (show ¬ (19:Int)=0 by decide)]
     simp(disch:=try exact dI) only[hltI,hg,Option.map_some,TFd.pv_mk,Typ.pv_mk,ag,hcp',hqp,h1,h3,eR,push_cast,seval]
    ·rw[if_neg h1,if_pos rfl] at hr
     obtain⟨n',nm',nd',⟨k',m',M',s',w',e',f'⟩,d'⟩:=g
     simp only[TFd.name,TFd.need] at h1 h3 hsn
     simp(disch:=try exact dI) only[hltI,hg,Option.map_some,TFd.pv_mk,Typ.pv_mk,ag,hcp',hqp,h1,h3,push_cast,seval]
     exact⟨i+1,aK (by simp(disch:=try exact dI) only[hsn,push_cast,seval]),⟨by omega,hr⟩,by omega⟩
 ·obtain rfl:i=f.length:=by omega
  rw[List.drop_length] at hr
  have hR0:R=(0,0):=by rw[hr,eX];exact fun _ _ _ _ _ _ h=>by cases h
  have h59:=xG (m:=m) (T:=T) (p:=p) (hrec hR0)
  rw[show Z.take f.length=Z from List.take_of_length_le (by omega)]
  subst hR0
  rw[if_pos rfl]
  generalize Z.map fDP=K at *
  obtain⟨vk,vn,vs,vt,vl,vf⟩:=V
  simp only[Val.pv_mk] at h58 h59 ⊢
  simp(disch:=try exact dI) only[Int.lt_irrefl,push_cast,seval]
  refine ab.pure h59 rfl ?_
  refine zgZ ?_
  refine ab.pure h58 rfl ?_
  exact qsZ
def nV (Z:List (TFd×Cel))(i:Nat):List Fld:=srt (((Z.take i).map fDV).filter ce)
theorem pK (Z:List (TFd×Cel)):nV Z 0=[]:=by
 have:(nV Z 0).length=0:=by unfold nV;rw[ep];rfl
 exact List.eq_nil_of_length_eq_zero this
theorem CJ {Z:List (TFd×Cel)}{i:Nat}{x:TFd×Cel}(hx:Z[i]? = some x)(hnd:l7 (Z.map fDV)):nV Z (i+1)=if ce (fDV x)=true then m5 (fDV x) (nV Z i) else nV Z i:=by
 unfold nV
 rw[aD hx,List.map_append,List.filter_append]
 by_cases hk:ce (fDV x)=true
 ·rw[if_pos hk,show [x].map fDV=[fDV x] from rfl,show [fDV x].filter ce=[fDV x] by simp[hk]]
  refine GI ?_
  have hsub:(((Z.take i).map fDV).filter ce++[fDV x]).Sublist (Z.map fDV):=by
   have h1:((Z.take (i+1)).map fDV).Sublist (Z.map fDV):=(List.take_sublist _ _).map _
   rw[aD hx,List.map_append] at h1
   exact (List.filter_sublist.append (List.Sublist.refl _)).trans h1
  unfold l7 at *
  exact hnd.sublist (hsub.map Fld.name)
 ·rw[if_neg hk,show [x].map fDV=[fDV x] from rfl,show [fDV x].filter ce=[] by simp[hk],List.append_nil]
theorem HS (Z:List (TFd×Cel))(i:Nat):(nV Z i).length<=i:=by
 unfold nV
 rw[ep]
 have:=List.length_filter_le ce ((Z.take i).map fDV)
 rw[List.length_map,List.length_take] at this
 omega
theorem E1 {C:List Cel}{Pl:List Nat}{i:Nat}{c:Cel}{q:Nat}(hc:C[i]? = some c)(hq:Pl[i]? = some q):((C.zip Pl).map zW)[i]? = some (.agg [.str c.1,.bool c.2,.int .i64 (q:Int)]):=by
 rw[List.getElem?_map,show (C.zip Pl)[i]? = some (c,q) from by rw[List.getElem?_zip_eq_some];exact⟨hc,hq⟩];rfl
theorem zb (k a b e0:Int)(wd:List (List UInt8))(el:List Typ)(f:List TFd)(line:List UInt8)(n:Int)(C:List Cel)(Pl:List Nat)
  (h18:ak Tryz.prog aq 18 [(Typ.mk k a b e0 wd el f).pv,.int .i64 n] (.int .i64 0))
  (h30:ak Tryz.prog aq 30 [.str line,.int .i64 n] (.tup [.list ((C.zip Pl).map zW),.int .i64 0,.int .i64 0]))
  (hfc:f.length=C.length) (hcp:C.length=Pl.length) (hf6:f.length<=64)
  (h13:∀ g∈f,∀ c∈C,ak Tryz.prog aq 13 [g.typ.pv,.str c.1] (.tup [(f8 g.typ c.1).1.pv,.int .i64 (f8 g.typ c.1).2]))
  (hnn:∀ g∈f,∀ c∈C,(f8 g.typ c.1).2=0->bf (f8 g.typ c.1).1=false)
  (hdf:∀ g∈f,g.need=3->∃ x r,g.dflt=x::r/\bf x=false)
  (hnd:l7 ((f.zip C).map fDV)) (hok:∀ x∈f.zip C,oy x.1 x.2=0->(fDV x).ok) :
  ∃ P,ak Tryz.prog aq 23 [(Typ.mk k a b e0 wd el f).pv,.int .i64 n,.str line] (.tup [P,.int .i64 (eX f C Pl).1,.int .i64 (eX f C Pl).2])/\Nz P (if (eX f C Pl).2=0 then oJ ((f.zip C).map fDV) else aI).pv/\(P=eR\/∃ L,P = .agg [.int .i64 9,.int .i64 0,.int .i64 0,.str [],.nils,.list L]):=by
 obtain⟨R,hR⟩:∃ R,R=eX f C Pl:=⟨_,rfl⟩
 have hall:=j1 f C Pl hfc hcp
 rw[<- hR] at hall ⊢
 obtain⟨Z,hZ⟩:∃ Z,Z=f.zip C:=⟨_,rfl⟩
 have hZl:Z.length=f.length:=by rw[hZ,List.length_zip];omega
 have hZa:∀ (i:Nat) (g:TFd) (c:Cel),f[i]? = some g->C[i]? = some c->Z[i]? = some (g,c):=fun i g c h1 h2=>by rw[hZ,List.getElem?_zip_eq_some];exact⟨h1,h2⟩
 rw[<- hZ] at hnd hok ⊢
 clear hZ
 have hcI:(C.length:Int)=(f.length:Int):=by omega
 have hzl:((C.zip Pl).map zW).length=C.length:=by rw[List.length_map,List.length_zip];omega
 have hcel:=fun (i:Nat) (c:Cel) (q:Nat) (h1:C[i]? = some c) (h2:Pl[i]? = some q)=>E1 h1 h2
 generalize (C.zip Pl).map zW=CL at *
 refine⟨if R.2=0 then .agg [.int .i64 9,.int .i64 0,.int .i64 0,.str [],.nils,.list ((nV Z f.length).map Fld.pv)] else eR,?_,?_,?_⟩
 ·simp only[Typ.pv_mk] at h18 ⊢
  refine ak.intro Q23.2 (by simp[Q23]) ?_
  simp(disch:=try exact dI) only[Q23,push_cast,seval]
  refine ab.pure h18 rfl ?_
  refine zgZ ?_
  refine ab.pure h30 rfl ?_
  simp(disch:=try exact dI) only[hzl,hcI,Int.lt_irrefl,push_cast,seval]
  refine ap ([]) (fun i:Nat=>[(14,.pv (.int .i64 (i:Int)))]) (fun i=>[(1,.cells 31 true [.pv (.int .i64 9),.pv (.int .i64 0),.pv (.int .i64 0),.pv (.str []),.pv .nils,.pv (.list ((nV Z i).map Fld.pv))])]) (fun i=>i<=f.length/\R=eX (f.drop i) (C.drop i) (Pl.drop i)/\∀ y∈nV Z i,y.ok) (fun i=>f.length - i) (0) ?_;intro e0 σ0 n0 h0;simp(disch:=try exact dI) only[push_cast,seval] at h0;obtain⟨rfl,rfl,rfl⟩:=h0;refine⟨?_,?_,?_⟩
  ·simp(disch:=try exact dI) only[pK,List.map_nil,push_cast,seval]
  ·exact⟨by omega,by simpa using hR,by rw[pK];simp⟩
  rintro i ⟨hi,hr,hyo⟩
  by_cases hlt:i<f.length
  ·have hltI:(i:Int)<(f.length:Int):=by omega
   obtain⟨g,hg⟩:∃ g,f[i]? = some g:=⟨_,List.getElem?_eq_getElem hlt⟩
   obtain⟨c,hc⟩:∃ c,C[i]? = some c:=⟨_,List.getElem?_eq_getElem (by omega)⟩
   obtain⟨q,hq⟩:∃ q,Pl[i]? = some q:=⟨_,List.getElem?_eq_getElem (by omega)⟩
   have hgm:=List.mem_of_getElem? hg
   have hcm:=List.mem_of_getElem? hc
   have h13g:=h13 g hgm c hcm
   have hnng:=hnn g hgm c hcm
   have hdg:=hdf g hgm
   have hcp':=hcel i c q hc hq
   have hZi:=hZa i g c hg hc
   have hst:=CJ hZi hnd
   have hol:=HS Z i
   have hokg:=hok (g,c) (List.mem_of_getElem? hZi)
   rw[EE hg hc hq] at hr
   have hkf:ce (fDV (g,c))=!bf (tD g c):=rfl
   have hfv:fDV (g,c) = .mk g.name (tD g c):=rfl
   rw[hkf,hfv] at hst
   rw[hfv] at hokg
   simp only at hokg
   have hfull:=m8 c
   unfold tD at hst hokg
   unfold oy at hr hokg
   have hdft:=fun x r=>vA (g:=g) (x:=x) (r:=r)
   obtain⟨s,qd⟩:=c
   simp only at h13g hfull hcp' hnng
   simp only at hr hst hokg
   generalize f8 g.typ s=VN at *
   obtain⟨x,z⟩:=VN
   simp only at h13g hnng hr hst hokg
   have key:∀ (v:Val),(Fld.mk g.name v).ok->∀ y∈m5 (.mk g.name v) (nV Z i),y.ok:=fun v hv y hy=>by
    rcases List.mem_cons.1 ((ic _ _).mem_iff.1 hy) with rfl | hy
    ·exact hv
    ·exact hyo y hy
   have hins:=fun (v:Val) (hv:(Fld.mk g.name v).ok)=>IC (nV Z i) (.mk g.name v) (by omega) hyo hv
   have hfull2:(s=[]/\qd=true/\jI (s,qd)=true)\/(¬ s=[]/\jI (s,qd)=true)\/(qd=false/\s=[]/\jI (s,qd)=false):=by
    by_cases h:s=[]
    ·rcases hfull with ⟨a,b⟩ | ⟨_,a,_⟩ | q
     ·exact .inl ⟨h,a,b⟩
     ·exact absurd h a
     ·exact .inr (.inr q)
    ·rcases hfull with ⟨_,b⟩ | ⟨_,_,b⟩ | ⟨_,a,_⟩
     ·exact .inr (.inl ⟨h,b⟩)
     ·exact .inr (.inl ⟨h,b⟩)
     ·exact absurd a h
   clear hfull
   rcases hfull2 with ⟨rfl,rfl,hF⟩ | ⟨hs0,hF⟩ | ⟨rfl,rfl,hF⟩
   case inl | inr.inl=>
    rw[hF,if_pos rfl] at hr hst
    rw[hF,if_pos rfl,if_pos rfl] at hokg
    clear hdft hdg hF
    obtain⟨n',nm',nd',⟨k',m',M',s',w',e',f'⟩,d'⟩:=g
    obtain⟨vk,vn,vs,vt,vl,vf⟩:=x
    simp only[TFd.typ,TFd.name,Typ.pv_mk,Val.pv_mk] at h13g hst hins key hokg
    first
    | simp(disch:=try exact dI) only[hltI,hg,Option.map_some,TFd.pv_mk,Typ.pv_mk,ag,hcp',hzl,hcI,hs0,push_cast,seval]
    | simp(disch:=try exact dI) only[hltI,hg,Option.map_some,TFd.pv_mk,Typ.pv_mk,ag,hcp',hzl,hcI,push_cast,seval]
    refine ae h13g rfl ?_
    by_cases hz:z=0
    ·rw[if_pos hz] at hr
     have hnz:=hnng hz
     rw[hnz,if_pos (show (!false)=true from rfl)] at hst
     have h60:=hins _ (hokg hz)
     have hyo2:=key _ (hokg hz)
     rw[<- hst] at hyo2 h60
     simp only[Fld.pv_mk,Val.pv_mk] at h60
     subst hz
     generalize nV Z i=K at *
     refine zgZ ?_
     refine ab.pure h60 rfl ?_
     refine zgZ ?_
     exact⟨i+1,aK qsZ,⟨by omega,hr,hyo2⟩,by omega⟩
    ·rw[if_neg hz] at hr
     subst hr
     rw[if_neg hz]
     simp(disch:=try exact dI) only[hz,hcp',eR,push_cast,seval]
   case inr.inr=>
    rw[hF,if_neg (show ¬ (false=true) by decide)] at hr hst
    rw[hF,if_neg (show ¬ (false=true) by decide),if_neg (show ¬ (false=true) by decide)] at hokg
    by_cases h3:g.need=3
    ·rw[if_pos h3] at hr hst
     rw[if_pos rfl] at hr
     rw[if_pos h3,if_pos h3] at hokg
     obtain⟨x,xr,hx,hxn⟩:=hdg h3
     obtain⟨_,hx2⟩:=hdft x xr hx
     rw[hx2,hxn,if_pos (show (!false)=true from rfl)] at hst
     rw[hx2] at hokg
     have h60:=hins _ (hokg rfl)
     have hyo2:=key _ (hokg rfl)
     rw[<- hst] at hyo2 h60
     obtain⟨n',nm',nd',⟨k',m',M',s',w',e',f'⟩,d'⟩:=g
     simp only[TFd.name,TFd.need,TFd.dflt] at h3 hx h60
     subst h3 hx
     obtain⟨vk,vn,vs,vt,vl,vf⟩:=x
     simp only[Fld.pv_mk,Val.pv_mk] at h60
     generalize nV Z i=K at *
     simp(disch:=try exact dI) only[hltI,hg,Option.map_some,TFd.pv_mk,Typ.pv_mk,ag,hcp',hzl,hcI,az,List.map_cons,Val.pv_mk,push_cast,seval]
     refine ab.pure h60 rfl ?_
     refine zgZ ?_
     exact⟨i+1,aK qsZ,⟨by omega,hr,hyo2⟩,by omega⟩
    ·rw[if_neg h3] at hr hst
     rw[show (!bf aI)=false from rfl,if_neg (by decide)] at hst
     by_cases h1:g.need=1
     ·rw[if_pos h1,if_neg (show ¬ (19:Int)=0 by decide)] at hr
      obtain⟨n',nm',nd',⟨k',m',M',s',w',e',f'⟩,d'⟩:=g
      simp only[TFd.need] at h1 h3
      subst hr
      rw[if_neg (show ¬ (19:Int)=0 by decide)]
      simp(disch:=try exact dI) only[hltI,hg,Option.map_some,TFd.pv_mk,Typ.pv_mk,ag,hcp',hzl,hcI,h1,h3,eR,push_cast,seval]
     ·rw[if_neg h1,if_pos rfl] at hr
      obtain⟨n',nm',nd',⟨k',m',M',s',w',e',f'⟩,d'⟩:=g
      simp only[TFd.need] at h1 h3
      simp(disch:=try exact dI) only[hltI,hg,Option.map_some,TFd.pv_mk,Typ.pv_mk,ag,hcp',hzl,hcI,h1,h3,push_cast,seval]
      exact⟨i+1,aK (by simp(disch:=try exact dI) only[hst,push_cast,seval]),⟨by omega,hr,by rw[hst];exact hyo⟩,by omega⟩
  ·obtain rfl:i=f.length:=by omega
   rw[List.drop_length] at hr
   have hR0:R=(0,0):=by rw[hr,eX];exact fun _ _ _ _ _ _ h=>by cases h
   subst hR0
   rw[if_pos rfl]
   generalize (nV Z f.length).map Fld.pv=K at *
   simp(disch:=try exact dI) only[hzl,hcI,Int.lt_irrefl,push_cast,seval]
 ·by_cases hz:R.2=0
  ·rw[if_pos hz,if_pos hz]
   unfold oJ
   rw[Val.pv_mk,show nV Z f.length=srt ((Z.map fDV).filter ce) by unfold nV;rw[List.take_of_length_le (by omega)]]
   refine .agg _ _ (.cons _ _ _ _ (.refl _) (.cons _ _ _ _ (.refl _) (.cons _ _ _ _ (.refl _) (.cons _ _ _ _ (.refl _) (.cons _ _ _ _ .nils (.cons _ _ _ _ (.refl _) .nil))))))
  ·rw[if_neg hz,if_neg hz]
   exact dK
 ·by_cases hz:R.2=0
  ·rw[if_pos hz];exact .inr ⟨_,rfl⟩
  ·rw[if_neg hz];exact .inl rfl
end Go.Proofs.YtbaaokocnegdoaaGreatDoor
