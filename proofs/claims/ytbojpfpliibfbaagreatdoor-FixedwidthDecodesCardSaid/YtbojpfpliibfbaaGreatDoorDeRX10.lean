/- A part of the proof. -/
import Derived.Test.YtbojpfpliibfbaaGreatDoorDeRX8
set_option maxHeartbeats 16000000
set_option maxRecDepth 100000
set_option linter.unusedVariables false
set_option linter.unusedSimpArgs false
namespace Go.Proofs.YtbojpfpliibfbaaGreatDoor
open Go Go.Ab
attribute [local irreducible] vc
def n9 (x:Fld):List Fld->List Fld
 | []=>[x]
 | y::r=>if Lib.compareBytes y.name x.name<0 then y::n9 x r else x::y::r
def n8:List Fld->List Fld
 | []=>[]
 | x::r=>if aS x.value=true then n8 r else n9 x (n8 r)
theorem kH (x:Fld):∀ L:List Fld,(n9 x L).Perm (x::L)
 | []=>List.Perm.refl _
 | y::r=>by
   rw[n9]
   split
   ·exact ((kH x r).cons y).trans (List.Perm.swap x y r)
   ·exact List.Perm.refl _
theorem dM:∀ l:List Fld,(n8 l).Perm (l.filter bR)
 | []=>List.Perm.refl _
 | x::r=>by
   rw[n8,List.filter_cons]
   have hk:bR x=!aS x.value:=rfl
   cases hn:aS x.value with
   | true=>rw[if_pos rfl,hk,hn,if_neg (by decide)];exact dM r
   | false=>
     rw[if_neg (by decide),hk,hn,if_pos (by decide)]
     exact (kH x _).trans ((dM r).cons x)
theorem uE:∀ a b:List UInt8,Lib.compareBytes a b<0\/a=b\/Lib.compareBytes b a<0
 | [],[]=>.inr (.inl rfl)
 | [],_::_=>.inl (by simp[Lib.compareBytes])
 | _::_,[]=>.inr (.inr (by simp[Lib.compareBytes]))
 | x::p,y::q=>by
   simp only[Lib.compareBytes,UInt8.lt_iff_toNat_lt]
   by_cases h1:x.toNat<y.toNat
   ·exact .inl (by rw[if_pos h1];omega)
   ·by_cases h2:y.toNat<x.toNat
    ·exact .inr (.inr (by rw[if_pos h2];omega))
    ·have he:x=y:=UInt8.toNat_inj.1 (by omega)
     rw[if_neg h1,if_neg h2,if_neg h2,if_neg h1]
     rcases uE p q with h | h | h
     ·exact .inl h
     ·exact .inr (.inl (by rw[he,h]))
     ·exact .inr (.inr h)
def ltF (a b:Fld):Prop:=Lib.compareBytes a.name b.name<0
theorem kG (x:Fld):∀ L:List Fld,L.Pairwise ltF->(∀ y∈L,y.name≠x.name)->(n9 x L).Pairwise ltF
 | [],_,_=>List.pairwise_singleton _ _
 | y::r,h,hn=>by
   rw[List.pairwise_cons] at h
   rw[n9]
   split
   ·rename_i hlt
    refine List.pairwise_cons.2 ⟨fun z hz=>?_,kG x r h.2 fun z hz=>hn z (List.mem_cons_of_mem _ hz)⟩
    rcases List.mem_cons.1 ((kH x r).mem_iff.1 hz) with rfl | hz
    ·exact hlt
    ·exact h.1 z hz
   ·rename_i hlt
    have hxy:ltF x y:=by
     rcases uE x.name y.name with h1 | h1 | h1
     ·exact h1
     ·exact absurd h1.symm (hn y (List.mem_cons_self ..))
     ·exact absurd h1 hlt
    refine List.pairwise_cons.2 ⟨fun z hz=>?_,List.pairwise_cons.2 h⟩
    rcases List.mem_cons.1 hz with rfl | hz
    ·exact hxy
    ·exact jF _ _ _ hxy (h.1 z hz)
theorem l9 {l:List Fld}{y:Fld}(hy:y∈n8 l):y∈l:=(List.mem_filter.1 ((dM l).mem_iff.1 hy)).1
theorem ee:∀ l:List Fld,qp l->(n8 l).Pairwise ltF
 | [],_=>List.Pairwise.nil
 | x::r,h=>by
   unfold qp at h
   rw[List.map_cons,List.nodup_cons] at h
   rw[n8]
   split
   ·exact ee r h.2
   ·exact kG x _ (ee r h.2) fun y hy e=>h.1 (e▸List.mem_map_of_mem (l9 hy))
theorem MO {l fs:List Fld}(hp2:fs.Pairwise ltF)(hp0:l.Perm fs):srt l=fs:=by
 have hs:(srt l).Pairwise fun a b=>¬ Lib.compareBytes b.name a.name<0:=by
  rw[List.pairwise_iff_getElem]
  intro i j hi hj hij
  exact vB l i j _ _ hij (List.getElem?_eq_getElem hi) (List.getElem?_eq_getElem hj)
 have hpp:=(js l).trans hp0
 refine List.Perm.eq_of_pairwise (le:=fun a b=>¬ Lib.compareBytes b.name a.name<0) ?_ hs (hp2.imp fun {a b} hab hba=>?_) hpp
 ·intro a b ha hb h1 h2
  have hb':=hb
  have ha':=hpp.mem_iff.1 ha
  obtain⟨i,hi,rfl⟩:=List.getElem_of_mem ha'
  obtain⟨j,hj,rfl⟩:=List.getElem_of_mem hb'
  have hpw:=List.pairwise_iff_getElem.1 hp2
  rcases Nat.lt_trichotomy i j with h | h | h
  ·exact absurd (hpw i j hi hj h) h2
  ·subst h;rfl
  ·exact absurd (hpw j i hj hi h) h1
 ·have:=jF _ _ _ hab hba
  rw[ll] at this
  exact absurd this (by decide)
theorem sV {l:List Fld}(h:qp l):srt (l.filter bR)=n8 l:=MO (ee l h) (dM l).symm
theorem ES:∀ l:List Fld,(n8 l).length<=l.length:=fun l=>by
 rw[(dM l).length_eq];exact List.length_filter_le _ _
theorem Kw {x:Fld}:∀ (L:List Fld) (j:Nat),n9 x L=L.take j++n9 x (L.drop j)->∀ y,L[j]? = some y->Lib.compareBytes y.name x.name<0->n9 x L=L.take (j+1)++n9 x (L.drop (j+1)):=fun L j h y hy hlt=>by
 rw[h,a8 hy,n9,if_pos hlt,aB hy,List.append_assoc];rfl
theorem pw {x:Fld}{L:List Fld}{j:Nat}(h:n9 x L=L.take j++n9 x (L.drop j))(hs:∀ y,L[j]? = some y->¬ Lib.compareBytes y.name x.name<0):n9 x L=L.take j++x::L.drop j:=by
 rw[h]
 congr 1
 cases hd:L.drop j with
 | nil=>rfl
 | cons y r=>
   have hy:L[j]? = some y:=by
    have:=congrArg List.head? hd
    rw[List.head?_drop] at this;exact this
   rw[n9,if_neg (hs y hy)]
theorem O8 (L:List Fld):(L.all fun x=>x.pv.cells.length == 7)=true:=List.all_eq_true.2 fun x _=>by rw[Fld.cells_len];rfl
theorem EQ (l:List Fld)(hl:l.length<=65000)(hok:∀ x∈l,x.ok)(hnd:qp l):ak Tryz.prog ap 59 [.list (l.map Fld.pv)] (.agg [.int .i64 9,.int .i64 0,.int .i64 0,.str [],.nils,.list ((n8 l).map Fld.pv)]):=by
 refine ak.intro Q59.2 (by simp[Q59]) ?_
 simp(disch:=try exact dI) only[Q59,push_cast,seval]
 refine am ([(3,6,60,7)]) (fun m:Nat=>[(4,.pv (.int .i64 ((m:Int) - 1)))]) (fun m=>[(1,.cells 36 true [.pv (.int .i64 9),.pv (.int .i64 0),.pv (.int .i64 0),.pv (.str []),.pv .nils,.olist 2 7 ((n8 (l.drop m)).map Fld.pv)])]) (fun m=>m<=l.length) (fun m=>m) (l.length) ?_;intro e0 σ0 n0 h0;simp(disch:=try exact dI) only[push_cast,seval] at h0;obtain⟨rfl,rfl,rfl⟩:=h0;refine⟨?_,?_,?_⟩
 ·simp(disch:=try exact dI) only[List.drop_length,n8,List.map_nil,push_cast,seval]
 ·omega
 rintro m hm
 cases m with
 | zero=>
   have h0:¬ (0:Int)<=((0:Nat):Int) - 1:=by omega
   simp(disch:=try exact dI) only[h0,List.drop_zero,push_cast,seval]
 | succ m=>
   have h0:(0:Int)<=((m+1:Nat):Int) - 1:=by omega
   have em:((m+1:Nat):Int) - 1=(m:Int):=by omega
   have hmI:(m:Int)<(l.length:Int):=by omega
   obtain⟨x,hx⟩:∃ x,l[m]? = some x:=⟨_,List.getElem?_eq_getElem (by omega)⟩
   have hd:n8 (l.drop m)=if aS x.value=true then n8 (l.drop (m+1)) else n9 x (n8 (l.drop (m+1))):=by rw[a8 hx,n8]
   have hN:=AZ x.value
   have hLl:=ES (l.drop (m+1))
   rw[List.length_drop] at hLl
   have hxo:=hok x (List.mem_of_getElem? hx)
   have hLo:∀ y∈n8 (l.drop (m+1)),y.ok:=fun y hy=>hok y (List.mem_of_mem_drop (l9 hy))
   generalize aS x.value=B at *
   generalize hLd:n8 (l.drop (m+1))=L at *
   obtain⟨nm,⟨vk,vn,vs,vt,vl,vf⟩⟩:=x
   simp only[Fld.value,Val.pv_mk] at hN
   have hnn:∀ y∈L,y.name≠nm:=fun y hy e=>by
    have h2:=pa hnd hx
    rw[List.any_eq_false] at h2
    rw[<- hLd] at hy
    have hy2:=(List.mem_filter.1 ((dM _).mem_iff.1 hy))
    refine h2 y hy2.1 ?_
    have hk:bR y=!aS y.value:=rfl
    have:=hy2.2
    rw[hk] at this
    show (decide (y.name=nm)&&!aS y.value)=true
    rw[decide_eq_true e,Bool.true_and];exact this
   have hfd:L.find? (aP nm)=none:=List.find?_eq_none.2 fun y hy=>by simp[aP,hnn y hy]
   have h25:ak Tryz.prog ap 25 [.agg [.int .i64 9,.int .i64 0,.int .i64 0,.str [],.nils,.list (L.map Fld.pv)],.str nm] (.int .i64 (-1)):=by
    have hvo:(Val.mk 9 0 0 [] [] L).ok:=by
     rw[Val.ok_mk]
     exact⟨⟨by omega,by omega⟩,⟨by omega,by omega⟩,⟨by omega,by omega⟩,by simp,by simp,by simp,by omega,hLo⟩
    rcases NU _ hvo rfl nm with ⟨_,h2⟩ | ⟨_,_,_,h2,_⟩
    ·rw[Val.pv_mk] at h2
     exact h2.nz (.cons _ _ _ _ (.agg _ _ (.cons _ _ _ _ (.refl _) (.cons _ _ _ _ (.refl _) (.cons _ _ _ _ (.refl _) (.cons _ _ _ _ (.refl _) (.cons _ _ _ _ .nils (.cons _ _ _ _ (.refl _) .nil))))))) (.cons _ _ _ _ (.refl _) .nil))
    ·simp only[Val.fields] at h2
     rw[hfd] at h2;cases h2
   cases B with
   | true=>
     rw[if_pos rfl] at hd
     simp(disch:=try exact dI) only[em,h0,hx,Option.map_some,Fld.pv_mk,Val.pv_mk,ag,push_cast,seval]
     refine ae hN rfl ?_
     refine zgZ ?_
     exact⟨m,aI (by simp(disch:=try exact dI) only[hd,push_cast,seval]),by omega,by omega⟩
   | false=>
     rw[if_neg (by decide)] at hd
     simp(disch:=try exact dI) only[em,h0,hx,Option.map_some,Fld.pv_mk,Val.pv_mk,ag,push_cast,seval]
     refine ae hN rfl ?_
     simp(disch:=try exact dI) only[hx,Option.map_some,Fld.pv_mk,Val.pv_mk,ag,push_cast,seval]
     refine ab.pure h25 rfl ?_
     refine zgZ ?_
     have hnl:nm.length<=140737488351232:=by rw[Fld.ok_mk] at hxo;exact hxo.1
     refine am ([]) (fun j:Nat=>[(5,.pv (.int .i64 (j:Int)))]) (fun _=>[]) (fun j=>j<=L.length/\n9 (Fld.mk nm (Val.mk vk vn vs vt vl vf)) L=L.take j++n9 (Fld.mk nm (Val.mk vk vn vs vt vl vf)) (L.drop j)) (fun j=>L.length - j) (0) ?_;intro e0 σ0 n0 h0;simp(disch:=try exact dI) only[push_cast,seval] at h0;obtain⟨rfl,rfl,rfl⟩:=h0;refine⟨?_,?_,?_⟩
     ·exact qsZ
     ·exact⟨by omega,by simp⟩
     rintro j ⟨hj,hins⟩
     have hcase:(∃ y,L[j]? = some y/\Lib.compareBytes y.name nm<0)\/(∃ y,L[j]? = some y/\¬ Lib.compareBytes y.name nm<0)\/L[j]? = none:=by
      cases hy:L[j]? with
      | none=>exact .inr (.inr rfl)
      | some y => by_cases hc:Lib.compareBytes y.name nm<0
                  ·exact .inl ⟨y,rfl,hc⟩
                  ·exact .inr (.inl ⟨y,rfl,hc⟩)
     rcases hcase with ⟨y,hy,hc⟩ | ⟨y,hy,hc⟩ | hy
     ·have hjl:=(List.getElem?_eq_some_iff.1 hy).1
      have hjI:(j:Int)<(L.length:Int):=by omega
      have hin2:=Kw L j hins y hy hc
      have hyo:=hLo y (List.mem_of_getElem? hy)
      obtain⟨yn,⟨yk,ya,ys,yt,yl,yf⟩⟩:=y
      rw[Fld.ok_mk] at hyo
      have h68:=sJ yn nm hyo.1 hnl
      simp only[Fld.name] at hc
      generalize Lib.compareBytes yn nm=z at *
      simp(disch:=try exact dI) only[hjI,hy,hx,Option.map_some,Fld.pv_mk,Val.pv_mk,ag,push_cast,seval]
      refine ab.pure h68 rfl ?_
      simp(disch:=try exact dI) only[hc,push_cast,seval]
      exact⟨j+1,aI qsZ,⟨by omega,hin2⟩,by omega⟩
     ·have hjl:=(List.getElem?_eq_some_iff.1 hy).1
      have hfin:=pw hins (fun y2 hy2=>by rw[hy] at hy2;cases hy2;exact hc)
      have hjI:(j:Int)<(L.length:Int):=by omega
      have hcut:=Ra L j
      have htk:(L.map Fld.pv).take j=(L.take j).map Fld.pv:=(List.map_take ..).symm
      rw[hfin] at hd
      have hyo:=hLo y (List.mem_of_getElem? hy)
      obtain⟨yn,⟨yk,ya,ys,yt,yl,yf⟩⟩:=y
      rw[Fld.ok_mk] at hyo
      have h68:=sJ yn nm hyo.1 hnl
      simp only[Fld.name] at hc
      generalize Lib.compareBytes yn nm=z at *
      simp(disch:=try exact dI) only[hjI,hy,hx,Option.map_some,Fld.pv_mk,Val.pv_mk,ag,push_cast,seval]
      refine ab.pure h68 rfl ?_
      simp(disch:=try exact dI) only[hc,hx,Option.map_some,Fld.pv_mk,Val.pv_mk,ag,htk,hcut,O8,push_cast,seval]
      exact⟨m,aI (by simp(disch:=try exact dI) only[hd,List.map_append,List.map_cons,Fld.pv_mk,Val.pv_mk,push_cast,seval]),by omega,by omega⟩
     ·have hjl:j=L.length:=by
       rw[List.getElem?_eq_none_iff] at hy;omega
      have hfin:=pw hins (fun y hy2=>by rw[hy] at hy2;cases hy2)
      have hjI:¬ (j:Int)<(L.length:Int):=by omega
      have hcut:=Ra L j
      have htk:(L.map Fld.pv).take j=(L.take j).map Fld.pv:=(List.map_take ..).symm
      simp(disch:=try exact dI) only[hjI,hx,Option.map_some,Fld.pv_mk,Val.pv_mk,ag,htk,hcut,O8,push_cast,seval]
      rw[hfin] at hd
      exact⟨m,aI (by simp(disch:=try exact dI) only[hd,List.map_append,List.map_cons,Fld.pv_mk,Val.pv_mk,push_cast,seval]),by omega,by omega⟩
def eqL (p:PV->PV->Bool):List PV->List PV->Bool
 | [],[]=>true
 | x::r,y::q=>p x y&&eqL p r q
 | _,_=>false
def eqP:Nat->PV->PV->Bool
 | n+1,.int k a,.int k' b=>decide (k=k')&&decide (a=b)
 | n+1,.str a,.str b=>decide (a=b)
 | n+1,.nils,.nils=>true
 | n+1,.agg a,.agg b=>eqL (eqP n) a b
 | n+1,.list a,.list b=>eqL (eqP n) a b
 | _,_,_=>false
theorem Cr {p:PV->PV->Bool}(hp:∀ x y,p x y=true->x=y):∀ a b,eqL p a b=true->a=b
 | [],[],_=>rfl
 | x::r,y::q,h=>by
   simp only[eqL,Bool.and_eq_true] at h
   rw[hp x y h.1,Cr hp r q h.2]
 | [],y::q,h=>by simp[eqL] at h
 | x::r,[],h=>by simp[eqL] at h
theorem pK:∀ n x y,eqP n x y=true->x=y
 | 0,x,y,h=>by simp[eqP] at h
 | n+1,x,y,h=>by
   unfold eqP at h
   split at h
   ·simp only[Bool.and_eq_true,decide_eq_true_eq] at h;rw[h.1,h.2]
   ·simp only[decide_eq_true_eq] at h;rw[h]
   ·rfl
   ·rw[Cr (pK _) _ _ h]
   ·rw[Cr (pK _) _ _ h]
   ·cases h
def N1:List PV:=[.agg [.int .i64 1,.str [105,100],.int .i64 1,.int .i64 2,.int .i64 0,.int .i64 999,.int .i64 0,.nils,.nils,.nils,.nils],.agg [.int .i64 2,.str [110,97,109,101],.int .i64 2,.int .i64 4,.int .i64 1,.int .i64 5,.int .i64 0,.nils,.nils,.nils,.nils],.agg [.int .i64 3,.str [100,97,121],.int .i64 1,.int .i64 6,.int .i64 0,.int .i64 30000,.int .i64 0,.nils,.nils,.nils,.nils]]
def PL:PV:=.agg [.int .i64 9,.int .i64 0,.int .i64 0,.int .i64 0,.nils,.nils,.list N1]
def ST:List PV:=[.agg [.str [105,100],.int .i64 2,.int .i64 7,.int .i64 0,.str [],.nils,.nils],.agg [.str [110,97,109,101],.int .i64 4,.int .i64 0,.int .i64 0,.str [97,98],.nils,.nils],.agg [.str [100,97,121],.int .i64 6,.int .i64 20773,.int .i64 0,.str [],.nils,.nils]]
def N0:PV:=.agg [.int .i64 9,.int .i64 0,.int .i64 0,.str [],.nils,.list [.agg [.str [100,97,121],.int .i64 6,.int .i64 20773,.int .i64 0,.str [],.nils,.nils],.agg [.str [105,100],.int .i64 2,.int .i64 7,.int .i64 0,.str [],.nils,.nils],.agg [.str [110,97,109,101],.int .i64 4,.int .i64 0,.int .i64 0,.str [97,98],.nils,.nils]]]
def Kq:PV:=.str [32,32,55,97,98,32,32,32,50,48,50,54,45,49,49,45,49,54]
def My:PV:=.list [.int .i64 3,.int .i64 5,.int .i64 10]
def Qy (f:Nat)(ps:List PV):Option PV:=
 match f with
 | 137=>match ps with
   | [.int .i64 n]=>if -9223372036854775808<=n/\n<=9223372036854775807 then some (.str (lJ n)) else none
   | _=>none
 | 113=>match ps with
   | [.str a,.str b]=>some (.int .i64 (Lib.compareBytes a b))
   | _=>none
 | 207=>match ps with
   | [.str a]=>some (.bool (Lib.validD a))
   | _=>none
 | 45=>match ps with
   | [.str a,.int .i64 n]=>if 0<=n/\n<=9223372036854775807/\a.length*n.toNat<=140737488355328 then some (.str (Lib.repeatL a n.toNat)) else none
   | _=>none
 | _=>none
theorem iy:∀ f ps r,Qy f ps=some r->ak Tryz.prog ap f ps r:=by
 intro f ps r h
 unfold Qy at h
 split at h
 ·split at h
  ·split at h
   ·rename_i hh;cases h;exact BA _ hh.1 hh.2
   ·cases h
  ·cases h
 ·split at h
  ·cases h;exact xC _ _
  ·cases h
 ·split at h
  ·cases h;exact cw _
  ·cases h
 ·split at h
  ·split at h
   ·rename_i hh;cases h;exact ow _ _ hh.1 hh.2.1 hh.2.2
   ·cases h
  ·cases h
 ·cases h
noncomputable def gFn (p:Nat×List Nat):TabRow:=⟨p.1,p.2,(cFn Tryz.prog p.2 p.1).getD ⟨0,[],.skip⟩⟩
theorem lU {l:List (Nat×List Nat)}(h:(l.all fun p=>(cFn Tryz.prog p.2 p.1).isSome)=true):∀ r∈l.map gFn,cFn Tryz.prog r.muts r.f=some r.fn:=by
 intro r hr
 obtain⟨p,hp,rfl⟩:=List.mem_map.1 hr
 have h:=List.all_eq_true.1 h p hp
 simp only[gFn]
 cases h':cFn Tryz.prog p.2 p.1 with
 | some x=>rfl
 | none=>rw[h'] at h;cases h
def HO:List (Nat×List Nat):=[(14,[]),(11,[]),(12,[]),(42,[]),(43,[]),(44,[]),(39,[]),(46,[14]),(47,[]),(23,[]),(33,[]),(53,[]),(55,[33]),(34,[]),(35,[]),(36,[]),(37,[]),(81,[]),(82,[]),(83,[]),(85,[]),(87,[]),(88,[]),(91,[]),(92,[]),(77,[]),(78,[]),(79,[]),(97,[19]),(105,[]),(106,[]),(107,[]),(108,[]),(109,[]),(110,[]),(111,[]),(112,[]),(69,[]),(74,[]),(76,[]),(135,[]),(136,[]),(138,[]),(139,[]),(140,[]),(141,[]),(142,[]),(143,[]),(145,[]),(146,[]),(132,[]),(133,[]),(149,[]),(156,[]),(160,[]),(164,[]),(165,[]),(166,[]),(168,[]),(170,[]),(171,[]),(123,[]),(124,[]),(129,[]),(130,[]),(195,[]),(193,[]),(196,[]),(197,[]),(198,[]),(199,[]),(206,[44]),(210,[]),(211,[]),(212,[]),(213,[]),(215,[]),(224,[]),(258,[]),(228,[]),(178,[]),(179,[]),(181,[]),(242,[]),(247,[]),(248,[12]),(250,[]),(251,[]),(252,[]),(229,[]),(230,[]),(232,[]),(277,[]),(278,[]),(259,[]),(304,[])]
theorem lW:(HO.all fun p=>(cFn Tryz.prog p.2 p.1).isSome)=true:=by kernel_rfl
theorem Ow:ak Tryz.prog ap 53 [.str [32,32,55],N1.getD 0 .undef] (.tup [.agg [.int .i64 2,.int .i64 7,.int .i64 0,.str [],.nils,.nils],.int .i64 0]):=ak.of_ex (m:=5000) (n:=60) (lU lW) iy (by kernel_rfl)
theorem Ov:ak Tryz.prog ap 53 [.str [97,98,32,32,32],N1.getD 1 .undef] (.tup [.agg [.int .i64 4,.int .i64 0,.int .i64 0,.str [97,98],.nils,.nils],.int .i64 0]):=ak.of_ex (m:=5000) (n:=60) (lU lW) iy (by kernel_rfl)
theorem Ou:ak Tryz.prog ap 53 [.str [50,48,50,54,45,49,49,45,49,54],N1.getD 2 .undef] (.tup [.agg [.int .i64 6,.int .i64 20773,.int .i64 0,.str [],.nils,.nils],.int .i64 0]):=ak.of_ex (m:=5000) (n:=60) (lU lW) iy (by kernel_rfl)
theorem EP:ak Tryz.prog ap 55 [.list ST] N0:=ak.of_ex (m:=5000) (n:=60) (lU lW) iy (by kernel_rfl)
theorem Nf:ak Tryz.prog ap 12 [PL,My] (.int .i64 0):=ak.of_ex (m:=5000) (n:=60) (lU lW) iy (by kernel_rfl)
theorem Cl (a:Int):bK Tryz.prog ap 1 54 [.ptr 0 0,.pv (.int .i64 a),.pv (.int .i64 0)] [.cells 94 true [.pv (.int .i64 0),.pv (.int .i64 0)]] (.pv (.tup [])) [.cells 94 true [.pv (.int .i64 0),.pv (.int .i64 0)]]:=by
 refine bK.intro Q54.2 (by simp[Q54]) ?_
 simp(maxSteps:=9^7) (disch:=try exact dI) only[Q54,push_cast,seval]
 exact aJ [] qsZ
theorem rF1 (sz:Nat)(l:List PV):dD sz l 1=cK sz l 1 l[1]?:=_root_.id rfl
theorem rF2 (sz:Nat)(l:List PV):dD sz l 2=cK sz l 2 l[2]?:=_root_.id rfl
theorem nE (cs:List PV):bv [PV.agg cs]=cs.map AV.pv:=by simp[bv,PV.cells]
def fc0:List PV:=[.str [105,100],.int .i64 2,.int .i64 7,.int .i64 0,.str [],.nils,.nils]
def fc1:List PV:=[.str [110,97,109,101],.int .i64 4,.int .i64 0,.int .i64 0,.str [97,98],.nils,.nils]
def fc2:List PV:=[.str [100,97,121],.int .i64 6,.int .i64 20773,.int .i64 0,.str [],.nils,.nils]
def LS (i:Nat):List AV:=((if i=0 then [] else if i=1 then fc0 else if i=2 then fc0++fc1 else fc0++(fc1++fc2)):List PV).map .pv
theorem HR:LS 0=[]:=rfl
theorem HQ:LS 1=fc0.map .pv:=rfl
theorem HP:LS 2=(fc0++fc1).map .pv:=rfl
theorem M6:LS 3=(fc0++(fc1++fc2)).map .pv:=rfl
theorem SS:KG 7 3 5 (.cells 60 false (LS 3))=some (.list [.agg fc0,.agg fc1,.agg fc2],[5]):=by kernel_rfl
theorem GU:ak Tryz.prog ap 17 [PL,My,Kq] (.tup [N0,.int .i64 0,.int .i64 0]):=by
 have h20:=Nf
 have h35:=qH [3,5,10] (by decide)
 rw[show Is [3,5,10]=false by decide,if_neg (by decide),if_neg (by decide),show jY [3,5,10]=18 from rfl,show PV.list (bX [3,5,10])=My from rfl] at h35
 have h36:=Cb [32,32,55,97,98,32,32,32,50,48,50,54,45,49,49,45,49,54] 18
 rw[show f9 ([32,32,55,97,98,32,32,32,50,48,50,54,45,49,49,45,49,54]:List UInt8).length 18=0 from rfl] at h36
 have h37:=Da [32,32,55,97,98,32,32,32,50,48,50,54,45,49,49,45,49,54] (ct [3,5,10])
 have hseq:=pS [32,32,55,97,98,32,32,32,50,48,50,54,45,49,49,45,49,54] [3,5,10] (by decide) (by decide) (by decide)
 have ha:ak Tryz.prog ap 53 [.str [32,32,55],.agg [.int .i64 1,.str [105,100],.int .i64 1,.int .i64 2,.int .i64 0,.int .i64 999,.int .i64 0,.nils,.nils,.nils,.nils]] (.tup [.agg [.int .i64 2,.int .i64 7,.int .i64 0,.str [],.nils,.nils],.int .i64 0]):=Ow
 have hb:ak Tryz.prog ap 53 [.str [97,98,32,32,32],.agg [.int .i64 2,.str [110,97,109,101],.int .i64 2,.int .i64 4,.int .i64 1,.int .i64 5,.int .i64 0,.nils,.nils,.nils,.nils]] (.tup [.agg [.int .i64 4,.int .i64 0,.int .i64 0,.str [97,98],.nils,.nils],.int .i64 0]):=Ov
 have hc:ak Tryz.prog ap 53 [.str [50,48,50,54,45,49,49,45,49,54],.agg [.int .i64 3,.str [100,97,121],.int .i64 1,.int .i64 6,.int .i64 0,.int .i64 30000,.int .i64 0,.nils,.nils,.nils,.nils]] (.tup [.agg [.int .i64 6,.int .i64 20773,.int .i64 0,.str [],.nils,.nils],.int .i64 0]):=Ou
 have hr:ak Tryz.prog ap 55 [.list [.agg fc0,.agg fc1,.agg fc2]] N0:=EP
 have hi0:(dA [32,32,55,97,98,32,32,32,50,48,50,54,45,49,49,45,49,54] [3,5,10])[0]? = some [.int .i64 0,.str [32,32,55]]:=by kernel_rfl
 have hi1:(dA [32,32,55,97,98,32,32,32,50,48,50,54,45,49,49,45,49,54] [3,5,10])[1]? = some [.int .i64 3,.str [97,98,32,32,32]]:=by kernel_rfl
 have hi2:(dA [32,32,55,97,98,32,32,32,50,48,50,54,45,49,49,45,49,54] [3,5,10])[2]? = some [.int .i64 8,.str [50,48,50,54,45,49,49,45,49,54]]:=by kernel_rfl
 have hlx:(dA [32,32,55,97,98,32,32,32,50,48,50,54,45,49,49,45,49,54] [3,5,10]).length=3:=rfl
 generalize hX:dA [32,32,55,97,98,32,32,32,50,48,50,54,45,49,49,45,49,54] [3,5,10]=X at *
 have hw:My = .list (ct [3,5,10]):=rfl
 simp only[Kq]
 refine ak.intro Q17.2 (by simp[Q17]) ?_
 simp(maxSteps:=9^7) (disch:=try exact dI) only[Q17,PL,N1,push_cast,seval]
 refine ab.pure h20 rfl ?_
 simp(maxSteps:=9^7) (disch:=try exact dI) only[push_cast,seval]
 refine ab.pure h35 rfl ?_
 simp(maxSteps:=9^7) (disch:=try exact dI) only[push_cast,seval]
 refine ab.pure h36 rfl ?_
 simp(maxSteps:=9^7) (disch:=try exact dI) only[push_cast,seval]
 refine ab.pure h37 rfl ?_
 simp(maxSteps:=9^7) (disch:=try exact dI) only[push_cast,seval]
 refine sB ([(14,1,1000060,7)]) (fun i:Nat=>[]) (fun i:Nat=>[(2,.cells 34 true [.row 5 7 0 i]),(3,.cells 3 true [.pv (.int .i64 (i:Int))]),(5,.cells 60 false (LS i))]) (fun j i=>j=i/\i<=3) (0) (hseq) ?_;intro e0 σ0 n0 h0;simp(maxSteps:=9^7) (disch:=try exact dI) only[push_cast,seval] at h0;obtain⟨rfl,rfl,rfl⟩:=h0;refine⟨?_,?_,?_,?_,?_⟩
 ·simp(maxSteps:=9^7) (disch:=try exact dI) only[HR,push_cast,seval]
 ·exact⟨rfl,by omega⟩
 ·rfl
 ·rintro j i y hy ⟨hij,hi⟩
  subst hij
  have hj3:j<3:=by have:=(List.getElem?_eq_some_iff.1 hy).1;omega
  have hjc:j=0\/j=1\/j=2:=by omega
  clear hr h20 h35 h36 h37 hseq
  rcases hjc with rfl | rfl | rfl
  ·rw[hi0] at hy
   obtain rfl:=Option.some.inj hy
   refine⟨rfl,?_⟩
   simp(maxSteps:=9^7) (disch:=try exact dI) only[HR,au,push_cast,seval]
   refine ab.pure ha rfl ?_
   simp(maxSteps:=9^7) (disch:=try exact dI) only[push_cast,seval]
   refine ab.lentK (Cl 0) [4] rfl qsZ qsZ ?_
   simp(maxSteps:=9^7) (disch:=try exact dI) only[au,nE,List.map_cons,List.map_nil,List.cons_append,List.nil_append,List.drop_succ_cons,List.drop_zero,push_cast,seval]
   exact⟨1,aI (by simp(maxSteps:=9^7) (disch:=try exact dI) only[HQ,fc0,push_cast,seval]),rfl,by omega⟩
  ·rw[hi1] at hy
   obtain rfl:=Option.some.inj hy
   refine⟨rfl,?_⟩
   simp(maxSteps:=9^7) (disch:=try exact dI) only[HQ,fc0,rF1,push_cast,seval]
   refine ab.pure hb rfl ?_
   simp(maxSteps:=9^7) (disch:=try exact dI) only[push_cast,seval]
   refine ab.lentK (Cl 3) [4] rfl qsZ qsZ ?_
   simp(maxSteps:=9^7) (disch:=try exact dI) only[rF1,nE,List.map_cons,List.map_nil,List.cons_append,List.nil_append,List.drop_succ_cons,List.drop_zero,push_cast,seval]
   exact⟨2,aI (by simp(maxSteps:=9^7) (disch:=try exact dI) only[HP,fc0,fc1,push_cast,seval]),rfl,by omega⟩
  ·rw[hi2] at hy
   obtain rfl:=Option.some.inj hy
   refine⟨rfl,?_⟩
   simp(maxSteps:=9^7) (disch:=try exact dI) only[HP,fc0,fc1,rF2,push_cast,seval]
   refine ab.pure hc rfl ?_
   simp(maxSteps:=9^7) (disch:=try exact dI) only[push_cast,seval]
   refine ab.lentK (Cl 8) [4] rfl qsZ qsZ ?_
   simp(maxSteps:=9^7) (disch:=try exact dI) only[rF2,nE,List.map_cons,List.map_nil,List.cons_append,List.nil_append,List.drop_succ_cons,List.drop_zero,push_cast,seval]
   exact⟨3,aI (by simp(maxSteps:=9^7) (disch:=try exact dI) only[M6,fc0,fc1,fc2,push_cast,seval]),rfl,by omega⟩
 ·rintro j ⟨hj,hi⟩
  rw[hlx] at hj
  subst hj
  simp(maxSteps:=9^7) (disch:=try exact dI) only[SS,push_cast,seval]
  refine ab.pure hr rfl ?_
  simp(maxSteps:=9^7) (disch:=try exact dI) only[N0,push_cast,seval]
theorem SJ {T:Nat}{p:PV}{g:Nat}{lb:List PV}{xs:List (List PV)}(h:L6 Tryz.prog ap g lb xs):L6 Tryz.prog (d6 T p) g lb xs:=by
 have key:∀ g,ap g≠[]->d6 T p g=ap g:=by
  intro g hg
  unfold d6
  by_cases h0:g=4
  ·subst h0;exact absurd rfl hg
  ·rw[if_neg h0]
 refine⟨h.1,fun w imm lbv l J Jx O hG h1 h2 h3 h4 h5 hy hJ=>h.2 w imm lbv l J Jx O (NR hG) h1 h2 h3 h4 h5 (fun m i x O W vals imm' kp a b c d e f g'=>?_) hJ⟩
 refine (hy m i x O W vals imm' kp a b c d e f g').mono ?_
 rintro e W' (⟨a1,a2,a3,a4,a5⟩ | hh)
 ·refine .inl ⟨a1,a2,a3,a4,fun g hg=>?_⟩
  have:=a5 g (by rw[key g hg];exact hg)
  rwa [key g hg] at this
 ·exact .inr hh
theorem QF {T:Nat}{p:PV}{k f:Nat}{args:List AV}{bs:List Blk}{v:AV}{bs':List Blk}(h:bK Tryz.prog ap k f args bs v bs'):bK Tryz.prog (d6 T p) k f args bs v bs':=by
 have key:∀ g,ap g≠[]->d6 T p g=ap g:=by
  intro g hg
  unfold d6
  by_cases h0:g=4
  ·subst h0;exact absurd rfl hg
  ·rw[if_neg h0]
 obtain⟨hc,h⟩:=h
 refine⟨hc,fun κ vals hS hf hsz hv=>?_⟩
 have hS1:SRel (bY κ (fun r=>lookB r (bG bs 0)) ap) κ (fun r=>lookB r (bG bs 0)):=by
  refine⟨hS.blk,hS.apart,hS.mine,hS.immLt,fun g o p hp=>hS.glob.1 g o p ?_,fun g hg=>?_⟩
  ·show (d6 T _ g)[o]? = some p
   have hp':(ap g)[o]? = some p:=hp
   rw[key g (by intro e;rw[e] at hp';simp at hp')];exact hp'
  ·have hg':ap g≠[]:=hg
   have:=hS.glob.2 g (show d6 T _ g≠[] by rw[key g hg'];exact hg')
   obtain⟨h1,h2,cs,T',fz,h3,h4⟩:=this
   exact⟨h1,h2,cs,T',fz,h3,h4.trans (congrArg List.length (key g hg'))⟩
 refine (h κ vals hS1 hf hsz hv).mono ?_
 rintro e w' ⟨u,v',κ',sto',next',h1,h2,he,hL,hv',hS',hf',hQ⟩
 exact⟨u,v',κ',sto',next',h1,h2,he,⟨hL.os,hL.tape,hL.output,hL.size,hL.block,hL.imm⟩,hv',⟨hS'.blk,hS'.apart,hS'.mine,hS'.immLt,SRel.glob_ext (κ:=κ.cut k) he hS.glob hL.block⟩,hf',hQ⟩
theorem NW (a e b z:Int):bK Tryz.prog ap 1 54 [.ptr 0 0,.pv (.int .i64 b),.pv (.int .i64 z)] [.cells 94 true [.pv (.int .i64 a),.pv (.int .i64 e)]] (.pv (.tup [])) [.cells 94 true [.pv (.int .i64 (if e=0 then (if z=0 then a else b) else a)),.pv (.int .i64 (if e=0 then z else e))]]:=by
 refine bK.intro Q54.2 (by simp[Q54]) ?_
 by_cases h1:e=0
 ·subst h1
  rw[if_pos rfl,if_pos rfl]
  by_cases h2:z=0
  ·subst h2
   rw[if_pos rfl]
   simp(maxSteps:=9^7) (disch:=try exact dI) only[Q54,push_cast,seval]
   exact aJ [] qsZ
  ·rw[if_neg h2]
   simp(maxSteps:=9^7) (disch:=try exact dI) only[Q54,h2,push_cast,seval]
   exact aJ [] qsZ
 ·rw[if_neg h1,if_neg h1]
  simp(maxSteps:=9^7) (disch:=try exact dI) only[Q54,h1,push_cast,seval]
  exact aJ [] qsZ
theorem MC (v:Val):∃ (a b c:Int) (d:List UInt8) (p q:PV),v.pv = .agg [.int .i64 a,.int .i64 b,.int .i64 c,.str d,p,q]/\p.one=true/\q.one=true:=by
 obtain⟨k,n,s,t,l,f⟩:=v
 exact⟨k,n,s,t,.list (l.map Val.pv),.list (f.map Fld.pv),by rw[Val.pv_mk],rfl,rfl⟩
theorem jR (k n s:Int)(t:List UInt8):∃ (a b c:Int) (d:List UInt8) (p q:PV),eP k n s t = .agg [.int .i64 a,.int .i64 b,.int .i64 c,.str d,p,q]/\p.one=true/\q.one=true:=⟨k,n,s,t,.nils,.nils,rfl,rfl,rfl⟩
theorem se (g:TFd)(s:List UInt8):∃ (a b c:Int) (d:List UInt8) (p q:PV),DT g s = .agg [.int .i64 a,.int .i64 b,.int .i64 c,.str d,p,q]/\p.one=true/\q.one=true:=by
 unfold DT
 split
 ·unfold uK
  split
  ·exact jR _ _ _ _
  ·split
   ·exact jR 0 0 0 []
   ·split
    ·unfold DS
     split
     ·exact jR 0 0 0 []
     ·exact MC _
    ·exact jR 0 0 0 []
 ·obtain⟨a,b,c,d,h⟩:=yK g.typ.kind (rdR g.typ (cm g.typ.kind s))
  rw[h];exact jR _ _ _ _
def fC (x:TFd×List UInt8):PV:=.agg (.str x.1.name::(DT x.1 x.2).cells)
theorem NY (x:TFd×List UInt8):∃ cs,fC x = .agg cs/\cs.length=7/\∀ q∈cs,q.one=true:=by
 obtain⟨a,b,c,d,p,q,h,hp,hq⟩:=se x.1 x.2
 refine⟨_,rfl,by rw[h];rfl,fun y hy=>?_⟩
 rw[h] at hy
 simp only[PV.cells,List.mem_cons,List.not_mem_nil,or_false] at hy
 rcases hy with rfl | rfl | rfl | rfl | rfl | rfl | rfl<;>first | rfl | assumption
def eQ (L:List (TFd×List UInt8)):List PV:=L.flatMap fun x=>(fC x).cells
theorem vH (L:List (TFd×List UInt8)):bv (L.map fC)=(eQ L).map AV.pv:=by
 induction L with
 | nil=>rfl
 | cons x r ih=>
   have:bv ((x::r).map fC)=(fC x).cells.map AV.pv++bv (r.map fC):=by simp[bv]
   rw[this,ih];simp[eQ]
theorem zw (L:List (TFd×List UInt8)):(eQ L).length=L.length*7:=by
 induction L with
 | nil=>rfl
 | cons x r ih=>
   have hx:(fC x).cells.length=7:=by obtain⟨cs,h,h2,_⟩:=NY x;rw[h];exact h2
   rw[show eQ (x::r)=(fC x).cells++eQ r by simp[eQ],List.length_append,hx,ih,List.length_cons];omega
theorem vG (L:List (TFd×List UInt8))(x:TFd×List UInt8):eQ (L++[x])=eQ L++(fC x).cells:=by simp[eQ]
end Go.Proofs.YtbojpfpliibfbaaGreatDoor
