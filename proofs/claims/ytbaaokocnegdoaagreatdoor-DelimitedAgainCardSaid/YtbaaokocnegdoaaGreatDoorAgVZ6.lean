/- A part of the proof. -/
import Derived.Test.YtbaaokocnegdoaaGreatDoorAgVZ3
import Derived.Test.YtbaaokocnegdoaaGreatDoorAgVSh6
set_option linter.unusedVariables false
set_option linter.unusedSimpArgs false
set_option maxHeartbeats 16000000
set_option maxRecDepth 100000
namespace Go.Proofs.YtbaaokocnegdoaaGreatDoor
open Go Go.Ab
attribute [local irreducible] vc
def nI (nm:List UInt8)(g:Fld):Bool:=decide (g.name=nm)&&!bz g.value
def Ec (nm:List UInt8)(k n s:Int)(t:List UInt8)(l:List Val)(f:List Fld):List AV:=[.pv (.str nm),.pv (.int .i64 k),.pv (.int .i64 n),.pv (.int .i64 s),.pv (.str t),.pv (.list (l.map Val.pv)),.pv (.list (f.map Fld.pv))]
section
variable (nm:List UInt8)(k n s:Int)(t:List UInt8)(l:List Val)(f:List Fld)
theorem Qt (g:Fld):bk Tryz.prog au 1 110 [.pv g.pv,.ptr 0 0] [.cells 83 true (Ec nm k n s t l f)] (.pv (.bool (nI nm g))) [.cells 83 true (Ec nm k n s t l f)]:=by
 obtain⟨nm',v⟩:=g
 have hN:=sK v
 rw[show nI nm (.mk nm' v)=(decide (nm'=nm)&&!bz v) from rfl]
 generalize bz v=B at *
 obtain⟨k',n',s',t',l',f'⟩:=v
 simp only[Val.pv_mk] at hN
 by_cases h1:nm'=nm
 ·rw[decide_eq_true h1,Bool.true_and]
  refine bk.intro KM.2 (by simp[KM]) ?_
  simp(disch:=try exact dI) only[KM,Fld.pv_mk,Val.pv_mk,h1,Ec,ak,List.cons_append,List.nil_append,push_cast,seval]
  refine ab.pure hN rfl ?_
  refine zgZ ?_
  exact aA [] qsZ
 ·rw[decide_eq_false h1,Bool.false_and]
  refine bk.intro KM.2 (by simp[KM]) ?_
  simp(disch:=try exact dI) only[KM,Fld.pv_mk,Val.pv_mk,h1,Ec,ak,List.cons_append,List.nil_append,push_cast,seval]
  exact aA [] qsZ
theorem Ii (L:List Fld)(hl:L.length<=9000000000000) :
  bk Tryz.prog au 1 151 [.pv (.list (L.map Fld.pv)),.clo 110 [] [.ptr 0 0]] [.cells 83 true (Ec nm k n s t l f)] (.pv (.int .i64 (gq (nI nm) L 0))) [.cells 83 true (Ec nm k n s t l f)]:=by
 have hq:=fun x=>Qt nm k n s t l f x
 generalize nI nm=q at *
 simp only[Ec] at hq ⊢
 refine bk.intro KI.2 (by simp[KI]) ?_
 simp(disch:=try exact dI) only[KI,push_cast,seval]
 refine aC ([]) (fun m:Nat=>[(8,.pv (.int .i64 (m:Int)))]) (fun m=>[]) (fun m=>m<=L.length/\gq q L 0=gq q (L.drop m) m) (fun m=>L.length - m) (0) ?_;intro e0 σ0 n0 h0;simp(disch:=try exact dI) only[push_cast,seval] at h0;obtain⟨rfl,rfl,rfl⟩:=h0;refine⟨?_,?_,?_⟩
 ·exact qsZ
 ·exact⟨by omega,by simp⟩
 ·rintro m ⟨hm,he⟩
  by_cases hlt:m<L.length
  ·have hltI:(m:Int)<L.length:=by omega
   obtain⟨x,hx⟩:∃ x,L[m]? = some x:=⟨_,List.getElem?_eq_getElem hlt⟩
   have hcall:=hq x
   simp(disch:=try exact dI) only[hx,Fld.cells_len,Fld.isAgg,push_cast,seval]
   refine ab.lentK hcall [0] rfl qsZ qsZ ?_
   cases hqx:q x with
   | true=>
     rw[he,iR hx hqx]
     refine zgZ ?_
     exact aA [] qsZ
   | false=>
     rw[fB hx hqx] at he
     refine zgZ ?_
     exact⟨m+1,aR qsZ,⟨by omega,he⟩,by omega⟩
  ·have hltI:¬ (m:Int)<L.length:=by omega
   rw[he,iS hlt]
   refine zgZ ?_
   exact aA [] qsZ
theorem tR (L:List Fld)(hl:L.length<=9000000000000)(hno:L.any (nI nm)=false) :
  bk Tryz.prog au 1 109 [.pv (.list (L.map Fld.pv)),.clo 110 [] [.ptr 0 0]] [.cells 83 true (Ec nm k n s t l f)] (.pv (.bool false)) [.cells 83 true (Ec nm k n s t l f)]:=by
 have h94:=Ii nm k n s t l f L hl
 have hfa:=gV (p:=nI nm) L
 rw[hno] at hfa
 simp only[Ec] at h94 ⊢
 refine bk.intro Rn.2 (by simp[Rn]) ?_
 rcases cG (p:=nI nm) L 0 with ⟨h1,h2⟩ | ⟨k,x,h1,h2,h3⟩
 ·rw[h2] at h94
  simp(disch:=try exact dI) only[Rn,push_cast,seval]
  refine ab.lentK h94 [0] rfl qsZ qsZ ?_
  refine zgZ ?_
  exact aA [] qsZ
 ·rw[h2] at hfa;cases hfa
end
theorem T3 (l:List Fld)(i:Nat):pI 7 (l.map Fld.pv) l.length (some i)=some (.pv (.list ((l.drop i).map Fld.pv))):=by
 have hs:JN 7 (l.map Fld.pv) i=true:=by
  cases i with
  | zero=>rfl
  | succ a=>
    unfold JN
    simp only[List.getElem?_map]
    cases l[a+1]? with
    | none=>rfl
    | some x=>simp[Fld.cells_len]
 rw[mR hs,List.take_of_length_le (by rw[List.length_map];exact Nat.le_refl _),List.map_drop]
theorem M4 (x:Fld):∃ cs,x.pv = .agg cs/\cs.length=7/\∀ q∈cs,q.one=true:=by
 obtain⟨nm,⟨k,n,s,t,l,fs⟩⟩:=x
 refine⟨_,by rw[Fld.pv_mk,Val.pv_mk],rfl,fun q hq=>?_⟩
 simp only[PV.cells,List.cons_append,List.nil_append,List.mem_cons,List.not_mem_nil,or_false] at hq
 rcases hq with rfl | rfl | rfl | rfl | rfl | rfl | rfl<;>rfl
theorem S5 (l:List Fld)(hl:l.length<=65540)(nm:List UInt8)(w1 w2 w3:Int)(w4:List UInt8)(w5:List Val)(w6:List Fld)(new q:Nat) :
  re 83 7 104 new q 7 0 l.length [.agg [.str nm,.int .i64 w1,.int .i64 w2,.int .i64 w3,.str w4,.list (w5.map Val.pv),.list (w6.map Fld.pv)]] (.cells 83 false (bp (l.map Fld.pv))) =
   some (.row new 7 0 (l.length+1),[(q,.none),(new,.cells 83 false (bp ((l++[Fld.mk nm (.mk w1 w2 w3 w4 w5 w6)]).map Fld.pv)))]):=by
 rw[oA (by rw[cK];exact Nat.le_refl _) (by simp;omega) (by simp;omega),List.take_of_length_le (by rw[cK];exact Nat.le_refl _)]
 have e:bp ((l++[Fld.mk nm (.mk w1 w2 w3 w4 w5 w6)]).map Fld.pv)=bp (l.map Fld.pv)++bp [.agg [.str nm,.int .i64 w1,.int .i64 w2,.int .i64 w3,.str w4,.list (w5.map Val.pv),.list (w6.map Fld.pv)]]:=by
  simp only[bp,List.map_append,List.flatMap_append,List.map_cons,List.map_nil]
  rw[Fld.pv_mk,Val.pv_mk];rfl
 rw[e];rfl
def bv (x:Fld):Bool:=!bz x.value
def me (l:List Fld):Val:=.mk 9 0 0 [] [] (srt (l.filter bv))
def fk (l:List Fld):Prop:=(l.map Fld.name).Nodup
theorem CX {l:List Fld}(h:fk l){i:Nat}{x:Fld}(hx:l[i]? = some x):(l.drop (i+1)).any (nI x.name)=false:=by
 rw[List.any_eq_false]
 intro y hy
 unfold nI
 have hne:y.name≠x.name:=by
  intro e
  obtain⟨j,hj,hyj⟩:=List.getElem_of_mem hy
  have hxi:i<l.length:=(List.getElem?_eq_some_iff.1 hx).1
  have hxe:l[i]=x:=(List.getElem?_eq_some_iff.1 hx).2
  rw[List.length_drop] at hj
  rw[List.getElem_drop] at hyj
  have h1:=List.pairwise_iff_getElem.1 h i (i+1+j) (by simpa using hxi) (by rw[List.length_map];omega) (by omega)
  simp only[List.getElem_map] at h1
  rw[hxe,hyj] at h1
  exact h1 e.symm
 simp[hne]
theorem tE {l:List Fld}{i:Nat}{x:Fld}(hx:l[i]? = some x):(l.take (i+1)).filter bv=if bv x=true then (l.take i).filter bv++[x] else (l.take i).filter bv:=by
 rw[aG hx,List.filter_append]
 split
 ·rename_i h;simp[h]
 ·rename_i h;simp[h]
theorem GL (l:List Fld)(hl:l.length<=65000)(hok:∀ x∈l,x.ok)(hnd:fk l):ae Tryz.prog au 59 [.list (l.map Fld.pv)] (me l).pv:=by
 have hfl:∀ i,((l.take i).filter bv).length<=65000:=fun i=>Nat.le_trans (List.length_filter_le _ _) (by rw[List.length_take];omega)
 have hF:(l.filter bv).length<=65000:=Nat.le_trans (List.length_filter_le _ _) hl
 have hcl:ae Tryz.prog au 58 [(me l).pv] (me l).pv:=by
  refine g7 _ _ (Nat.lt_succ_self _) ?_
  unfold me
  rw[Val.ok_mk]
  refine⟨⟨by omega,by omega⟩,⟨by omega,by omega⟩,⟨by omega,by omega⟩,by simp,by simp,by simp,by rw[f0];omega,fun x hx=>?_⟩
  exact hok x (List.mem_filter.1 ((jP _).mem_iff.1 hx)).1
 have hsort:=Lk (G:=au) (l.filter bv) (by omega)
 have hsl:=f0 (l.filter bv)
 have hfz:=fun (n r:Nat) (hn:n=(srt (l.filter bv)).length)=>IG (sz:=7) (f:=Fld.pv) M4 (by omega) (srt (l.filter bv)) (n:=n) (r:=r) (T:=83) (b:=false) hn
 unfold me at hcl ⊢
 refine ae.intro N3.2 (by simp[N3]) ?_
 simp(disch:=try exact dI) only[N3,push_cast,seval]
 refine aC ([(3,6,1000083,7)]) (fun i:Nat=>[(10,.pv (.int .i64 (i:Int)))]) (fun i=>[(1,.cells 31 true [.pv (.int .i64 9),.pv (.int .i64 0),.pv (.int .i64 0),.pv (.str []),.pv .nils,.row 2 7 0 ((l.take i).filter bv).length]),(2,.cells 83 false (bp (((l.take i).filter bv).map Fld.pv)))]) (fun i=>i<=l.length) (fun i=>l.length - i) (0) ?_;intro e0 σ0 n0 h0;simp(disch:=try exact dI) only[push_cast,seval] at h0;obtain⟨rfl,rfl,rfl⟩:=h0;refine⟨?_,?_,?_⟩
 ·simp(disch:=try exact dI) only[bp,List.flatMap_nil,List.take_zero,List.filter_nil,List.map_nil,List.length_nil,push_cast,seval]
 ·omega
 rintro i hi
 by_cases hlt:i<l.length
 ·have hltI:(i:Int)<(l.length:Int):=by omega
  obtain⟨x,hx⟩:∃ x,l[i]? = some x:=⟨_,List.getElem?_eq_getElem hlt⟩
  have hno:=CX hnd hx
  have hfs:=tE hx
  have hN:=sK x.value
  have hli:=hfl i
  have hkp:bv x=!bz x.value:=rfl
  generalize bz x.value=B at *
  obtain⟨nm,⟨vk,vn,vs,vt,vl,vf⟩⟩:=x
  have hc:=tR nm vk vn vs vt vl vf (l.drop (i+1)) (by rw[List.length_drop];omega) hno
  simp only[Fld.value,Val.pv_mk,Ec] at hN hc
  have hcut:=T3 l (i+1)
  rw[hkp] at hfs
  have ha:=S5 ((l.take i).filter bv) (by omega) nm vk vn vs vt vl vf
  generalize (l.take i).filter bv=K at *
  simp(disch:=try exact dI) only[hx,Option.map_some,Fld.pv_mk,Val.pv_mk,ak,hcut,push_cast,seval]
  refine ab.lentK hc [4] rfl qsZ qsZ ?_
  refine zgZ ?_
  refine ab.pure hN rfl ?_
  cases B with
  | true=>
    rw[if_neg (by decide)] at hfs
    refine zgZ ?_
    exact⟨i+1,aR (by simp(disch:=try exact dI) only[hfs,push_cast,seval]),by omega,by omega⟩
  | false=>
    rw[if_pos (by decide)] at hfs
    simp(disch:=try exact dI) only[ha,push_cast,seval]
    exact⟨i+1,aR (by simp(disch:=try exact dI) only[hfs,List.length_append,push_cast,seval]),by omega,by omega⟩
 ·obtain rfl:i=l.length:=by omega
  rw[List.take_length]
  simp only[Val.pv_mk,List.map_nil] at hcl ⊢
  rw[hsl] at hfz
  generalize srt (l.filter bv)=S at *
  generalize l.filter bv=K at *
  simp(disch:=try exact dI) only[Int.lt_irrefl,push_cast,seval]
  have hcl2:ae Tryz.prog au 58 [.agg [.int .i64 9,.int .i64 0,.int .i64 0,.str [],.nils,.list (S.map Fld.pv)]] _:=hcl.nz (.cons _ _ _ _ (.agg _ _ (.cons _ _ _ _ (.refl _) (.cons _ _ _ _ (.refl _) (.cons _ _ _ _ (.refl _) (.cons _ _ _ _ (.refl _) (.cons _ _ _ _ .nils (.cons _ _ _ _ (.refl _) .nil))))))) .nil)
  refine ab.lentK hsort [2] rfl qsZ qsZ ?_
  simp(disch:=try exact dI) only[hfz,push_cast,seval]
  refine ab.pure hcl2 rfl ?_
  exact qsZ
def Of (x:Fld):List Fld->List Fld
 | []=>[x]
 | y::r=>if Lib.compareBytes y.name x.name<0 then y::Of x r else x::y::r
def J0:List Fld->List Fld
 | []=>[]
 | x::r=>if bz x.value=true then J0 r else Of x (J0 r)
theorem lk (x:Fld):∀ L:List Fld,(Of x L).Perm (x::L)
 | []=>List.Perm.refl _
 | y::r=>by
   rw[Of]
   split
   ·exact ((lk x r).cons y).trans (List.Perm.swap x y r)
   ·exact List.Perm.refl _
theorem gD:∀ l:List Fld,(J0 l).Perm (l.filter bv)
 | []=>List.Perm.refl _
 | x::r=>by
   rw[J0,List.filter_cons]
   have hk:bv x=!bz x.value:=rfl
   cases hn:bz x.value with
   | true=>rw[if_pos rfl,hk,hn,if_neg (by decide)];exact gD r
   | false=>
     rw[if_neg (by decide),hk,hn,if_pos (by decide)]
     exact (lk x _).trans ((gD r).cons x)
theorem vZ:∀ a b:List UInt8,Lib.compareBytes a b<0\/a=b\/Lib.compareBytes b a<0
 | [],[]=>.inr (.inl rfl)
 | [],_::_=>.inl (by simp[Lib.compareBytes])
 | _::_,[]=>.inr (.inr (by simp[Lib.compareBytes]))
 | x::p,y::q=>by
   simp only[Lib.compareBytes,UInt8.lt_iff_toNat_lt]
   by_cases h1:x.toNat<y.toNat
   ·exact .inl (by rw[if_pos h1];omega)
   ·by_cases h2:y.toNat<x.toNat
    ·exact .inr (.inr (by rw[if_pos h2];omega))
    ·have he:x=y:=UInt8.toNat_inj.1 (by omega)
     rw[if_neg h1,if_neg h2,if_neg h2,if_neg h1]
     rcases vZ p q with h | h | h
     ·exact .inl h
     ·exact .inr (.inl (by rw[he,h]))
     ·exact .inr (.inr h)
def ltF (a b:Fld):Prop:=Lib.compareBytes a.name b.name<0
theorem lj (x:Fld):∀ L:List Fld,L.Pairwise ltF->(∀ y∈L,y.name≠x.name)->(Of x L).Pairwise ltF
 | [],_,_=>List.pairwise_singleton _ _
 | y::r,h,hn=>by
   rw[List.pairwise_cons] at h
   rw[Of]
   split
   ·rename_i hlt
    refine List.pairwise_cons.2 ⟨fun z hz=>?_,lj x r h.2 fun z hz=>hn z (List.mem_cons_of_mem _ hz)⟩
    rcases List.mem_cons.1 ((lk x r).mem_iff.1 hz) with rfl | hz
    ·exact hlt
    ·exact h.1 z hz
   ·rename_i hlt
    have hxy:ltF x y:=by
     rcases vZ x.name y.name with h1 | h1 | h1
     ·exact h1
     ·exact absurd h1.symm (hn y (List.mem_cons_self ..))
     ·exact absurd h1 hlt
    refine List.pairwise_cons.2 ⟨fun z hz=>?_,List.pairwise_cons.2 h⟩
    rcases List.mem_cons.1 hz with rfl | hz
    ·exact hxy
    ·exact ia _ _ _ hxy (h.1 z hz)
theorem wZ {l:List Fld}{y:Fld}(hy:y∈J0 l):y∈l:=(List.mem_filter.1 ((gD l).mem_iff.1 hy)).1
theorem eo:∀ l:List Fld,fk l->(J0 l).Pairwise ltF
 | [],_=>List.Pairwise.nil
 | x::r,h=>by
   unfold fk at h
   rw[List.map_cons,List.nodup_cons] at h
   rw[J0]
   split
   ·exact eo r h.2
   ·exact lj x _ (eo r h.2) fun y hy e=>h.1 (e▸List.mem_map_of_mem (wZ hy))
theorem JQ {l fs:List Fld}(hp2:fs.Pairwise ltF)(hp0:l.Perm fs):srt l=fs:=by
 have hs:(srt l).Pairwise fun a b=>¬ Lib.compareBytes b.name a.name<0:=by
  rw[List.pairwise_iff_getElem]
  intro i j hi hj hij
  exact wS l i j _ _ hij (List.getElem?_eq_getElem hi) (List.getElem?_eq_getElem hj)
 have hpp:=(jP l).trans hp0
 refine List.Perm.eq_of_pairwise (le:=fun a b=>¬ Lib.compareBytes b.name a.name<0) ?_ hs (hp2.imp fun {a b} hab hba=>?_) hpp
 ·intro a b ha hb h1 h2
  have hb':=hb
  have ha':=hpp.mem_iff.1 ha
  obtain⟨i,hi,rfl⟩:=List.getElem_of_mem ha'
  obtain⟨j,hj,rfl⟩:=List.getElem_of_mem hb'
  have hpw:=List.pairwise_iff_getElem.1 hp2
  rcases Nat.lt_trichotomy i j with h | h | h
  ·exact absurd (hpw i j hi hj h) h2
  ·subst h;rfl
  ·exact absurd (hpw j i hj hi h) h1
 ·have:=ia _ _ _ hab hba
  rw[oy] at this
  exact absurd this (by decide)
theorem GN {l:List Fld}(h:fk l):srt (l.filter bv)=J0 l:=JQ (eo l h) (gD l).symm
theorem EE:∀ a b:List UInt8,decide (Lib.compareBytes a b<0)=bd a b
 | [],[]=>rfl
 | [],_::_=>rfl
 | _::_,[]=>rfl
 | a::r,b::q=>by
   have ih:decide (Lib.compareBytes r q<0)=Op.bytesLess r q:=EE r q
   show _=Op.bytesLess (a::r) (b::q)
   rw[Lib.compareBytes,Op.bytesLess]
   by_cases h1:a<b
   ·simp[h1]
   ·by_cases h2:b<a
    ·have:¬ a=b:=by rintro rfl;exact (UInt8.lt_irrefl a) h2
     simp[h1,h2,this]
    ·have h3:a=b:=UInt8.le_antisymm (UInt8.not_lt.1 h2) (UInt8.not_lt.1 h1)
     simp[h1,h2,h3,ih]
end Go.Proofs.YtbaaokocnegdoaaGreatDoor
