/- A part. -/
import Derived.Test.YtamoeblcphjbaaaGreatDoorBlLP3
set_option linter.unusedVariables false
set_option linter.unusedSimpArgs false
set_option maxHeartbeats 16000000
set_option maxRecDepth 100000
open List renaming length_drop->UC,getElem?_eq_getElem->Uo,length_cons->Ut,length_nil->Ux,length->Vl,nil_append->UK,cons_append->UJ,take_length->U2,length_append->Us,drop_eq_nil_of_le->U1,drop_length->Vz
namespace Go.Proofs.YtamoeblcphjbaaaGreatDoor
open Go Go.Ab
attribute [local irreducible] vc
def IR (t:Bool):List UInt8->List Blk
 | []=>[.cells 83 true [aB t,.pv .nils]]
 | b::r=>[.cells 83 true [aB t,.row 1 1 0 (r.length+1)],.bts 5 (b::r)]
theorem ul (t:Bool)(l:List UInt8)(hl:l.length<=100000000):aI Tryz.prog aH 1 52 [.ptr 0 0] (bB t l) (.pv (.str l)) (IR t l):=by
 refine aI.intro Q52.2 (by simp[Q52]) ?_
 cases l with
 | nil=>
   cases t<;>(
   simp(maxSteps:=9^7) (disch:=try exact dI) only[Q52,bB,aB,push_cast,seval]
   exact am [] (by simp(maxSteps:=9^7) (disch:=try exact dI) only[IR,aB,push_cast,seval]))
 | cons b r=>
   have hA:=fun (k:Int) (q:Nat) (hk:k=((b::r).length:Int))=>ub (t:=5) (r:=q) (f:=false) (l:=b::r) hk (by simp) (by simp at hl ⊢;omega)
   cases t<;>(
   simp(maxSteps:=9^7) (disch:=try exact dI) only[Q52,bB,aB,hA,push_cast,seval]
   exact am [] (by simp(maxSteps:=9^7) (disch:=try exact dI) only[IR,aB,push_cast,seval]))
theorem uj (t:Bool)(l:List UInt8)(hl:l.length<=100000000):aI Tryz.prog aH 1 52 [.ptr 0 0] (IR t l) (.pv (.str l)) (stB l):=by
 refine aI.intro Q52.2 (by simp[Q52]) ?_
 cases l with
 | nil=>
   cases t<;>(
   simp(maxSteps:=9^7) (disch:=try exact dI) only[Q52,IR,aB,push_cast,seval]
   exact am [] (by simp(maxSteps:=9^7) (disch:=try exact dI) only[stB,push_cast,seval]))
 | cons b r=>
   have hA:=fun (k:Int) (q:Nat) (hk:k=((b::r).length:Int))=>Al (t:=5) (r:=q) (l:=b::r) hk (by simp) (by simp at hl ⊢;omega)
   cases t<;>(
   simp(maxSteps:=9^7) (disch:=try exact dI) only[Q52,IR,aB,hA,push_cast,seval]
   exact am [] (by simp(maxSteps:=9^7) (disch:=try exact dI) only[stB,push_cast,seval]))
def hdS (R:Rd)(a:Nat):Nat×List UInt8->St
 | (j,[])=>⟨[(0,.ptr 0 0),(1,.pv (.int .i64 (a:Int))),(4,.ptr 1 0),(5,.pv (.int .i64 (j:Int)))],[(0,rdB R),(1,.cells 83 true [.pv .nilp,.pv .nils])],2⟩
 | (j,b::r)=>⟨[(0,.ptr 0 0),(1,.pv (.int .i64 (a:Int))),(4,.ptr 1 0),(5,.pv (.int .i64 (j:Int)))],[(0,rdB R),(1,.cells 83 true [.ptr 1 0,.row 2 1 0 (r.length+1)]),(2,.cells 5 false ((aC (b::r)).map .pv))],3⟩
theorem MD (n:Nat):1<=(Go.Utf8.encode (n:Int)).data.toList.length/\(Go.Utf8.encode (n:Int)).data.toList.length<=4:=by
 unfold Go.Utf8.encode
 generalize (if Go.Utf8.valid (n:Int)=true then (n:Int).toNat else Go.Utf8.runeError)=c
 dsimp only
 repeat' split
 all_goals exact⟨Nat.le_of_ble_eq_true rfl,Nat.le_of_ble_eq_true rfl⟩
theorem ni {n:Nat}{t:List UInt8}(h:eC n=some t):1<=t.length/\t.length<=4:=by
 unfold eC at h
 split at h
 ·have:=Option.some.inj h
  rw[<- this];exact MD n
 ·cases h
theorem iQ {s:List UInt8}(h:(eQ s).2=0):1<=(eQ s).1.2/\(eQ s).1.2<=s.length/\1<=(eQ s).1.1.length/\(eQ s).1.1.length<=4:=by
 cases s with
 | nil=>exact absurd h (by simp[eQ])
 | cons c r=>
   cases hE:oS c with
   | some b=>rw[iS hE];simp
   | none=>
     rw[vV hE] at h ⊢
     split at h
     ·rename_i hp
      rw[if_pos hp]
      have hpl:2<=(c::r).length:=(of_decide_eq_true hp).2
      obtain⟨U,hU⟩:∃ U,U=(c::r).drop 2:=⟨_,rfl⟩
      have hUl:U.length+2=(c::r).length:=by rw[hU,UC];omega
      rw[<- hU] at h ⊢
      cases hC:fB 125 U with
      | none=>rw[DC hC] at h;simp at h
      | some q=>
        obtain⟨d,e⟩:=q
        by_cases hd:d.length<1\/6<d.length
        ·rw[vT hC hd] at h;simp at h
        ·rw[vU hC hd] at h ⊢
         have hs:=(eL 0 hC).2
         have hsl:U.length=d.length+(e.length+1):=by rw[hs];simp
         cases hx:jv 0 d with
         | none=>rw[hx] at h;simp[HM] at h
         | some n=>
           rw[hx] at h
           simp only[HM] at h ⊢
           cases hp:eC n with
           | none=>rw[hp] at h;simp at h
           | some t=>
             have:=ni hp
             simp only
             omega
     ·simp at h
theorem fJ {f:Nat}{c:UInt8}{r:List UInt8}{i:Nat}{o:List UInt8}(h:c.toNat=34):ia (f+1) (c::r) i o = .done o (i+1):=by rw[ia,if_pos h]
theorem eU {f:Nat}{c:UInt8}{r:List UInt8}{i:Nat}{o:List UInt8}(h:¬ c.toNat=34)(h2:c.toNat<32\/c.toNat=127):ia (f+1) (c::r) i o = .bad i 6:=by rw[ia,if_neg h,if_pos h2]
theorem cy {f:Nat}{c:UInt8}{r:List UInt8}{i:Nat}{o:List UInt8}(h:¬ c.toNat=34)(h2:¬ (c.toNat<32\/c.toNat=127))(h3:¬ c.toNat=92):ia (f+1) (c::r) i o=ia f r (i+1) (o++[c]):=by rw[ia,if_neg h,if_neg h2,if_neg h3]
theorem dL {f:Nat}{c:UInt8}{i:Nat}{o:List UInt8}(h:c.toNat=92):ia (f+1) [c] i o = .short:=by rw[ia,if_neg (by omega),if_neg (by omega),if_pos h,if_pos rfl]
theorem d7 {f:Nat}{c:UInt8}{r:List UInt8}{i:Nat}{o:List UInt8}(h:c.toNat=92)(h2:r≠[]):ia (f+1) (c::r) i o=if (eQ r).2=0 then ia f (r.drop (eQ r).1.2) (i+1+(eQ r).1.2) (o++(eQ r).1.1) else .bad i (eQ r).2:=by rw[ia,if_neg (by omega),if_neg (by omega),if_pos h,if_neg h2]
theorem f9 (f:Nat)(i:Nat)(o:List UInt8):ia f [] i o = .short:=by cases f<;>rfl
section
variable {T:Nat}{p:PV}
theorem nX (s:List UInt8):au Tryz.prog aH 180 [.str s] (.bool (Lib.validD s)):=by
 have h:=gz s
 generalize Lib.validD s=b at *
 refine au.intro Tb.2 (by simp[Tb]) ?_
 simp(maxSteps:=9^7) (disch:=try exact dI) only[Tb,push_cast,seval]
 refine ae.pure h rfl ?_
 simp(maxSteps:=9^7) (disch:=try exact dI) only[push_cast,seval]
theorem Og (R:Rd)(a:Nat)(hs:R.s.length<=65536)(ha:a<R.s.length)(hE:R.e=0):aI Tryz.prog (bE T p) 1 160 [.ptr 0 0,.pv (.int .i64 (a:Int))] [rdB R] (.pv (.tup [])) [rdB (rI R a)]:=by
 have hf:=fun i e=>bV (T:=T) (p:=p) R i e
 unfold rI
 obtain⟨Z,hZ⟩:∃ Z,Z=ia (R.s.length+1) (R.s.drop (a+1)) (a+1) []:=⟨_,rfl⟩
 rw[<- hZ]
 refine aI.intro Th.2 (by simp[Th]) ?_
 simp(maxSteps:=9^7) (disch:=try exact dI) only[Th,push_cast,seval]
 refine kK [] (hdS R a) (fun y=>y.1<=R.s.length/\y.2.length<=4*y.1/\∃ f,R.s.length<f+y.1/\Z=ia f (R.s.drop y.1) y.1 y.2) (fun y=>R.s.length - y.1) (a+1,[]) ?_ ?_ ?_
 ·exact bu (by simp(maxSteps:=9^7) (disch:=try exact dI) only[hdS,rdB,rdC,push_cast,seval])
 ·exact⟨by simp only;omega,by simp,R.s.length+1,by simp only;omega,hZ⟩
 rintro⟨j,out⟩ ⟨hj,ho,f,hfj,hZj⟩
 simp only at hj ho hfj hZj
 obtain⟨f,rfl⟩:∃ g,f=g+1:=⟨f - 1,by omega⟩
 cases out with
 | nil=>
   by_cases hlt:j<R.s.length
   ·obtain⟨c,hc⟩:∃ c,R.s[j]? = some c:=⟨_,Uo hlt⟩
    have hltI:(j:Int)<(R.s.length:Int):=by omega
    rw[aU hc] at hZj
    by_cases h34:c.toNat=34
    ·have h34I:((c.toNat:Int)=34)=True:=eq_true (by omega)
     rw[fJ h34] at hZj
     subst hZj
     have k1:=j1 (T:=T) (p:=p) (ul false [] (by simp only[Ut,Ux] at ho ⊢;omega))
     have k3:=j1 (T:=T) (p:=p) (uj false [] (by simp only[Ut,Ux] at ho ⊢;omega))
     have k2:=toE (T:=T) (p:=p) (nX [])
     simp only[bB,IR,aB,stB] at k1 k3
     simp only[bq]
     cases hv:Lib.validD [] with
     | true=>
       rw[hv] at k2
       rw[if_neg (fun h=>by cases h.2)]
       simp(maxSteps:=9^7) (disch:=try exact dI) only[hdS,hltI,hc,ag,h34I,rdB,rdC,push_cast,seval]
       refine ae.lentK k1 [1] rfl qsZ qsZ ?_
       simp(maxSteps:=9^7) (disch:=try exact dI) only[push_cast,seval]
       refine ae.pure k2 rfl ?_
       simp(maxSteps:=9^7) (disch:=try exact dI) only[push_cast,seval]
       refine ae.lentK k3 [1] rfl qsZ qsZ ?_
       simp(maxSteps:=9^7) (disch:=try exact dI) only[push_cast,seval]
       exact am [] (by simp(maxSteps:=9^7) (disch:=try exact dI) only[rdB,rdC,push_cast,seval])
     | false=>
       rw[hv] at k2
       rw[if_pos (by simp)]
       have hfa:=hf a 16
       simp only[rdB,rdC] at hfa
       simp(maxSteps:=9^7) (disch:=try exact dI) only[hdS,hltI,hc,ag,h34I,rdB,rdC,push_cast,seval]
       refine ae.lentK k1 [1] rfl qsZ qsZ ?_
       simp(maxSteps:=9^7) (disch:=try exact dI) only[push_cast,seval]
       refine ae.pure k2 rfl ?_
       simp(maxSteps:=9^7) (disch:=try exact dI) only[push_cast,seval]
       refine ae.lentK hfa [0] rfl qsZ qsZ ?_
       simp(maxSteps:=9^7) (disch:=try exact dI) only[push_cast,seval]
       refine ae.lentK k3 [1] rfl qsZ qsZ ?_
       simp(maxSteps:=9^7) (disch:=try exact dI) only[push_cast,seval]
       exact am [] (by simp(maxSteps:=9^7) (disch:=try exact dI) only[rdB,rdC,push_cast,seval])
    have h34I:¬ (c.toNat:Int)=34:=by omega
    by_cases hbd:c.toNat<32\/c.toNat=127
    ·rw[eU h34 hbd] at hZj
     subst hZj
     have hfa:=hf j 6
     simp only[rdB,rdC] at hfa
     by_cases h32:c.toNat<32
     ·have h32I:(c.toNat:Int)<32:=by omega
      simp(maxSteps:=9^7) (disch:=try exact dI) only[hdS,hltI,hc,ag,h34I,h32I,rdB,rdC,push_cast,seval]
      refine ae.lentK hfa [0] rfl qsZ qsZ ?_
      simp(maxSteps:=9^7) (disch:=try exact dI) only[push_cast,seval]
      exact am [] (by simp(maxSteps:=9^7) (disch:=try exact dI) only[bq,rdB,rdC,push_cast,seval])
     ·have h32I:¬ (c.toNat:Int)<32:=by omega
      have h127:((c.toNat:Int)=127)=True:=eq_true (by omega)
      simp(maxSteps:=9^7) (disch:=try exact dI) only[hdS,hltI,hc,ag,h34I,h32I,h127,rdB,rdC,push_cast,seval]
      refine ae.lentK hfa [0] rfl qsZ qsZ ?_
      simp(maxSteps:=9^7) (disch:=try exact dI) only[push_cast,seval]
      exact am [] (by simp(maxSteps:=9^7) (disch:=try exact dI) only[bq,rdB,rdC,push_cast,seval])
    have h32I:¬ (c.toNat:Int)<32:=by omega
    have h127I:¬ (c.toNat:Int)=127:=by omega
    by_cases h92:c.toNat=92
    ·have h92I:((c.toNat:Int)=92)=True:=eq_true (by omega)
     by_cases hl1:j+1<R.s.length
     ·have hl1I:(j:Int)+1<(R.s.length:Int):=by omega
      have hne:R.s.drop (j+1)≠[]:=by
       intro h
       have:=congrArg Vl h
       simp at this;omega
      rw[d7 h92 hne] at hZj
      have hx:=toE (T:=T) (p:=p) (qY (R.s.drop (j+1)) hne (by rw[UC];omega))
      have hel:=iQ (s:=R.s.drop (j+1))
      rw[UC] at hel
      have hdr:(R.s.drop (j+1)).drop (eQ (R.s.drop (j+1))).1.2=R.s.drop (j+1+(eQ (R.s.drop (j+1))).1.2):=by rw[List.drop_drop]
      rw[hdr] at hZj
      generalize eQ (R.s.drop (j+1))=E at *
      obtain⟨⟨x,sz⟩,er⟩:=E
      simp only[DB] at hx hel hZj
      obtain⟨q,hq⟩:∃ q,q=R.s.drop (j+1):=⟨_,rfl⟩
      have htn:((j:Int)+1).toNat=j+1:=by omega
      by_cases her:er=0
      ·subst her
       rw[if_pos rfl] at hZj
       obtain⟨e1,e2,e4,e3⟩:=hel rfl
       have k1:=j1 (T:=T) (p:=p) (IF false [] x (by simp only[Ut,Ux] at ho ⊢;omega) (by omega))
       cases x with
       | nil=>exact absurd e4 (by simp)
       | cons x0 xs=>
         simp only[bB,aB,UK,UJ] at k1
         simp(maxSteps:=9^7) (disch:=try exact dI) only[hdS,hltI,hc,ag,h34I,h32I,h127I,h92I,hl1I,htn,rdB,rdC,push_cast,seval]
         refine ae.pure hx (by simp(maxSteps:=9^7) (disch:=try exact dI) only[U2,push_cast,seval]) ?_
         simp(maxSteps:=9^7) (disch:=try exact dI) only[push_cast,seval]
         refine ae.lentK k1 [1] rfl qsZ qsZ ?_
         simp(maxSteps:=9^7) (disch:=try exact dI) only[push_cast,seval]
         exact⟨(j+1+sz,x0::xs),bu (by simp(maxSteps:=9^7) (disch:=try exact dI) only[hdS,rdB,rdC,Nat.add_right_comm,push_cast,seval]),⟨by simp only;omega,by simp only[Ut,Us,Ux] at ho e3 ⊢;omega,f,by simp only;omega,hZj⟩,by simp only;omega⟩
      ·have herI:¬ er=0:=her
       rw[if_neg her] at hZj
       subst hZj
       have hfa:=hf j er
       simp only[rdB,rdC] at hfa
       simp(maxSteps:=9^7) (disch:=try exact dI) only[hdS,hltI,hc,ag,h34I,h32I,h127I,h92I,hl1I,htn,rdB,rdC,push_cast,seval]
       refine ae.pure hx (by simp(maxSteps:=9^7) (disch:=try exact dI) only[U2,push_cast,seval]) ?_
       simp(maxSteps:=9^7) (disch:=try exact dI) only[herI,push_cast,seval]
       refine ae.lentK hfa [0] rfl qsZ qsZ ?_
       simp(maxSteps:=9^7) (disch:=try exact dI) only[push_cast,seval]
       exact am [] (by simp(maxSteps:=9^7) (disch:=try exact dI) only[bq,rdB,rdC,push_cast,seval])
     ·have hl1I:¬ (j:Int)+1<(R.s.length:Int):=by omega
      have hnil:R.s.drop (j+1)=[]:=U1 (by omega)
      rw[hnil,dL h92] at hZj
      simp(maxSteps:=9^7) (disch:=try exact dI) only[hdS,hltI,hc,ag,h34I,h32I,h127I,h92I,hl1I,rdB,rdC,push_cast,seval]
      exact⟨(j+1,[]),bu (by simp(maxSteps:=9^7) (disch:=try exact dI) only[hdS,rdB,rdC,push_cast,seval]),⟨by simp only;omega,by simp only[Ut,Ux] at ho ⊢;omega,f+1,by simp only;omega,by simp only;rw[hnil,f9];exact hZj⟩,by simp only;omega⟩
    ·have h92I:¬ (c.toNat:Int)=92:=by omega
     rw[cy h34 hbd h92] at hZj
     have k1:=j1 (T:=T) (p:=p) (tV false [] c (by simp only[Ut,Ux] at ho ⊢;omega))
     simp only[bB,aB,UK,UJ] at k1
     simp(maxSteps:=9^7) (disch:=try exact dI) only[hdS,hltI,hc,ag,h34I,h32I,h127I,h92I,rdB,rdC,push_cast,seval]
     refine ae.lentK k1 [1] rfl qsZ qsZ ?_
     simp(maxSteps:=9^7) (disch:=try exact dI) only[push_cast,seval]
     exact⟨(j+1,[c]),bu (by simp(maxSteps:=9^7) (disch:=try exact dI) only[hdS,rdB,rdC,push_cast,seval]),⟨by simp only;omega,by simp only[Ut,Us,Ux] at ho ⊢;omega,f,by simp only;omega,hZj⟩,by simp only;omega⟩
   ·have hltI:¬ (j:Int)<(R.s.length:Int):=by omega
    obtain rfl:j=R.s.length:=by omega
    rw[Vz,f9] at hZj
    subst hZj
    have hfa:=hf a 4
    simp only[rdB,rdC] at hfa
    simp(maxSteps:=9^7) (disch:=try exact dI) only[hdS,hltI,rdB,rdC,push_cast,seval]
    refine ae.lentK hfa [0] rfl qsZ qsZ ?_
    simp(maxSteps:=9^7) (disch:=try exact dI) only[push_cast,seval]
    exact am [] (by simp(maxSteps:=9^7) (disch:=try exact dI) only[bq,rdB,rdC,push_cast,seval])
 | cons b r=>
   by_cases hlt:j<R.s.length
   ·obtain⟨c,hc⟩:∃ c,R.s[j]? = some c:=⟨_,Uo hlt⟩
    have hltI:(j:Int)<(R.s.length:Int):=by omega
    rw[aU hc] at hZj
    by_cases h34:c.toNat=34
    ·have h34I:((c.toNat:Int)=34)=True:=eq_true (by omega)
     rw[fJ h34] at hZj
     subst hZj
     have k1:=j1 (T:=T) (p:=p) (ul true (b::r) (by simp only[Ut,Ux] at ho ⊢;omega))
     have k3:=j1 (T:=T) (p:=p) (uj true (b::r) (by simp only[Ut,Ux] at ho ⊢;omega))
     have k2:=toE (T:=T) (p:=p) (nX (b::r))
     simp only[bB,IR,aB,stB] at k1 k3
     simp only[bq]
     cases hv:Lib.validD (b::r) with
     | true=>
       rw[hv] at k2
       rw[if_neg (fun h=>by cases h.2)]
       simp(maxSteps:=9^7) (disch:=try exact dI) only[hdS,hltI,hc,ag,h34I,rdB,rdC,push_cast,seval]
       refine ae.lentK k1 [1,2] rfl qsZ qsZ ?_
       simp(maxSteps:=9^7) (disch:=try exact dI) only[push_cast,seval]
       refine ae.pure k2 rfl ?_
       simp(maxSteps:=9^7) (disch:=try exact dI) only[push_cast,seval]
       refine ae.lentK k3 [1,5] rfl qsZ qsZ ?_
       simp(maxSteps:=9^7) (disch:=try exact dI) only[push_cast,seval]
       exact am [] (by simp(maxSteps:=9^7) (disch:=try exact dI) only[rdB,rdC,push_cast,seval])
     | false=>
       rw[hv] at k2
       rw[if_pos (by simp)]
       have hfa:=hf a 16
       simp only[rdB,rdC] at hfa
       simp(maxSteps:=9^7) (disch:=try exact dI) only[hdS,hltI,hc,ag,h34I,rdB,rdC,push_cast,seval]
       refine ae.lentK k1 [1,2] rfl qsZ qsZ ?_
       simp(maxSteps:=9^7) (disch:=try exact dI) only[push_cast,seval]
       refine ae.pure k2 rfl ?_
       simp(maxSteps:=9^7) (disch:=try exact dI) only[push_cast,seval]
       refine ae.lentK hfa [0] rfl qsZ qsZ ?_
       simp(maxSteps:=9^7) (disch:=try exact dI) only[push_cast,seval]
       refine ae.lentK k3 [1,5] rfl qsZ qsZ ?_
       simp(maxSteps:=9^7) (disch:=try exact dI) only[push_cast,seval]
       exact am [] (by simp(maxSteps:=9^7) (disch:=try exact dI) only[rdB,rdC,push_cast,seval])
    have h34I:¬ (c.toNat:Int)=34:=by omega
    by_cases hbd:c.toNat<32\/c.toNat=127
    ·rw[eU h34 hbd] at hZj
     subst hZj
     have hfa:=hf j 6
     simp only[rdB,rdC] at hfa
     by_cases h32:c.toNat<32
     ·have h32I:(c.toNat:Int)<32:=by omega
      simp(maxSteps:=9^7) (disch:=try exact dI) only[hdS,hltI,hc,ag,h34I,h32I,rdB,rdC,push_cast,seval]
      refine ae.lentK hfa [0] rfl qsZ qsZ ?_
      simp(maxSteps:=9^7) (disch:=try exact dI) only[push_cast,seval]
      exact am [] (by simp(maxSteps:=9^7) (disch:=try exact dI) only[bq,rdB,rdC,push_cast,seval])
     ·have h32I:¬ (c.toNat:Int)<32:=by omega
      have h127:((c.toNat:Int)=127)=True:=eq_true (by omega)
      simp(maxSteps:=9^7) (disch:=try exact dI) only[hdS,hltI,hc,ag,h34I,h32I,h127,rdB,rdC,push_cast,seval]
      refine ae.lentK hfa [0] rfl qsZ qsZ ?_
      simp(maxSteps:=9^7) (disch:=try exact dI) only[push_cast,seval]
      exact am [] (by simp(maxSteps:=9^7) (disch:=try exact dI) only[bq,rdB,rdC,push_cast,seval])
    have h32I:¬ (c.toNat:Int)<32:=by omega
    have h127I:¬ (c.toNat:Int)=127:=by omega
    by_cases h92:c.toNat=92
    ·have h92I:((c.toNat:Int)=92)=True:=eq_true (by omega)
     by_cases hl1:j+1<R.s.length
     ·have hl1I:(j:Int)+1<(R.s.length:Int):=by omega
      have hne:R.s.drop (j+1)≠[]:=by
       intro h
       have:=congrArg Vl h
       simp at this;omega
      rw[d7 h92 hne] at hZj
      have hx:=toE (T:=T) (p:=p) (qY (R.s.drop (j+1)) hne (by rw[UC];omega))
      have hel:=iQ (s:=R.s.drop (j+1))
      rw[UC] at hel
      have hdr:(R.s.drop (j+1)).drop (eQ (R.s.drop (j+1))).1.2=R.s.drop (j+1+(eQ (R.s.drop (j+1))).1.2):=by rw[List.drop_drop]
      rw[hdr] at hZj
      generalize eQ (R.s.drop (j+1))=E at *
      obtain⟨⟨x,sz⟩,er⟩:=E
      simp only[DB] at hx hel hZj
      obtain⟨q,hq⟩:∃ q,q=R.s.drop (j+1):=⟨_,rfl⟩
      have htn:((j:Int)+1).toNat=j+1:=by omega
      by_cases her:er=0
      ·subst her
       rw[if_pos rfl] at hZj
       obtain⟨e1,e2,e4,e3⟩:=hel rfl
       have k1:=j1 (T:=T) (p:=p) (IF true (b::r) x (by simp only[Ut,Ux] at ho ⊢;omega) (by omega))
       cases x with
       | nil=>exact absurd e4 (by simp)
       | cons x0 xs=>
         simp only[bB,aB,UK,UJ] at k1
         simp(maxSteps:=9^7) (disch:=try exact dI) only[hdS,hltI,hc,ag,h34I,h32I,h127I,h92I,hl1I,htn,rdB,rdC,push_cast,seval]
         refine ae.pure hx (by simp(maxSteps:=9^7) (disch:=try exact dI) only[U2,push_cast,seval]) ?_
         simp(maxSteps:=9^7) (disch:=try exact dI) only[push_cast,seval]
         refine ae.lentK k1 [1,2] rfl qsZ qsZ ?_
         simp(maxSteps:=9^7) (disch:=try exact dI) only[push_cast,seval]
         exact⟨(j+1+sz,b::(r++x0::xs)),bu (by simp(maxSteps:=9^7) (disch:=try exact dI) only[hdS,rdB,rdC,Nat.add_right_comm,push_cast,seval]),⟨by simp only;omega,by simp only[Ut,Us,Ux] at ho e3 ⊢;omega,f,by simp only;omega,hZj⟩,by simp only;omega⟩
      ·have herI:¬ er=0:=her
       rw[if_neg her] at hZj
       subst hZj
       have hfa:=hf j er
       simp only[rdB,rdC] at hfa
       simp(maxSteps:=9^7) (disch:=try exact dI) only[hdS,hltI,hc,ag,h34I,h32I,h127I,h92I,hl1I,htn,rdB,rdC,push_cast,seval]
       refine ae.pure hx (by simp(maxSteps:=9^7) (disch:=try exact dI) only[U2,push_cast,seval]) ?_
       simp(maxSteps:=9^7) (disch:=try exact dI) only[herI,push_cast,seval]
       refine ae.lentK hfa [0] rfl qsZ qsZ ?_
       simp(maxSteps:=9^7) (disch:=try exact dI) only[push_cast,seval]
       exact am [] (by simp(maxSteps:=9^7) (disch:=try exact dI) only[bq,rdB,rdC,push_cast,seval])
     ·have hl1I:¬ (j:Int)+1<(R.s.length:Int):=by omega
      have hnil:R.s.drop (j+1)=[]:=U1 (by omega)
      rw[hnil,dL h92] at hZj
      simp(maxSteps:=9^7) (disch:=try exact dI) only[hdS,hltI,hc,ag,h34I,h32I,h127I,h92I,hl1I,rdB,rdC,push_cast,seval]
      exact⟨(j+1,(b::r)),bu (by simp(maxSteps:=9^7) (disch:=try exact dI) only[hdS,rdB,rdC,push_cast,seval]),⟨by simp only;omega,by simp only[Ut,Ux] at ho ⊢;omega,f+1,by simp only;omega,by simp only;rw[hnil,f9];exact hZj⟩,by simp only;omega⟩
    ·have h92I:¬ (c.toNat:Int)=92:=by omega
     rw[cy h34 hbd h92] at hZj
     have k1:=j1 (T:=T) (p:=p) (tV true (b::r) c (by simp only[Ut,Ux] at ho ⊢;omega))
     simp only[bB,aB,UK,UJ] at k1
     simp(maxSteps:=9^7) (disch:=try exact dI) only[hdS,hltI,hc,ag,h34I,h32I,h127I,h92I,rdB,rdC,push_cast,seval]
     refine ae.lentK k1 [1,2] rfl qsZ qsZ ?_
     simp(maxSteps:=9^7) (disch:=try exact dI) only[push_cast,seval]
     exact⟨(j+1,b::(r++[c])),bu (by simp(maxSteps:=9^7) (disch:=try exact dI) only[hdS,rdB,rdC,push_cast,seval]),⟨by simp only;omega,by simp only[Ut,Us,Ux] at ho ⊢;omega,f,by simp only;omega,hZj⟩,by simp only;omega⟩
   ·have hltI:¬ (j:Int)<(R.s.length:Int):=by omega
    obtain rfl:j=R.s.length:=by omega
    rw[Vz,f9] at hZj
    subst hZj
    have hfa:=hf a 4
    simp only[rdB,rdC] at hfa
    simp(maxSteps:=9^7) (disch:=try exact dI) only[hdS,hltI,rdB,rdC,push_cast,seval]
    refine ae.lentK hfa [0] rfl qsZ qsZ ?_
    simp(maxSteps:=9^7) (disch:=try exact dI) only[push_cast,seval]
    exact am [] (by simp(maxSteps:=9^7) (disch:=try exact dI) only[bq,rdB,rdC,push_cast,seval])
end
