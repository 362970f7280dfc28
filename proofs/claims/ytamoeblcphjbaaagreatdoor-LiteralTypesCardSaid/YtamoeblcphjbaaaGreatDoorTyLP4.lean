/- A part. -/
import Derived.Test.YtamoeblcphjbaaaGreatDoorTyLP2
set_option linter.unusedVariables false
set_option linter.unusedSimpArgs false
set_option maxHeartbeats 16000000
set_option maxRecDepth 100000
open List renaming length_drop->Xh,getElem?_eq_getElem->WE,length_cons->WG,length_nil->WL,nil_append->WO,cons_append->WQ,take_length->WV,length_append->WF,drop_eq_nil_of_le->XB,drop_length->XX
open UInt8 renaming ofNat->Xn,toNat_ofNat'->XD
namespace Go.Proofs.YtamoeblcphjbaaaGreatDoor
open Go Go.Ab
attribute [local irreducible] vc
def KW (t:Bool):List UInt8->List Blk
 | []=>[.cells 83 true [aB t,.pv .nils]]
 | b::r=>[.cells 83 true [aB t,.row 1 1 0 (r.length+1)],.bts 5 (b::r)]
theorem vS (t:Bool)(l:List UInt8)(hl:l.length<=100000000):aP Tryz.prog aC 1 52 [.ptr 0 0] (bB t l) (.pv (.str l)) (KW t l):=by
 refine aP.intro Q52.2 (by simp[Q52]) ?_
 cases l with
 | nil=>
   cases t<;>(
   simp(maxSteps:=9^7) (disch:=try exact dI) only[Q52,bB,aB,push_cast,seval]
   exact au [] (by simp(maxSteps:=9^7) (disch:=try exact dI) only[KW,aB,push_cast,seval]))
 | cons b r=>
   have hA:=fun (k:Int) (q:Nat) (hk:k=((b::r).length:Int))=>vG (t:=5) (r:=q) (f:=false) (l:=b::r) hk (by simp) (by simp at hl ⊢;omega)
   cases t<;>(
   simp(maxSteps:=9^7) (disch:=try exact dI) only[Q52,bB,aB,hA,push_cast,seval]
   exact au [] (by simp(maxSteps:=9^7) (disch:=try exact dI) only[KW,aB,push_cast,seval]))
theorem vR (t:Bool)(l:List UInt8)(hl:l.length<=100000000):aP Tryz.prog aC 1 52 [.ptr 0 0] (KW t l) (.pv (.str l)) (stB l):=by
 refine aP.intro Q52.2 (by simp[Q52]) ?_
 cases l with
 | nil=>
   cases t<;>(
   simp(maxSteps:=9^7) (disch:=try exact dI) only[Q52,KW,aB,push_cast,seval]
   exact au [] (by simp(maxSteps:=9^7) (disch:=try exact dI) only[stB,push_cast,seval]))
 | cons b r=>
   have hA:=fun (k:Int) (q:Nat) (hk:k=((b::r).length:Int))=>BL (t:=5) (r:=q) (l:=b::r) hk (by simp) (by simp at hl ⊢;omega)
   cases t<;>(
   simp(maxSteps:=9^7) (disch:=try exact dI) only[Q52,KW,aB,hA,push_cast,seval]
   exact au [] (by simp(maxSteps:=9^7) (disch:=try exact dI) only[stB,push_cast,seval]))
def hdS (R:Rd)(a:Nat):Nat×List UInt8->St
 | (j,[])=>⟨[(0,.ptr 0 0),(1,.pv (.int .i64 (a:Int))),(4,.ptr 1 0),(5,.pv (.int .i64 (j:Int)))],[(0,rdB R),(1,.cells 83 true [.pv .nilp,.pv .nils])],2⟩
 | (j,b::r)=>⟨[(0,.ptr 0 0),(1,.pv (.int .i64 (a:Int))),(4,.ptr 1 0),(5,.pv (.int .i64 (j:Int)))],[(0,rdB R),(1,.cells 83 true [.ptr 1 0,.row 2 1 0 (r.length+1)]),(2,.cells 5 false ((aD (b::r)).map .pv))],3⟩
theorem OR (n:Nat):1<=(Go.Utf8.encode (n:Int)).data.toList.length/\(Go.Utf8.encode (n:Int)).data.toList.length<=4:=by
 unfold Go.Utf8.encode
 generalize (if Go.Utf8.valid (n:Int)=true then (n:Int).toNat else Go.Utf8.runeError)=c
 dsimp only
 repeat' split
 all_goals exact⟨Nat.le_of_ble_eq_true rfl,Nat.le_of_ble_eq_true rfl⟩
theorem zq {n:Nat}{t:List UInt8}(h:gu n=some t):1<=t.length/\t.length<=4:=by
 unfold gu at h
 split at h
 ·have:=Option.some.inj h
  rw[<- this];exact OR n
 ·cases h
theorem lr {s:List UInt8}(h:(ke s).2=0):1<=(ke s).1.2/\(ke s).1.2<=s.length/\1<=(ke s).1.1.length/\(ke s).1.1.length<=4:=by
 cases s with
 | nil=>exact absurd h (by simp[ke])
 | cons c r=>
   cases hE:sY c with
   | some b=>rw[E9 hE];simp
   | none=>
     rw[E8 hE] at h ⊢
     split at h
     ·rename_i hp
      rw[if_pos hp]
      have hpl:2<=(c::r).length:=(of_decide_eq_true hp).2
      obtain⟨U,hU⟩:∃ U,U=(c::r).drop 2:=⟨_,rfl⟩
      have hUl:U.length+2=(c::r).length:=by rw[hU,Xh];omega
      rw[<- hU] at h ⊢
      cases hC:ki 125 U with
      | none=>rw[LF hC] at h;simp at h
      | some q=>
        obtain⟨d,e⟩:=q
        by_cases hd:d.length<1\/6<d.length
        ·rw[E6 hC hd] at h;simp at h
        ·rw[E7 hC hd] at h ⊢
         have hs:=(jA 0 hC).2
         have hsl:U.length=d.length+(e.length+1):=by rw[hs];simp
         cases hx:nH 0 d with
         | none=>rw[hx] at h;simp[LG] at h
         | some n=>
           rw[hx] at h
           simp only[LG] at h ⊢
           cases hp:gu n with
           | none=>rw[hp] at h;simp at h
           | some t=>
             have:=zq hp
             simp only
             omega
     ·simp at h
theorem jL {f:Nat}{c:UInt8}{r:List UInt8}{i:Nat}{o:List UInt8}(h:c.toNat=34):kK (f+1) (c::r) i o = .done o (i+1):=by rw[kK,if_pos h]
theorem iX {f:Nat}{c:UInt8}{r:List UInt8}{i:Nat}{o:List UInt8}(h:¬ c.toNat=34)(h2:c.toNat<32\/c.toNat=127):kK (f+1) (c::r) i o = .bad i 6:=by rw[kK,if_neg h,if_pos h2]
theorem dQ {f:Nat}{c:UInt8}{r:List UInt8}{i:Nat}{o:List UInt8}(h:¬ c.toNat=34)(h2:¬ (c.toNat<32\/c.toNat=127))(h3:¬ c.toNat=92):kK (f+1) (c::r) i o=kK f r (i+1) (o++[c]):=by rw[kK,if_neg h,if_neg h2,if_neg h3]
theorem gi {f:Nat}{c:UInt8}{i:Nat}{o:List UInt8}(h:c.toNat=92):kK (f+1) [c] i o = .short:=by rw[kK,if_neg (by omega),if_neg (by omega),if_pos h,if_pos rfl]
theorem fo {f:Nat}{c:UInt8}{r:List UInt8}{i:Nat}{o:List UInt8}(h:c.toNat=92)(h2:r≠[]):kK (f+1) (c::r) i o=if (ke r).2=0 then kK f (r.drop (ke r).1.2) (i+1+(ke r).1.2) (o++(ke r).1.1) else .bad i (ke r).2:=by rw[kK,if_neg (by omega),if_neg (by omega),if_pos h,if_neg h2]
theorem k8 (f:Nat)(i:Nat)(o:List UInt8):kK f [] i o = .short:=by cases f<;>rfl
section
variable {T:Nat}{p:PV}
theorem vE (s:List UInt8):am Tryz.prog aC 180 [.str s] (.bool (Lib.validD s)):=by
 have h:=ic s
 generalize Lib.validD s=b at *
 refine am.intro Vp.2 (by simp[Vp]) ?_
 simp(maxSteps:=9^7) (disch:=try exact dI) only[Vp,push_cast,seval]
 refine ae.pure h rfl ?_
 simp(maxSteps:=9^7) (disch:=try exact dI) only[push_cast,seval]
theorem Qo (R:Rd)(a:Nat)(hs:R.s.length<=65536)(ha:a<R.s.length)(hE:R.e=0):aP Tryz.prog (ci T p) 1 160 [.ptr 0 0,.pv (.int .i64 (a:Int))] [rdB R] (.pv (.tup [])) [rdB (vT R a)]:=by
 have hf:=fun i e=>cD (T:=T) (p:=p) R i e
 unfold vT
 obtain⟨Z,hZ⟩:∃ Z,Z=kK (R.s.length+1) (R.s.drop (a+1)) (a+1) []:=⟨_,rfl⟩
 rw[<- hZ]
 refine aP.intro Vv.2 (by simp[Vv]) ?_
 simp(maxSteps:=9^7) (disch:=try exact dI) only[Vv,push_cast,seval]
 refine lK [] (hdS R a) (fun y=>y.1<=R.s.length/\y.2.length<=4*y.1/\∃ f,R.s.length<f+y.1/\Z=kK f (R.s.drop y.1) y.1 y.2) (fun y=>R.s.length - y.1) (a+1,[]) ?_ ?_ ?_
 ·exact bl (by simp(maxSteps:=9^7) (disch:=try exact dI) only[hdS,rdB,rdC,push_cast,seval])
 ·exact⟨by simp only;omega,by simp,R.s.length+1,by simp only;omega,hZ⟩
 rintro⟨j,out⟩ ⟨hj,ho,f,hfj,hZj⟩
 simp only at hj ho hfj hZj
 obtain⟨f,rfl⟩:∃ g,f=g+1:=⟨f - 1,by omega⟩
 cases out with
 | nil=>
   by_cases hlt:j<R.s.length
   ·obtain⟨c,hc⟩:∃ c,R.s[j]? = some c:=⟨_,WE hlt⟩
    have hltI:(j:Int)<(R.s.length:Int):=by omega
    rw[dm hc] at hZj
    by_cases h34:c.toNat=34
    ·have h34I:((c.toNat:Int)=34)=True:=eq_true (by omega)
     rw[jL h34] at hZj
     subst hZj
     have k1:=kP (T:=T) (p:=p) (vS false [] (by simp only[WG,WL] at ho ⊢;omega))
     have k3:=kP (T:=T) (p:=p) (vR false [] (by simp only[WG,WL] at ho ⊢;omega))
     have k2:=toE (T:=T) (p:=p) (vE [])
     simp only[bB,KW,aB,stB] at k1 k3
     simp only[bT]
     cases hv:Lib.validD [] with
     | true=>
       rw[hv] at k2
       rw[if_neg (fun h=>by cases h.2)]
       simp(maxSteps:=9^7) (disch:=try exact dI) only[hdS,hltI,hc,aq,h34I,rdB,rdC,push_cast,seval]
       refine ae.lentK k1 [1] rfl qsZ qsZ ?_
       simp(maxSteps:=9^7) (disch:=try exact dI) only[push_cast,seval]
       refine ae.pure k2 rfl ?_
       simp(maxSteps:=9^7) (disch:=try exact dI) only[push_cast,seval]
       refine ae.lentK k3 [1] rfl qsZ qsZ ?_
       simp(maxSteps:=9^7) (disch:=try exact dI) only[push_cast,seval]
       exact au [] (by simp(maxSteps:=9^7) (disch:=try exact dI) only[rdB,rdC,push_cast,seval])
     | false=>
       rw[hv] at k2
       rw[if_pos (by simp)]
       have hfa:=hf a 16
       simp only[rdB,rdC] at hfa
       simp(maxSteps:=9^7) (disch:=try exact dI) only[hdS,hltI,hc,aq,h34I,rdB,rdC,push_cast,seval]
       refine ae.lentK k1 [1] rfl qsZ qsZ ?_
       simp(maxSteps:=9^7) (disch:=try exact dI) only[push_cast,seval]
       refine ae.pure k2 rfl ?_
       simp(maxSteps:=9^7) (disch:=try exact dI) only[push_cast,seval]
       refine ae.lentK hfa [0] rfl qsZ qsZ ?_
       simp(maxSteps:=9^7) (disch:=try exact dI) only[push_cast,seval]
       refine ae.lentK k3 [1] rfl qsZ qsZ ?_
       simp(maxSteps:=9^7) (disch:=try exact dI) only[push_cast,seval]
       exact au [] (by simp(maxSteps:=9^7) (disch:=try exact dI) only[rdB,rdC,push_cast,seval])
    have h34I:¬ (c.toNat:Int)=34:=by omega
    by_cases hbd:c.toNat<32\/c.toNat=127
    ·rw[iX h34 hbd] at hZj
     subst hZj
     have hfa:=hf j 6
     simp only[rdB,rdC] at hfa
     by_cases h32:c.toNat<32
     ·have h32I:(c.toNat:Int)<32:=by omega
      simp(maxSteps:=9^7) (disch:=try exact dI) only[hdS,hltI,hc,aq,h34I,h32I,rdB,rdC,push_cast,seval]
      refine ae.lentK hfa [0] rfl qsZ qsZ ?_
      simp(maxSteps:=9^7) (disch:=try exact dI) only[push_cast,seval]
      exact au [] (by simp(maxSteps:=9^7) (disch:=try exact dI) only[bT,rdB,rdC,push_cast,seval])
     ·have h32I:¬ (c.toNat:Int)<32:=by omega
      have h127:((c.toNat:Int)=127)=True:=eq_true (by omega)
      simp(maxSteps:=9^7) (disch:=try exact dI) only[hdS,hltI,hc,aq,h34I,h32I,h127,rdB,rdC,push_cast,seval]
      refine ae.lentK hfa [0] rfl qsZ qsZ ?_
      simp(maxSteps:=9^7) (disch:=try exact dI) only[push_cast,seval]
      exact au [] (by simp(maxSteps:=9^7) (disch:=try exact dI) only[bT,rdB,rdC,push_cast,seval])
    have h32I:¬ (c.toNat:Int)<32:=by omega
    have h127I:¬ (c.toNat:Int)=127:=by omega
    by_cases h92:c.toNat=92
    ·have h92I:((c.toNat:Int)=92)=True:=eq_true (by omega)
     by_cases hl1:j+1<R.s.length
     ·have hl1I:(j:Int)+1<(R.s.length:Int):=by omega
      have hne:R.s.drop (j+1)≠[]:=by
       intro h
       have:=congrArg List.length h
       simp at this;omega
      rw[fo h92 hne] at hZj
      have hx:=toE (T:=T) (p:=p) (sn (R.s.drop (j+1)) hne (by rw[Xh];omega))
      have hel:=lr (s:=R.s.drop (j+1))
      rw[Xh] at hel
      have hdr:(R.s.drop (j+1)).drop (ke (R.s.drop (j+1))).1.2=R.s.drop (j+1+(ke (R.s.drop (j+1))).1.2):=by rw[List.drop_drop]
      rw[hdr] at hZj
      generalize ke (R.s.drop (j+1))=E at *
      obtain⟨⟨x,sz⟩,er⟩:=E
      simp only[E5] at hx hel hZj
      obtain⟨q,hq⟩:∃ q,q=R.s.drop (j+1):=⟨_,rfl⟩
      have htn:((j:Int)+1).toNat=j+1:=by omega
      by_cases her:er=0
      ·subst her
       rw[if_pos rfl] at hZj
       obtain⟨e1,e2,e4,e3⟩:=hel rfl
       have k1:=kP (T:=T) (p:=p) (qC false [] x (by simp only[WG,WL] at ho ⊢;omega) (by omega))
       cases x with
       | nil=>exact absurd e4 (by simp)
       | cons x0 xs=>
         simp only[bB,aB,WO,WQ] at k1
         simp(maxSteps:=9^7) (disch:=try exact dI) only[hdS,hltI,hc,aq,h34I,h32I,h127I,h92I,hl1I,htn,rdB,rdC,push_cast,seval]
         refine ae.pure hx (by simp(maxSteps:=9^7) (disch:=try exact dI) only[WV,push_cast,seval]) ?_
         simp(maxSteps:=9^7) (disch:=try exact dI) only[push_cast,seval]
         refine ae.lentK k1 [1] rfl qsZ qsZ ?_
         simp(maxSteps:=9^7) (disch:=try exact dI) only[push_cast,seval]
         exact⟨(j+1+sz,x0::xs),bl (by simp(maxSteps:=9^7) (disch:=try exact dI) only[hdS,rdB,rdC,Nat.add_right_comm,push_cast,seval]),⟨by simp only;omega,by simp only[WG,WF,WL] at ho e3 ⊢;omega,f,by simp only;omega,hZj⟩,by simp only;omega⟩
      ·have herI:¬ er=0:=her
       rw[if_neg her] at hZj
       subst hZj
       have hfa:=hf j er
       simp only[rdB,rdC] at hfa
       simp(maxSteps:=9^7) (disch:=try exact dI) only[hdS,hltI,hc,aq,h34I,h32I,h127I,h92I,hl1I,htn,rdB,rdC,push_cast,seval]
       refine ae.pure hx (by simp(maxSteps:=9^7) (disch:=try exact dI) only[WV,push_cast,seval]) ?_
       simp(maxSteps:=9^7) (disch:=try exact dI) only[herI,push_cast,seval]
       refine ae.lentK hfa [0] rfl qsZ qsZ ?_
       simp(maxSteps:=9^7) (disch:=try exact dI) only[push_cast,seval]
       exact au [] (by simp(maxSteps:=9^7) (disch:=try exact dI) only[bT,rdB,rdC,push_cast,seval])
     ·have hl1I:¬ (j:Int)+1<(R.s.length:Int):=by omega
      have hnil:R.s.drop (j+1)=[]:=XB (by omega)
      rw[hnil,gi h92] at hZj
      simp(maxSteps:=9^7) (disch:=try exact dI) only[hdS,hltI,hc,aq,h34I,h32I,h127I,h92I,hl1I,rdB,rdC,push_cast,seval]
      exact⟨(j+1,[]),bl (by simp(maxSteps:=9^7) (disch:=try exact dI) only[hdS,rdB,rdC,push_cast,seval]),⟨by simp only;omega,by simp only[WG,WL] at ho ⊢;omega,f+1,by simp only;omega,by simp only;rw[hnil,k8];exact hZj⟩,by simp only;omega⟩
    ·have h92I:¬ (c.toNat:Int)=92:=by omega
     rw[dQ h34 hbd h92] at hZj
     have k1:=kP (T:=T) (p:=p) (nM false [] c (by simp only[WG,WL] at ho ⊢;omega))
     simp only[bB,aB,WO,WQ] at k1
     simp(maxSteps:=9^7) (disch:=try exact dI) only[hdS,hltI,hc,aq,h34I,h32I,h127I,h92I,rdB,rdC,push_cast,seval]
     refine ae.lentK k1 [1] rfl qsZ qsZ ?_
     simp(maxSteps:=9^7) (disch:=try exact dI) only[push_cast,seval]
     exact⟨(j+1,[c]),bl (by simp(maxSteps:=9^7) (disch:=try exact dI) only[hdS,rdB,rdC,push_cast,seval]),⟨by simp only;omega,by simp only[WG,WF,WL] at ho ⊢;omega,f,by simp only;omega,hZj⟩,by simp only;omega⟩
   ·have hltI:¬ (j:Int)<(R.s.length:Int):=by omega
    obtain rfl:j=R.s.length:=by omega
    rw[XX,k8] at hZj
    subst hZj
    have hfa:=hf a 4
    simp only[rdB,rdC] at hfa
    simp(maxSteps:=9^7) (disch:=try exact dI) only[hdS,hltI,rdB,rdC,push_cast,seval]
    refine ae.lentK hfa [0] rfl qsZ qsZ ?_
    simp(maxSteps:=9^7) (disch:=try exact dI) only[push_cast,seval]
    exact au [] (by simp(maxSteps:=9^7) (disch:=try exact dI) only[bT,rdB,rdC,push_cast,seval])
 | cons b r=>
   by_cases hlt:j<R.s.length
   ·obtain⟨c,hc⟩:∃ c,R.s[j]? = some c:=⟨_,WE hlt⟩
    have hltI:(j:Int)<(R.s.length:Int):=by omega
    rw[dm hc] at hZj
    by_cases h34:c.toNat=34
    ·have h34I:((c.toNat:Int)=34)=True:=eq_true (by omega)
     rw[jL h34] at hZj
     subst hZj
     have k1:=kP (T:=T) (p:=p) (vS true (b::r) (by simp only[WG,WL] at ho ⊢;omega))
     have k3:=kP (T:=T) (p:=p) (vR true (b::r) (by simp only[WG,WL] at ho ⊢;omega))
     have k2:=toE (T:=T) (p:=p) (vE (b::r))
     simp only[bB,KW,aB,stB] at k1 k3
     simp only[bT]
     cases hv:Lib.validD (b::r) with
     | true=>
       rw[hv] at k2
       rw[if_neg (fun h=>by cases h.2)]
       simp(maxSteps:=9^7) (disch:=try exact dI) only[hdS,hltI,hc,aq,h34I,rdB,rdC,push_cast,seval]
       refine ae.lentK k1 [1,2] rfl qsZ qsZ ?_
       simp(maxSteps:=9^7) (disch:=try exact dI) only[push_cast,seval]
       refine ae.pure k2 rfl ?_
       simp(maxSteps:=9^7) (disch:=try exact dI) only[push_cast,seval]
       refine ae.lentK k3 [1,5] rfl qsZ qsZ ?_
       simp(maxSteps:=9^7) (disch:=try exact dI) only[push_cast,seval]
       exact au [] (by simp(maxSteps:=9^7) (disch:=try exact dI) only[rdB,rdC,push_cast,seval])
     | false=>
       rw[hv] at k2
       rw[if_pos (by simp)]
       have hfa:=hf a 16
       simp only[rdB,rdC] at hfa
       simp(maxSteps:=9^7) (disch:=try exact dI) only[hdS,hltI,hc,aq,h34I,rdB,rdC,push_cast,seval]
       refine ae.lentK k1 [1,2] rfl qsZ qsZ ?_
       simp(maxSteps:=9^7) (disch:=try exact dI) only[push_cast,seval]
       refine ae.pure k2 rfl ?_
       simp(maxSteps:=9^7) (disch:=try exact dI) only[push_cast,seval]
       refine ae.lentK hfa [0] rfl qsZ qsZ ?_
       simp(maxSteps:=9^7) (disch:=try exact dI) only[push_cast,seval]
       refine ae.lentK k3 [1,5] rfl qsZ qsZ ?_
       simp(maxSteps:=9^7) (disch:=try exact dI) only[push_cast,seval]
       exact au [] (by simp(maxSteps:=9^7) (disch:=try exact dI) only[rdB,rdC,push_cast,seval])
    have h34I:¬ (c.toNat:Int)=34:=by omega
    by_cases hbd:c.toNat<32\/c.toNat=127
    ·rw[iX h34 hbd] at hZj
     subst hZj
     have hfa:=hf j 6
     simp only[rdB,rdC] at hfa
     by_cases h32:c.toNat<32
     ·have h32I:(c.toNat:Int)<32:=by omega
      simp(maxSteps:=9^7) (disch:=try exact dI) only[hdS,hltI,hc,aq,h34I,h32I,rdB,rdC,push_cast,seval]
      refine ae.lentK hfa [0] rfl qsZ qsZ ?_
      simp(maxSteps:=9^7) (disch:=try exact dI) only[push_cast,seval]
      exact au [] (by simp(maxSteps:=9^7) (disch:=try exact dI) only[bT,rdB,rdC,push_cast,seval])
     ·have h32I:¬ (c.toNat:Int)<32:=by omega
      have h127:((c.toNat:Int)=127)=True:=eq_true (by omega)
      simp(maxSteps:=9^7) (disch:=try exact dI) only[hdS,hltI,hc,aq,h34I,h32I,h127,rdB,rdC,push_cast,seval]
      refine ae.lentK hfa [0] rfl qsZ qsZ ?_
      simp(maxSteps:=9^7) (disch:=try exact dI) only[push_cast,seval]
      exact au [] (by simp(maxSteps:=9^7) (disch:=try exact dI) only[bT,rdB,rdC,push_cast,seval])
    have h32I:¬ (c.toNat:Int)<32:=by omega
    have h127I:¬ (c.toNat:Int)=127:=by omega
    by_cases h92:c.toNat=92
    ·have h92I:((c.toNat:Int)=92)=True:=eq_true (by omega)
     by_cases hl1:j+1<R.s.length
     ·have hl1I:(j:Int)+1<(R.s.length:Int):=by omega
      have hne:R.s.drop (j+1)≠[]:=by
       intro h
       have:=congrArg List.length h
       simp at this;omega
      rw[fo h92 hne] at hZj
      have hx:=toE (T:=T) (p:=p) (sn (R.s.drop (j+1)) hne (by rw[Xh];omega))
      have hel:=lr (s:=R.s.drop (j+1))
      rw[Xh] at hel
      have hdr:(R.s.drop (j+1)).drop (ke (R.s.drop (j+1))).1.2=R.s.drop (j+1+(ke (R.s.drop (j+1))).1.2):=by rw[List.drop_drop]
      rw[hdr] at hZj
      generalize ke (R.s.drop (j+1))=E at *
      obtain⟨⟨x,sz⟩,er⟩:=E
      simp only[E5] at hx hel hZj
      obtain⟨q,hq⟩:∃ q,q=R.s.drop (j+1):=⟨_,rfl⟩
      have htn:((j:Int)+1).toNat=j+1:=by omega
      by_cases her:er=0
      ·subst her
       rw[if_pos rfl] at hZj
       obtain⟨e1,e2,e4,e3⟩:=hel rfl
       have k1:=kP (T:=T) (p:=p) (qC true (b::r) x (by simp only[WG,WL] at ho ⊢;omega) (by omega))
       cases x with
       | nil=>exact absurd e4 (by simp)
       | cons x0 xs=>
         simp only[bB,aB,WO,WQ] at k1
         simp(maxSteps:=9^7) (disch:=try exact dI) only[hdS,hltI,hc,aq,h34I,h32I,h127I,h92I,hl1I,htn,rdB,rdC,push_cast,seval]
         refine ae.pure hx (by simp(maxSteps:=9^7) (disch:=try exact dI) only[WV,push_cast,seval]) ?_
         simp(maxSteps:=9^7) (disch:=try exact dI) only[push_cast,seval]
         refine ae.lentK k1 [1,2] rfl qsZ qsZ ?_
         simp(maxSteps:=9^7) (disch:=try exact dI) only[push_cast,seval]
         exact⟨(j+1+sz,b::(r++x0::xs)),bl (by simp(maxSteps:=9^7) (disch:=try exact dI) only[hdS,rdB,rdC,Nat.add_right_comm,push_cast,seval]),⟨by simp only;omega,by simp only[WG,WF,WL] at ho e3 ⊢;omega,f,by simp only;omega,hZj⟩,by simp only;omega⟩
      ·have herI:¬ er=0:=her
       rw[if_neg her] at hZj
       subst hZj
       have hfa:=hf j er
       simp only[rdB,rdC] at hfa
       simp(maxSteps:=9^7) (disch:=try exact dI) only[hdS,hltI,hc,aq,h34I,h32I,h127I,h92I,hl1I,htn,rdB,rdC,push_cast,seval]
       refine ae.pure hx (by simp(maxSteps:=9^7) (disch:=try exact dI) only[WV,push_cast,seval]) ?_
       simp(maxSteps:=9^7) (disch:=try exact dI) only[herI,push_cast,seval]
       refine ae.lentK hfa [0] rfl qsZ qsZ ?_
       simp(maxSteps:=9^7) (disch:=try exact dI) only[push_cast,seval]
       exact au [] (by simp(maxSteps:=9^7) (disch:=try exact dI) only[bT,rdB,rdC,push_cast,seval])
     ·have hl1I:¬ (j:Int)+1<(R.s.length:Int):=by omega
      have hnil:R.s.drop (j+1)=[]:=XB (by omega)
      rw[hnil,gi h92] at hZj
      simp(maxSteps:=9^7) (disch:=try exact dI) only[hdS,hltI,hc,aq,h34I,h32I,h127I,h92I,hl1I,rdB,rdC,push_cast,seval]
      exact⟨(j+1,(b::r)),bl (by simp(maxSteps:=9^7) (disch:=try exact dI) only[hdS,rdB,rdC,push_cast,seval]),⟨by simp only;omega,by simp only[WG,WL] at ho ⊢;omega,f+1,by simp only;omega,by simp only;rw[hnil,k8];exact hZj⟩,by simp only;omega⟩
    ·have h92I:¬ (c.toNat:Int)=92:=by omega
     rw[dQ h34 hbd h92] at hZj
     have k1:=kP (T:=T) (p:=p) (nM true (b::r) c (by simp only[WG,WL] at ho ⊢;omega))
     simp only[bB,aB,WO,WQ] at k1
     simp(maxSteps:=9^7) (disch:=try exact dI) only[hdS,hltI,hc,aq,h34I,h32I,h127I,h92I,rdB,rdC,push_cast,seval]
     refine ae.lentK k1 [1,2] rfl qsZ qsZ ?_
     simp(maxSteps:=9^7) (disch:=try exact dI) only[push_cast,seval]
     exact⟨(j+1,b::(r++[c])),bl (by simp(maxSteps:=9^7) (disch:=try exact dI) only[hdS,rdB,rdC,push_cast,seval]),⟨by simp only;omega,by simp only[WG,WF,WL] at ho ⊢;omega,f,by simp only;omega,hZj⟩,by simp only;omega⟩
   ·have hltI:¬ (j:Int)<(R.s.length:Int):=by omega
    obtain rfl:j=R.s.length:=by omega
    rw[XX,k8] at hZj
    subst hZj
    have hfa:=hf a 4
    simp only[rdB,rdC] at hfa
    simp(maxSteps:=9^7) (disch:=try exact dI) only[hdS,hltI,rdB,rdC,push_cast,seval]
    refine ae.lentK hfa [0] rfl qsZ qsZ ?_
    simp(maxSteps:=9^7) (disch:=try exact dI) only[push_cast,seval]
    exact au [] (by simp(maxSteps:=9^7) (disch:=try exact dI) only[bT,rdB,rdC,push_cast,seval])
end
def Du:Option Nat->Int
 | none=>-1
 | some o=>o
def hdH (R:Rd)(a:Nat):Nat×Int×List UInt8->St
 | (j,o,[])=>⟨[(0,.ptr 0 0),(1,.pv (.int .i64 (a:Int))),(4,.ptr 1 0),(5,.pv (.int .i64 o)),(6,.pv (.int .i64 (j:Int)))],[(0,rdB R),(1,.cells 83 true [.pv .nilp,.pv .nils])],2⟩
 | (j,o,b::r)=>⟨[(0,.ptr 0 0),(1,.pv (.int .i64 (a:Int))),(4,.ptr 1 0),(5,.pv (.int .i64 o)),(6,.pv (.int .i64 (j:Int)))],[(0,rdB R),(1,.cells 83 true [.ptr 1 0,.row 2 1 0 (r.length+1)]),(2,.cells 5 false ((aD (b::r)).map .pv))],3⟩
theorem xp {i:Nat}{o:Option Nat}{out:List UInt8}:kQ [] i o out = .short:=rfl
theorem uL {c:UInt8}{r:List UInt8}{i:Nat}{out:List UInt8}(h:c.toNat=34):kQ (c::r) i none out = .done out (i+1):=by rw[kQ,if_pos ⟨h,rfl⟩]
theorem uK {c:UInt8}(h:c.toNat=34):r8 c=none:=by unfold r8;rw[if_neg (by omega),if_neg (by omega),if_neg (by omega)]
theorem pR {c:UInt8}{r:List UInt8}{i:Nat}{o:Option Nat}{out:List UInt8}(h:¬ (c.toNat=34/\o=none))(hv:r8 c=none):kQ (c::r) i o out = .bad i 13:=by rw[kQ,if_neg h,hv]
theorem Eu {c:UInt8}{r:List UInt8}{i n:Nat}{out:List UInt8}(hv:r8 c=some n):kQ (c::r) i none out=kQ r (i+1) (some n) out:=by
 have h:¬ c.toNat=34:=fun h=>by rw[uK h] at hv;cases hv
 rw[kQ,if_neg (fun q=>h q.1),hv]
theorem Et {c:UInt8}{r:List UInt8}{i n o:Nat}{out:List UInt8}(hv:r8 c=some n):kQ (c::r) i (some o) out=kQ r (i+1) none (out++[Xn (16*o+n)]):=by
 rw[kQ,if_neg (fun q=>by cases q.2),hv]
section
variable {T:Nat}{p:PV}
theorem J9 (R:Rd)(a:Nat)(hs:R.s.length<=65536)(ha:a+1<R.s.length)(hE:R.e=0):aP Tryz.prog (ci T p) 1 161 [.ptr 0 0,.pv (.int .i64 (a:Int))] [rdB R] (.pv (.tup [])) [rdB (xm R a)]:=by
 have hf:=fun i e=>cD (T:=T) (p:=p) R i e
 unfold xm
 obtain⟨Z,hZ⟩:∃ Z,Z=kQ (R.s.drop (a+2)) (a+2) none []:=⟨_,rfl⟩
 rw[<- hZ]
 refine aP.intro Vu.2 (by simp[Vu]) ?_
 simp(disch:=try exact dI) only[Vu,push_cast,seval]
 refine lK [] (hdH R a) (fun y=>y.1<=R.s.length/\y.2.2.length<=y.1/\∃ od,Du od=y.2.1/\(∀ o,od=some o->o<16)/\Z=kQ (R.s.drop y.1) y.1 od y.2.2) (fun y=>R.s.length - y.1) (a+2,-1,[]) ?_ ?_ ?_
 ·exact bl (by simp(disch:=try exact dI) only[hdH,rdB,rdC,push_cast,seval];omega)
 ·exact⟨by simp only;omega,by simp,none,rfl,by simp,hZ⟩
 rintro⟨j,od',out⟩ ⟨hj,ho,od,hod,hol,hZj⟩
 simp only at hj ho hod hZj
 subst hod
 cases out with
 | nil=>
   by_cases hlt:j<R.s.length
   ·obtain⟨c,hc⟩:∃ c,R.s[j]? = some c:=⟨_,WE hlt⟩
    have hltI:(j:Int)<(R.s.length:Int):=by omega
    rw[dm hc] at hZj
    have hx:=toE (T:=T) (p:=p) (Ew c)
    have hcl:=c.toNat_lt
    cases hv:r8 c with
    | none=>
      rw[Lu,hv] at hx
      simp only at hx
      cases od with
      | none=>
        simp only[Du]
        by_cases h34:c.toNat=34
        ·have h34I:((c.toNat:Int)=34)=True:=eq_true (by omega)
         rw[uL h34] at hZj
         subst hZj
         have k1:=kP (T:=T) (p:=p) (lN false [] (by simp only[WG,WL] at ho ⊢;omega))
         simp only[bB,aB,stB] at k1
         simp only[bT]
         rw[if_neg (fun h=>by cases h.1)]
         simp(disch:=try exact dI) only[hdH,hltI,hc,aq,rdB,rdC,push_cast,seval]
         refine ae.pure hx rfl ?_
         simp(disch:=try exact dI) only[h34I,push_cast,seval]
         refine ae.lentK k1 [1] rfl qsZ qsZ ?_
         refine zgZ ?_
         exact au [] (by simp(disch:=try exact dI) only[rdB,rdC,push_cast,seval])
        ·have h34I:¬ (c.toNat:Int)=34:=by omega
         rw[pR (fun q=>h34 q.1) hv] at hZj
         subst hZj
         have hfa:=hf j 13
         simp only[rdB,rdC] at hfa
         simp(disch:=try exact dI) only[hdH,hltI,hc,aq,rdB,rdC,push_cast,seval]
         refine ae.pure hx rfl ?_
         simp(disch:=try exact dI) only[h34I,push_cast,seval]
         refine ae.lentK hfa [0] rfl qsZ qsZ ?_
         refine zgZ ?_
         exact au [] (by simp(disch:=try exact dI) only[bT,rdB,rdC,push_cast,seval])
      | some o=>
        have h16:=hol o rfl
        have hoI:¬ (o:Int)<0:=by omega
        simp only[Du]
        rw[pR (fun q=>by cases q.2) hv] at hZj
        subst hZj
        have hfa:=hf j 13
        simp only[rdB,rdC] at hfa
        by_cases h34:c.toNat=34
        ·have h34I:((c.toNat:Int)=34)=True:=eq_true (by omega)
         simp(disch:=try exact dI) only[hdH,hltI,hc,aq,rdB,rdC,push_cast,seval]
         refine ae.pure hx rfl ?_
         simp(disch:=try exact dI) only[h34I,hoI,push_cast,seval]
         refine ae.lentK hfa [0] rfl qsZ qsZ ?_
         refine zgZ ?_
         exact au [] (by simp(disch:=try exact dI) only[bT,rdB,rdC,push_cast,seval])
        ·have h34I:¬ (c.toNat:Int)=34:=by omega
         simp(disch:=try exact dI) only[hdH,hltI,hc,aq,rdB,rdC,push_cast,seval]
         refine ae.pure hx rfl ?_
         simp(disch:=try exact dI) only[h34I,push_cast,seval]
         refine ae.lentK hfa [0] rfl qsZ qsZ ?_
         refine zgZ ?_
         exact au [] (by simp(disch:=try exact dI) only[bT,rdB,rdC,push_cast,seval])
    | some n=>
      rw[Lu,hv] at hx
      simp only at hx
      have hn16:=pP hv
      have hnI:¬ (n:Int)<0:=by omega
      have h34:¬ c.toNat=34:=fun h=>by rw[uK h] at hv;cases hv
      have h34I:¬ (c.toNat:Int)=34:=by omega
      cases od with
      | none=>
        rw[Eu hv] at hZj
        simp only[Du]
        simp(disch:=try exact dI) only[hdH,hltI,hc,aq,rdB,rdC,push_cast,seval]
        refine ae.pure hx rfl ?_
        simp(disch:=try exact dI) only[h34I,hnI,push_cast,seval]
        exact⟨(j+1,(n:Int),[]),bl (by simp(disch:=try exact dI) only[hdH,rdB,rdC,push_cast,seval]),⟨by simp only;omega,by simp only[WG,WL] at ho ⊢;omega,some n,rfl,(fun o h=>by cases h;exact hn16),hZj⟩,by simp only;omega⟩
      | some o=>
        have h16:=hol o rfl
        have hoI:¬ (o:Int)<0:=by omega
        rw[Et hv] at hZj
        simp only[Du]
        have hw:=oU (n:=16*(o:Int)+(n:Int)) (by omega) (by omega)
        have hw64:=iP (n:=16*(o:Int)+(n:Int)) (by omega) (by omega)
        have hu:((Xn (16*o+n)).toNat:Int)=16*(o:Int)+(n:Int):=by
         rw[XD];omega
        have k1:=kP (T:=T) (p:=p) (nM false [] (Xn (16*o+n)) (by simp only[WG,WL] at ho ⊢;omega))
        rw[hu] at k1
        generalize Xn (16*o+n)=u at *
        simp only[bB,aB,WO,WQ] at k1
        simp(disch:=try exact dI) only[hdH,hltI,hc,aq,rdB,rdC,push_cast,seval]
        refine ae.pure hx rfl ?_
        simp(disch:=try exact dI) only[h34I,hnI,hoI,hw,push_cast,seval]
        refine ae.lentK k1 [1] rfl qsZ qsZ ?_
        refine zgZ ?_
        exact⟨(j+1,-1,[u]),bl (by simp(disch:=try exact dI) only[hdH,rdB,rdC,push_cast,seval]),⟨by simp only;omega,by simp only[WG,WF,WL] at ho ⊢;omega,none,rfl,(fun o h=>by cases h),hZj⟩,by simp only;omega⟩
   ·have hltI:¬ (j:Int)<(R.s.length:Int):=by omega
    obtain rfl:j=R.s.length:=by omega
    rw[XX,xp] at hZj
    subst hZj
    have hfa:=hf a 4
    simp only[rdB,rdC] at hfa
    generalize Du od=oi
    simp(disch:=try exact dI) only[hdH,hltI,rdB,rdC,push_cast,seval]
    refine ae.lentK hfa [0] rfl qsZ qsZ ?_
    refine zgZ ?_
    exact au [] (by simp(disch:=try exact dI) only[bT,rdB,rdC,push_cast,seval])
 | cons b r=>
   by_cases hlt:j<R.s.length
   ·obtain⟨c,hc⟩:∃ c,R.s[j]? = some c:=⟨_,WE hlt⟩
    have hltI:(j:Int)<(R.s.length:Int):=by omega
    rw[dm hc] at hZj
    have hx:=toE (T:=T) (p:=p) (Ew c)
    have hcl:=c.toNat_lt
    cases hv:r8 c with
    | none=>
      rw[Lu,hv] at hx
      simp only at hx
      cases od with
      | none=>
        simp only[Du]
        by_cases h34:c.toNat=34
        ·have h34I:((c.toNat:Int)=34)=True:=eq_true (by omega)
         rw[uL h34] at hZj
         subst hZj
         have k1:=kP (T:=T) (p:=p) (lN true (b::r) (by simp only[WG,WL] at ho ⊢;omega))
         simp only[bB,aB,stB] at k1
         simp only[bT]
         rw[if_neg (fun h=>by cases h.1)]
         simp(disch:=try exact dI) only[hdH,hltI,hc,aq,rdB,rdC,push_cast,seval]
         refine ae.pure hx rfl ?_
         simp(disch:=try exact dI) only[h34I,push_cast,seval]
         refine ae.lentK k1 [1,2] rfl qsZ qsZ ?_
         refine zgZ ?_
         exact au [] (by simp(disch:=try exact dI) only[rdB,rdC,push_cast,seval])
        ·have h34I:¬ (c.toNat:Int)=34:=by omega
         rw[pR (fun q=>h34 q.1) hv] at hZj
         subst hZj
         have hfa:=hf j 13
         simp only[rdB,rdC] at hfa
         simp(disch:=try exact dI) only[hdH,hltI,hc,aq,rdB,rdC,push_cast,seval]
         refine ae.pure hx rfl ?_
         simp(disch:=try exact dI) only[h34I,push_cast,seval]
         refine ae.lentK hfa [0] rfl qsZ qsZ ?_
         refine zgZ ?_
         exact au [] (by simp(disch:=try exact dI) only[bT,rdB,rdC,push_cast,seval])
      | some o=>
        have h16:=hol o rfl
        have hoI:¬ (o:Int)<0:=by omega
        simp only[Du]
        rw[pR (fun q=>by cases q.2) hv] at hZj
        subst hZj
        have hfa:=hf j 13
        simp only[rdB,rdC] at hfa
        by_cases h34:c.toNat=34
        ·have h34I:((c.toNat:Int)=34)=True:=eq_true (by omega)
         simp(disch:=try exact dI) only[hdH,hltI,hc,aq,rdB,rdC,push_cast,seval]
         refine ae.pure hx rfl ?_
         simp(disch:=try exact dI) only[h34I,hoI,push_cast,seval]
         refine ae.lentK hfa [0] rfl qsZ qsZ ?_
         refine zgZ ?_
         exact au [] (by simp(disch:=try exact dI) only[bT,rdB,rdC,push_cast,seval])
        ·have h34I:¬ (c.toNat:Int)=34:=by omega
         simp(disch:=try exact dI) only[hdH,hltI,hc,aq,rdB,rdC,push_cast,seval]
         refine ae.pure hx rfl ?_
         simp(disch:=try exact dI) only[h34I,push_cast,seval]
         refine ae.lentK hfa [0] rfl qsZ qsZ ?_
         refine zgZ ?_
         exact au [] (by simp(disch:=try exact dI) only[bT,rdB,rdC,push_cast,seval])
    | some n=>
      rw[Lu,hv] at hx
      simp only at hx
      have hn16:=pP hv
      have hnI:¬ (n:Int)<0:=by omega
      have h34:¬ c.toNat=34:=fun h=>by rw[uK h] at hv;cases hv
      have h34I:¬ (c.toNat:Int)=34:=by omega
      cases od with
      | none=>
        rw[Eu hv] at hZj
        simp only[Du]
        simp(disch:=try exact dI) only[hdH,hltI,hc,aq,rdB,rdC,push_cast,seval]
        refine ae.pure hx rfl ?_
        simp(disch:=try exact dI) only[h34I,hnI,push_cast,seval]
        exact⟨(j+1,(n:Int),(b::r)),bl (by simp(disch:=try exact dI) only[hdH,rdB,rdC,push_cast,seval]),⟨by simp only;omega,by simp only[WG,WL] at ho ⊢;omega,some n,rfl,(fun o h=>by cases h;exact hn16),hZj⟩,by simp only;omega⟩
      | some o=>
        have h16:=hol o rfl
        have hoI:¬ (o:Int)<0:=by omega
        rw[Et hv] at hZj
        simp only[Du]
        have hw:=oU (n:=16*(o:Int)+(n:Int)) (by omega) (by omega)
        have hw64:=iP (n:=16*(o:Int)+(n:Int)) (by omega) (by omega)
        have hu:((Xn (16*o+n)).toNat:Int)=16*(o:Int)+(n:Int):=by
         rw[XD];omega
        have k1:=kP (T:=T) (p:=p) (nM true (b::r) (Xn (16*o+n)) (by simp only[WG,WL] at ho ⊢;omega))
        rw[hu] at k1
        generalize Xn (16*o+n)=u at *
        simp only[bB,aB,WO,WQ] at k1
        simp(disch:=try exact dI) only[hdH,hltI,hc,aq,rdB,rdC,push_cast,seval]
        refine ae.pure hx rfl ?_
        simp(disch:=try exact dI) only[h34I,hnI,hoI,hw,push_cast,seval]
        refine ae.lentK k1 [1,2] rfl qsZ qsZ ?_
        refine zgZ ?_
        exact⟨(j+1,-1,b::(r++[u])),bl (by simp(disch:=try exact dI) only[hdH,rdB,rdC,push_cast,seval]),⟨by simp only;omega,by simp only[WG,WF,WL] at ho ⊢;omega,none,rfl,(fun o h=>by cases h),hZj⟩,by simp only;omega⟩
   ·have hltI:¬ (j:Int)<(R.s.length:Int):=by omega
    obtain rfl:j=R.s.length:=by omega
    rw[XX,xp] at hZj
    subst hZj
    have hfa:=hf a 4
    simp only[rdB,rdC] at hfa
    generalize Du od=oi
    simp(disch:=try exact dI) only[hdH,hltI,rdB,rdC,push_cast,seval]
    refine ae.lentK hfa [0] rfl qsZ qsZ ?_
    refine zgZ ?_
    exact au [] (by simp(disch:=try exact dI) only[bT,rdB,rdC,push_cast,seval])
end
