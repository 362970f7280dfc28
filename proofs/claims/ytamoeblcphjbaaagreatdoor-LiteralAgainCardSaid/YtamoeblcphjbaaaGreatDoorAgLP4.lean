/- A part of the proof for LiteralAgainCardSaid. -/
import Derived.Test.YtamoeblcphjbaaaGreatDoorAgLP3
set_option maxRecDepth 100000
set_option linter.unusedVariables false
set_option linter.unusedSimpArgs false
-- many steps
namespace Go.Proofs.YtamoeblcphjbaaaGreatDoor
open Go Go.Ab
attribute [local irreducible] vc
def GI (t:Bool):List UInt8→List Blk
 | []=>[.cells 83 true [aB t,.pv .nils]]
 | b::r=>[.cells 83 true [aB t,.row 1 1 0 (r.length+1)],.bts 5 (b::r)]
theorem sy (t:Bool)(l:List UInt8)(hl:l.length≤100000000):aQ Tryz.prog aF 1 52 [.ptr 0 0] (bB t l) (.pv (.str l)) (GI t l):=by
 refine aQ.intro CE (by simp[F52]) ?_
 cases l with
 | nil=>
   cases t<;>(
   simp(maxSteps:=9^7) (disch:=try exact dI) only[F52,bB,aB,push_cast,seval]
   exact ap [] (by simp(maxSteps:=9^7) (disch:=try exact dI) only[GI,aB,push_cast,seval]))
 | cons b r=>
   have hA:=fun (k:Int) (q:Nat) (hk:k=((b::r).length:Int))=>sm (t:=5) (r:=q) (f:=false) (l:=b::r) hk (by simp) (by simp at hl ⊢;omega)
   cases t<;>(
   simp(maxSteps:=9^7) (disch:=try exact dI) only[F52,bB,aB,hA,push_cast,seval]
   exact ap [] (by simp(maxSteps:=9^7) (disch:=try exact dI) only[GI,aB,push_cast,seval]))
theorem sx (t:Bool)(l:List UInt8)(hl:l.length≤100000000):aQ Tryz.prog aF 1 52 [.ptr 0 0] (GI t l) (.pv (.str l)) (stB l):=by
 refine aQ.intro CE (by simp[F52]) ?_
 cases l with
 | nil=>
   cases t<;>(
   simp(maxSteps:=9^7) (disch:=try exact dI) only[F52,GI,aB,push_cast,seval]
   exact ap [] (by simp(maxSteps:=9^7) (disch:=try exact dI) only[stB,push_cast,seval]))
 | cons b r=>
   have hA:=fun (k:Int) (q:Nat) (hk:k=((b::r).length:Int))=>xD (t:=5) (r:=q) (l:=b::r) hk (by simp) (by simp at hl ⊢;omega)
   cases t<;>(
   simp(maxSteps:=9^7) (disch:=try exact dI) only[F52,GI,aB,hA,push_cast,seval]
   exact ap [] (by simp(maxSteps:=9^7) (disch:=try exact dI) only[stB,push_cast,seval]))
def hdS (R:Rd)(a:Nat):Nat×List UInt8→St
 | (j,[])=>⟨[(0,.ptr 0 0),(1,.pv (.int .i64 (a:Int))),(4,.ptr 1 0),(5,.pv (.int .i64 (j:Int)))],[(0,rdB R),(1,.cells 83 true [.pv .nilp,.pv .nils])],2⟩
 | (j,b::r)=>⟨[(0,.ptr 0 0),(1,.pv (.int .i64 (a:Int))),(4,.ptr 1 0),(5,.pv (.int .i64 (j:Int)))],[(0,rdB R),(1,.cells 83 true [.ptr 1 0,.row 2 1 0 (r.length+1)]),(2,.cells 5 false ((aA (b::r)).map .pv))],3⟩
theorem JY (n:Nat):1≤(Go.Utf8.encode (n:Int)).data.toList.length∧(Go.Utf8.encode (n:Int)).data.toList.length≤4:=by
 unfold Go.Utf8.encode
 generalize (if Go.Utf8.valid (n:Int)=true then (n:Int).toNat else Go.Utf8.runeError)=c
 dsimp only
 repeat' split
 all_goals exact⟨Nat.le_of_ble_eq_true rfl,Nat.le_of_ble_eq_true rfl⟩
theorem lS {n:Nat}{t:List UInt8}(h:fi n=some t):1≤t.length∧t.length≤4:=by
 unfold fi at h
 split at h
 ·have:=Option.some.inj h
  rw[← this];exact JY n
 ·cases h
theorem jI {s:List UInt8}(h:(gl s).2=0):1≤(gl s).1.2∧(gl s).1.2≤s.length∧1≤(gl s).1.1.length∧(gl s).1.1.length≤4:=by
 cases s with
 | nil=>exact absurd h (by simp[gl])
 | cons c r=>
   cases hE:p8 c with
   | some b=>rw[Bu hE];simp
   | none=>
     rw[Bt hE] at h ⊢
     split at h
     ·rename_i hp
      rw[if_pos hp]
      have hpl:2≤(c::r).length:=(of_decide_eq_true hp).2
      obtain⟨U,hU⟩:∃ U,U=(c::r).drop 2:=⟨_,rfl⟩
      have hUl:U.length+2=(c::r).length:=by rw[hU,List.length_drop];omega
      rw[← hU] at h ⊢
      cases hC:iP 125 U with
      | none=>rw[Hi hC] at h;simp at h
      | some q=>
        obtain⟨d,e⟩:=q
        by_cases hd:d.length<1∨6<d.length
        ·rw[Bq hC hd] at h;simp at h
        ·rw[Br hC hd] at h ⊢
         have hs:=(g9 0 hC).2
         have hsl:U.length=d.length+(e.length+1):=by rw[hs];simp
         cases hx:lD 0 d with
         | none=>rw[hx] at h;simp[Hj] at h
         | some n=>
           rw[hx] at h
           simp only[Hj] at h ⊢
           cases hp:fi n with
           | none=>rw[hp] at h;simp at h
           | some t=>
             have:=lS hp
             simp only
             omega
     ·simp at h
theorem fX {f:Nat}{c:UInt8}{r:List UInt8}{i:Nat}{o:List UInt8}(h:c.toNat=34):ji (f+1) (c::r) i o = .done o (i+1):=by rw[ji,if_pos h]
theorem fx {f:Nat}{c:UInt8}{r:List UInt8}{i:Nat}{o:List UInt8}(h:¬ c.toNat=34)(h2:c.toNat<32∨c.toNat=127):ji (f+1) (c::r) i o = .bad i 6:=by rw[ji,if_neg h,if_pos h2]
theorem cH {f:Nat}{c:UInt8}{r:List UInt8}{i:Nat}{o:List UInt8}(h:¬ c.toNat=34)(h2:¬ (c.toNat<32∨c.toNat=127))(h3:¬ c.toNat=92):ji (f+1) (c::r) i o=ji f r (i+1) (o++[c]):=by rw[ji,if_neg h,if_neg h2,if_neg h3]
theorem dY {f:Nat}{c:UInt8}{i:Nat}{o:List UInt8}(h:c.toNat=92):ji (f+1) [c] i o = .short:=by rw[ji,if_neg (by omega),if_neg (by omega),if_pos h,if_pos rfl]
theorem dF {f:Nat}{c:UInt8}{r:List UInt8}{i:Nat}{o:List UInt8}(h:c.toNat=92)(h2:r≠[]):ji (f+1) (c::r) i o=if (gl r).2=0 then ji f (r.drop (gl r).1.2) (i+1+(gl r).1.2) (o++(gl r).1.1) else .bad i (gl r).2:=by rw[ji,if_neg (by omega),if_neg (by omega),if_pos h,if_neg h2]
theorem jv (f:Nat)(i:Nat)(o:List UInt8):ji f [] i o = .short:=by cases f<;>rfl
section
variable {T:Nat}{p:PV}
theorem sl (s:List UInt8):aq Tryz.prog aF 180 [.str s] (.bool (Lib.validD s)):=by
 have h:=fL s
 generalize Lib.validD s=b at *
 refine aq.intro KO (by simp[Q6]) ?_
 simp(maxSteps:=9^7) (disch:=try exact dI) only[Q6,push_cast,seval]
 refine ab.pure h rfl ?_
 simp(maxSteps:=9^7) (disch:=try exact dI) only[push_cast,seval]
set_option maxHeartbeats 8000000 in
theorem LV (R:Rd)(a:Nat)(hs:R.s.length≤65536)(ha:a<R.s.length)(hE:R.e=0):aQ Tryz.prog (dM T p) 1 160 [.ptr 0 0,.pv (.int .i64 (a:Int))] [rdB R] (.pv (.tup [])) [rdB (sA R a)]:=by
 have hf:=fun i e=>cW (T:=T) (p:=p) R i e
 unfold sA
 obtain⟨Z,hZ⟩:∃ Z,Z=ji (R.s.length+1) (R.s.drop (a+1)) (a+1) []:=⟨_,rfl⟩
 rw[← hZ]
 refine aQ.intro K2 (by simp[Rc]) ?_
 simp(maxSteps:=9^7) (disch:=try exact dI) only[Rc,push_cast,seval]
 refine jS [] (hdS R a) (fun y=>y.1≤R.s.length∧y.2.length≤4*y.1∧∃ f,R.s.length<f+y.1∧Z=ji f (R.s.drop y.1) y.1 y.2) (fun y=>R.s.length - y.1) (a+1,[]) ?_ ?_ ?_
 ·exact bT (by simp(maxSteps:=9^7) (disch:=try exact dI) only[hdS,rdB,rdC,push_cast,seval])
 ·exact⟨by simp only;omega,by simp,R.s.length+1,by simp only;omega,hZ⟩
 rintro⟨j,out⟩ ⟨hj,ho,f,hfj,hZj⟩
 simp only at hj ho hfj hZj
 obtain⟨f,rfl⟩:∃ g,f=g+1:=⟨f - 1,by omega⟩
 cases out with
 | nil=>
   by_cases hlt:j<R.s.length
   ·obtain⟨c,hc⟩:∃ c,R.s[j]? = some c:=⟨_,List.getElem?_eq_getElem hlt⟩
    have hltI:(j:Int)<(R.s.length:Int):=by omega
    rw[bV hc] at hZj
    by_cases h34:c.toNat=34
    ·have h34I:((c.toNat:Int)=34)=True:=eq_true (by omega)
     rw[fX h34] at hZj
     subst hZj
     have k1:=jm (T:=T) (p:=p) (sy false [] (by simp only[List.length_cons,List.length_nil] at ho ⊢;omega))
     have k3:=jm (T:=T) (p:=p) (sx false [] (by simp only[List.length_cons,List.length_nil] at ho ⊢;omega))
     have k2:=toE (T:=T) (p:=p) (sl [])
     simp only[bB,GI,aB,stB] at k1 k3
     simp only[bp]
     cases hv:Lib.validD [] with
     | true=>
       rw[hv] at k2
       rw[if_neg (fun h=>by cases h.2)]
       simp(maxSteps:=9^7) (disch:=try exact dI) only[hdS,hltI,hc,ag,h34I,rdB,rdC,push_cast,seval]
       refine ab.lentK k1 [1] rfl qsZ qsZ ?_
       simp(maxSteps:=9^7) (disch:=try exact dI) only[push_cast,seval]
       refine ab.pure k2 rfl ?_
       simp(maxSteps:=9^7) (disch:=try exact dI) only[push_cast,seval]
       refine ab.lentK k3 [1] rfl qsZ qsZ ?_
       simp(maxSteps:=9^7) (disch:=try exact dI) only[push_cast,seval]
       exact ap [] (by simp(maxSteps:=9^7) (disch:=try exact dI) only[rdB,rdC,push_cast,seval])
     | false=>
       rw[hv] at k2
       rw[if_pos (by simp)]
       have hfa:=hf a 16
       simp only[rdB,rdC] at hfa
       simp(maxSteps:=9^7) (disch:=try exact dI) only[hdS,hltI,hc,ag,h34I,rdB,rdC,push_cast,seval]
       refine ab.lentK k1 [1] rfl qsZ qsZ ?_
       simp(maxSteps:=9^7) (disch:=try exact dI) only[push_cast,seval]
       refine ab.pure k2 rfl ?_
       simp(maxSteps:=9^7) (disch:=try exact dI) only[push_cast,seval]
       refine ab.lentK hfa [0] rfl qsZ qsZ ?_
       simp(maxSteps:=9^7) (disch:=try exact dI) only[push_cast,seval]
       refine ab.lentK k3 [1] rfl qsZ qsZ ?_
       simp(maxSteps:=9^7) (disch:=try exact dI) only[push_cast,seval]
       exact ap [] (by simp(maxSteps:=9^7) (disch:=try exact dI) only[rdB,rdC,push_cast,seval])
    have h34I:¬ (c.toNat:Int)=34:=by omega
    by_cases hbd:c.toNat<32∨c.toNat=127
    ·rw[fx h34 hbd] at hZj
     subst hZj
     have hfa:=hf j 6
     simp only[rdB,rdC] at hfa
     by_cases h32:c.toNat<32
     ·have h32I:(c.toNat:Int)<32:=by omega
      simp(maxSteps:=9^7) (disch:=try exact dI) only[hdS,hltI,hc,ag,h34I,h32I,rdB,rdC,push_cast,seval]
      refine ab.lentK hfa [0] rfl qsZ qsZ ?_
      simp(maxSteps:=9^7) (disch:=try exact dI) only[push_cast,seval]
      exact ap [] (by simp(maxSteps:=9^7) (disch:=try exact dI) only[bp,rdB,rdC,push_cast,seval])
     ·have h32I:¬ (c.toNat:Int)<32:=by omega
      have h127:((c.toNat:Int)=127)=True:=eq_true (by omega)
      simp(maxSteps:=9^7) (disch:=try exact dI) only[hdS,hltI,hc,ag,h34I,h32I,h127,rdB,rdC,push_cast,seval]
      refine ab.lentK hfa [0] rfl qsZ qsZ ?_
      simp(maxSteps:=9^7) (disch:=try exact dI) only[push_cast,seval]
      exact ap [] (by simp(maxSteps:=9^7) (disch:=try exact dI) only[bp,rdB,rdC,push_cast,seval])
    have h32I:¬ (c.toNat:Int)<32:=by omega
    have h127I:¬ (c.toNat:Int)=127:=by omega
    by_cases h92:c.toNat=92
    ·have h92I:((c.toNat:Int)=92)=True:=eq_true (by omega)
     by_cases hl1:j+1<R.s.length
     ·have hl1I:(j:Int)+1<(R.s.length:Int):=by omega
      have hne:R.s.drop (j+1)≠[]:=by
       intro h
       have:=congrArg List.length h
       simp at this;omega
      rw[dF h92 hne] at hZj
      have hx:=toE (T:=T) (p:=p) (pr (R.s.drop (j+1)) hne (by rw[List.length_drop];omega))
      have hel:=jI (s:=R.s.drop (j+1))
      rw[List.length_drop] at hel
      have hdr:(R.s.drop (j+1)).drop (gl (R.s.drop (j+1))).1.2=R.s.drop (j+1+(gl (R.s.drop (j+1))).1.2):=by rw[List.drop_drop]
      rw[hdr] at hZj
      generalize gl (R.s.drop (j+1))=E at *
      obtain⟨⟨x,sz⟩,er⟩:=E
      simp only[Bp] at hx hel hZj
      obtain⟨q,hq⟩:∃ q,q=R.s.drop (j+1):=⟨_,rfl⟩
      have htn:((j:Int)+1).toNat=j+1:=by omega
      by_cases her:er=0
      ·subst her
       rw[if_pos rfl] at hZj
       obtain⟨e1,e2,e4,e3⟩:=hel rfl
       have k1:=jm (T:=T) (p:=p) (nR false [] x (by simp only[List.length_cons,List.length_nil] at ho ⊢;omega) (by omega))
       cases x with
       | nil=>exact absurd e4 (by simp)
       | cons x0 xs=>
         simp only[bB,aB,List.nil_append,List.cons_append] at k1
         simp(maxSteps:=9^7) (disch:=try exact dI) only[hdS,hltI,hc,ag,h34I,h32I,h127I,h92I,hl1I,htn,rdB,rdC,push_cast,seval]
         refine ab.pure hx (by simp(maxSteps:=9^7) (disch:=try exact dI) only[List.take_length,push_cast,seval]) ?_
         simp(maxSteps:=9^7) (disch:=try exact dI) only[push_cast,seval]
         refine ab.lentK k1 [1] rfl qsZ qsZ ?_
         simp(maxSteps:=9^7) (disch:=try exact dI) only[push_cast,seval]
         exact⟨(j+1+sz,x0::xs),bT (by simp(maxSteps:=9^7) (disch:=try exact dI) only[hdS,rdB,rdC,Nat.add_right_comm,push_cast,seval]),⟨by simp only;omega,by simp only[List.length_cons,List.length_append,List.length_nil] at ho e3 ⊢;omega,f,by simp only;omega,hZj⟩,by simp only;omega⟩
      ·have herI:¬ er=0:=her
       rw[if_neg her] at hZj
       subst hZj
       have hfa:=hf j er
       simp only[rdB,rdC] at hfa
       simp(maxSteps:=9^7) (disch:=try exact dI) only[hdS,hltI,hc,ag,h34I,h32I,h127I,h92I,hl1I,htn,rdB,rdC,push_cast,seval]
       refine ab.pure hx (by simp(maxSteps:=9^7) (disch:=try exact dI) only[List.take_length,push_cast,seval]) ?_
       simp(maxSteps:=9^7) (disch:=try exact dI) only[herI,push_cast,seval]
       refine ab.lentK hfa [0] rfl qsZ qsZ ?_
       simp(maxSteps:=9^7) (disch:=try exact dI) only[push_cast,seval]
       exact ap [] (by simp(maxSteps:=9^7) (disch:=try exact dI) only[bp,rdB,rdC,push_cast,seval])
     ·have hl1I:¬ (j:Int)+1<(R.s.length:Int):=by omega
      have hnil:R.s.drop (j+1)=[]:=List.drop_eq_nil_of_le (by omega)
      rw[hnil,dY h92] at hZj
      simp(maxSteps:=9^7) (disch:=try exact dI) only[hdS,hltI,hc,ag,h34I,h32I,h127I,h92I,hl1I,rdB,rdC,push_cast,seval]
      exact⟨(j+1,[]),bT (by simp(maxSteps:=9^7) (disch:=try exact dI) only[hdS,rdB,rdC,push_cast,seval]),⟨by simp only;omega,by simp only[List.length_cons,List.length_nil] at ho ⊢;omega,f+1,by simp only;omega,by simp only;rw[hnil,jv];exact hZj⟩,by simp only;omega⟩
    ·have h92I:¬ (c.toNat:Int)=92:=by omega
     rw[cH h34 hbd h92] at hZj
     have k1:=jm (T:=T) (p:=p) (lH false [] c (by simp only[List.length_cons,List.length_nil] at ho ⊢;omega))
     simp only[bB,aB,List.nil_append,List.cons_append] at k1
     simp(maxSteps:=9^7) (disch:=try exact dI) only[hdS,hltI,hc,ag,h34I,h32I,h127I,h92I,rdB,rdC,push_cast,seval]
     refine ab.lentK k1 [1] rfl qsZ qsZ ?_
     simp(maxSteps:=9^7) (disch:=try exact dI) only[push_cast,seval]
     exact⟨(j+1,[c]),bT (by simp(maxSteps:=9^7) (disch:=try exact dI) only[hdS,rdB,rdC,push_cast,seval]),⟨by simp only;omega,by simp only[List.length_cons,List.length_append,List.length_nil] at ho ⊢;omega,f,by simp only;omega,hZj⟩,by simp only;omega⟩
   ·have hltI:¬ (j:Int)<(R.s.length:Int):=by omega
    obtain rfl:j=R.s.length:=by omega
    rw[List.drop_length,jv] at hZj
    subst hZj
    have hfa:=hf a 4
    simp only[rdB,rdC] at hfa
    simp(maxSteps:=9^7) (disch:=try exact dI) only[hdS,hltI,rdB,rdC,push_cast,seval]
    refine ab.lentK hfa [0] rfl qsZ qsZ ?_
    simp(maxSteps:=9^7) (disch:=try exact dI) only[push_cast,seval]
    exact ap [] (by simp(maxSteps:=9^7) (disch:=try exact dI) only[bp,rdB,rdC,push_cast,seval])
 | cons b r=>
   by_cases hlt:j<R.s.length
   ·obtain⟨c,hc⟩:∃ c,R.s[j]? = some c:=⟨_,List.getElem?_eq_getElem hlt⟩
    have hltI:(j:Int)<(R.s.length:Int):=by omega
    rw[bV hc] at hZj
    by_cases h34:c.toNat=34
    ·have h34I:((c.toNat:Int)=34)=True:=eq_true (by omega)
     rw[fX h34] at hZj
     subst hZj
     have k1:=jm (T:=T) (p:=p) (sy true (b::r) (by simp only[List.length_cons,List.length_nil] at ho ⊢;omega))
     have k3:=jm (T:=T) (p:=p) (sx true (b::r) (by simp only[List.length_cons,List.length_nil] at ho ⊢;omega))
     have k2:=toE (T:=T) (p:=p) (sl (b::r))
     simp only[bB,GI,aB,stB] at k1 k3
     simp only[bp]
     cases hv:Lib.validD (b::r) with
     | true=>
       rw[hv] at k2
       rw[if_neg (fun h=>by cases h.2)]
       simp(maxSteps:=9^7) (disch:=try exact dI) only[hdS,hltI,hc,ag,h34I,rdB,rdC,push_cast,seval]
       refine ab.lentK k1 [1,2] rfl qsZ qsZ ?_
       simp(maxSteps:=9^7) (disch:=try exact dI) only[push_cast,seval]
       refine ab.pure k2 rfl ?_
       simp(maxSteps:=9^7) (disch:=try exact dI) only[push_cast,seval]
       refine ab.lentK k3 [1,5] rfl qsZ qsZ ?_
       simp(maxSteps:=9^7) (disch:=try exact dI) only[push_cast,seval]
       exact ap [] (by simp(maxSteps:=9^7) (disch:=try exact dI) only[rdB,rdC,push_cast,seval])
     | false=>
       rw[hv] at k2
       rw[if_pos (by simp)]
       have hfa:=hf a 16
       simp only[rdB,rdC] at hfa
       simp(maxSteps:=9^7) (disch:=try exact dI) only[hdS,hltI,hc,ag,h34I,rdB,rdC,push_cast,seval]
       refine ab.lentK k1 [1,2] rfl qsZ qsZ ?_
       simp(maxSteps:=9^7) (disch:=try exact dI) only[push_cast,seval]
       refine ab.pure k2 rfl ?_
       simp(maxSteps:=9^7) (disch:=try exact dI) only[push_cast,seval]
       refine ab.lentK hfa [0] rfl qsZ qsZ ?_
       simp(maxSteps:=9^7) (disch:=try exact dI) only[push_cast,seval]
       refine ab.lentK k3 [1,5] rfl qsZ qsZ ?_
       simp(maxSteps:=9^7) (disch:=try exact dI) only[push_cast,seval]
       exact ap [] (by simp(maxSteps:=9^7) (disch:=try exact dI) only[rdB,rdC,push_cast,seval])
    have h34I:¬ (c.toNat:Int)=34:=by omega
    by_cases hbd:c.toNat<32∨c.toNat=127
    ·rw[fx h34 hbd] at hZj
     subst hZj
     have hfa:=hf j 6
     simp only[rdB,rdC] at hfa
     by_cases h32:c.toNat<32
     ·have h32I:(c.toNat:Int)<32:=by omega
      simp(maxSteps:=9^7) (disch:=try exact dI) only[hdS,hltI,hc,ag,h34I,h32I,rdB,rdC,push_cast,seval]
      refine ab.lentK hfa [0] rfl qsZ qsZ ?_
      simp(maxSteps:=9^7) (disch:=try exact dI) only[push_cast,seval]
      exact ap [] (by simp(maxSteps:=9^7) (disch:=try exact dI) only[bp,rdB,rdC,push_cast,seval])
     ·have h32I:¬ (c.toNat:Int)<32:=by omega
      have h127:((c.toNat:Int)=127)=True:=eq_true (by omega)
      simp(maxSteps:=9^7) (disch:=try exact dI) only[hdS,hltI,hc,ag,h34I,h32I,h127,rdB,rdC,push_cast,seval]
      refine ab.lentK hfa [0] rfl qsZ qsZ ?_
      simp(maxSteps:=9^7) (disch:=try exact dI) only[push_cast,seval]
      exact ap [] (by simp(maxSteps:=9^7) (disch:=try exact dI) only[bp,rdB,rdC,push_cast,seval])
    have h32I:¬ (c.toNat:Int)<32:=by omega
    have h127I:¬ (c.toNat:Int)=127:=by omega
    by_cases h92:c.toNat=92
    ·have h92I:((c.toNat:Int)=92)=True:=eq_true (by omega)
     by_cases hl1:j+1<R.s.length
     ·have hl1I:(j:Int)+1<(R.s.length:Int):=by omega
      have hne:R.s.drop (j+1)≠[]:=by
       intro h
       have:=congrArg List.length h
       simp at this;omega
      rw[dF h92 hne] at hZj
      have hx:=toE (T:=T) (p:=p) (pr (R.s.drop (j+1)) hne (by rw[List.length_drop];omega))
      have hel:=jI (s:=R.s.drop (j+1))
      rw[List.length_drop] at hel
      have hdr:(R.s.drop (j+1)).drop (gl (R.s.drop (j+1))).1.2=R.s.drop (j+1+(gl (R.s.drop (j+1))).1.2):=by rw[List.drop_drop]
      rw[hdr] at hZj
      generalize gl (R.s.drop (j+1))=E at *
      obtain⟨⟨x,sz⟩,er⟩:=E
      simp only[Bp] at hx hel hZj
      obtain⟨q,hq⟩:∃ q,q=R.s.drop (j+1):=⟨_,rfl⟩
      have htn:((j:Int)+1).toNat=j+1:=by omega
      by_cases her:er=0
      ·subst her
       rw[if_pos rfl] at hZj
       obtain⟨e1,e2,e4,e3⟩:=hel rfl
       have k1:=jm (T:=T) (p:=p) (nR true (b::r) x (by simp only[List.length_cons,List.length_nil] at ho ⊢;omega) (by omega))
       cases x with
       | nil=>exact absurd e4 (by simp)
       | cons x0 xs=>
         simp only[bB,aB,List.nil_append,List.cons_append] at k1
         simp(maxSteps:=9^7) (disch:=try exact dI) only[hdS,hltI,hc,ag,h34I,h32I,h127I,h92I,hl1I,htn,rdB,rdC,push_cast,seval]
         refine ab.pure hx (by simp(maxSteps:=9^7) (disch:=try exact dI) only[List.take_length,push_cast,seval]) ?_
         simp(maxSteps:=9^7) (disch:=try exact dI) only[push_cast,seval]
         refine ab.lentK k1 [1,2] rfl qsZ qsZ ?_
         simp(maxSteps:=9^7) (disch:=try exact dI) only[push_cast,seval]
         exact⟨(j+1+sz,b::(r++x0::xs)),bT (by simp(maxSteps:=9^7) (disch:=try exact dI) only[hdS,rdB,rdC,Nat.add_right_comm,push_cast,seval]),⟨by simp only;omega,by simp only[List.length_cons,List.length_append,List.length_nil] at ho e3 ⊢;omega,f,by simp only;omega,hZj⟩,by simp only;omega⟩
      ·have herI:¬ er=0:=her
       rw[if_neg her] at hZj
       subst hZj
       have hfa:=hf j er
       simp only[rdB,rdC] at hfa
       simp(maxSteps:=9^7) (disch:=try exact dI) only[hdS,hltI,hc,ag,h34I,h32I,h127I,h92I,hl1I,htn,rdB,rdC,push_cast,seval]
       refine ab.pure hx (by simp(maxSteps:=9^7) (disch:=try exact dI) only[List.take_length,push_cast,seval]) ?_
       simp(maxSteps:=9^7) (disch:=try exact dI) only[herI,push_cast,seval]
       refine ab.lentK hfa [0] rfl qsZ qsZ ?_
       simp(maxSteps:=9^7) (disch:=try exact dI) only[push_cast,seval]
       exact ap [] (by simp(maxSteps:=9^7) (disch:=try exact dI) only[bp,rdB,rdC,push_cast,seval])
     ·have hl1I:¬ (j:Int)+1<(R.s.length:Int):=by omega
      have hnil:R.s.drop (j+1)=[]:=List.drop_eq_nil_of_le (by omega)
      rw[hnil,dY h92] at hZj
      simp(maxSteps:=9^7) (disch:=try exact dI) only[hdS,hltI,hc,ag,h34I,h32I,h127I,h92I,hl1I,rdB,rdC,push_cast,seval]
      exact⟨(j+1,(b::r)),bT (by simp(maxSteps:=9^7) (disch:=try exact dI) only[hdS,rdB,rdC,push_cast,seval]),⟨by simp only;omega,by simp only[List.length_cons,List.length_nil] at ho ⊢;omega,f+1,by simp only;omega,by simp only;rw[hnil,jv];exact hZj⟩,by simp only;omega⟩
    ·have h92I:¬ (c.toNat:Int)=92:=by omega
     rw[cH h34 hbd h92] at hZj
     have k1:=jm (T:=T) (p:=p) (lH true (b::r) c (by simp only[List.length_cons,List.length_nil] at ho ⊢;omega))
     simp only[bB,aB,List.nil_append,List.cons_append] at k1
     simp(maxSteps:=9^7) (disch:=try exact dI) only[hdS,hltI,hc,ag,h34I,h32I,h127I,h92I,rdB,rdC,push_cast,seval]
     refine ab.lentK k1 [1,2] rfl qsZ qsZ ?_
     simp(maxSteps:=9^7) (disch:=try exact dI) only[push_cast,seval]
     exact⟨(j+1,b::(r++[c])),bT (by simp(maxSteps:=9^7) (disch:=try exact dI) only[hdS,rdB,rdC,push_cast,seval]),⟨by simp only;omega,by simp only[List.length_cons,List.length_append,List.length_nil] at ho ⊢;omega,f,by simp only;omega,hZj⟩,by simp only;omega⟩
   ·have hltI:¬ (j:Int)<(R.s.length:Int):=by omega
    obtain rfl:j=R.s.length:=by omega
    rw[List.drop_length,jv] at hZj
    subst hZj
    have hfa:=hf a 4
    simp only[rdB,rdC] at hfa
    simp(maxSteps:=9^7) (disch:=try exact dI) only[hdS,hltI,rdB,rdC,push_cast,seval]
    refine ab.lentK hfa [0] rfl qsZ qsZ ?_
    simp(maxSteps:=9^7) (disch:=try exact dI) only[push_cast,seval]
    exact ap [] (by simp(maxSteps:=9^7) (disch:=try exact dI) only[bp,rdB,rdC,push_cast,seval])
end
end Go.Proofs.YtamoeblcphjbaaaGreatDoor
